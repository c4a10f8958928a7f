/- The walk of the document's Bytes: a record that may be, as bytes. -/
import Derived.Test.YtoeoodiifpoomaaGreatDoorParts
set_option linter.unusedSimpArgs false
set_option linter.unusedVariables false
set_option maxRecDepth 20000
namespace Go.Proofs.YtoeoodiifpoomaaGreatDoor
open Go.RowKit Moi
attribute [local go_sem] toList_str str_size less_ltB store_float
theorem partAt_mem {l : List MPart} {i : Nat} (h : i < l.length) : partAt l i ∈ l := by
  unfold partAt; rw [List.getD_eq_getElem?_getD, List.getElem?_eq_getElem h, Option.getD_some]; exact List.getElem_mem h
theorem recParts_wf {r : MRec} (hck : checkRec r = 0) (hf : r.Full) : ∀ p ∈ recParts r, p.WF := by
  obtain ⟨h1, h2, h3, h4, h5, h6, h7⟩ := check_parts hck
  obtain ⟨hl, hi⟩ := check_list hck
  have hc := check_ok hck
  intro p hp
  unfold recParts at hp
  rcases List.mem_cons.1 hp with rfl | hp
  · show r.kind.toNat < _; omega
  split at hp
  · simp at hp; subst hp; show r.text.length ≤ _; omega
  split at hp
  · simp at hp; subst hp; exact hf.wf.num
  split at hp
  · simp at hp; rcases hp with rfl | rfl | rfl
    · exact hf.wf.low
    · exact hf.wf.high
    · exact hf.wf.num
  split at hp
  · simp at hp; subst hp; exact fkey_lt _ hf.wf.real
  rcases List.mem_cons.1 hp with rfl | hp
  · show r.cap.toNat < _; omega
  rcases List.mem_cons.1 hp with rfl | hp
  · show r.list.length < _; omega
  simp only [List.mem_flatMap] at hp
  obtain ⟨x, hx, hp⟩ := hp
  unfold itemParts at hp
  rcases List.mem_append.1 hp with hp | hp
  · split at hp
    · simp at hp; subst hp; exact fkey_lt _ (hf.sc x hx)
    · cases hp
  · simp at hp; subst hp; have := (hi x hx).1; show x.name.length ≤ _; omega
theorem recParts_len {r : MRec} (hck : checkRec r = 0) : (recParts r).length ≤ 1000 := by
  obtain ⟨hl, hi⟩ := check_list hck
  have key : ∀ (t : Bool) (l : List MItem), (l.flatMap (itemParts t)).length ≤ 2 * l.length := by
    intro t l
    induction l with
    | nil => simp
    | cons x l ih => simp only [List.flatMap_cons, List.length_append, List.length_cons, itemParts]; cases t <;> simp [itemParts] at * <;> omega
  have := key (decide (r.kind = 9)) r.list
  unfold recParts
  repeat' split
  all_goals (simp only [List.length_cons, List.length_nil] at *; omega)
theorem parts_any (r : MRec) (hck : checkRec r = 0) (hf : r.WF) (A : Option Addr) (n c : Nat) (w : World) (hit : RdItems w A n r.list) :
    Calls Tryz.prog 163 #[recVal r A n c] w (NewParts w (recParts r)) := by
  obtain ⟨h1, h2, h3, h4⟩ := check_ok hck
  have hn : n ≤ 32 := by have := (check_list hck).1; have := hit.len; omega
  obtain ⟨k, hk⟩ : ∃ k : Nat, r.kind = (k : Int) := ⟨r.kind.toNat, by omega⟩
  obtain ⟨cp, hcp⟩ : ∃ cp : Nat, r.cap = (cp : Int) := ⟨r.cap.toNat, by omega⟩
  have hcases : k = 1 ∨ k = 2 ∨ k = 3 ∨ k = 4 ∨ k = 5 ∨ k = 6 ∨ k = 7 ∨ k = 8 ∨ k = 9 := by omega
  unfold recVal
  rcases hcases with rfl | rfl | rfl | rfl | rfl | rfl | rfl | rfl | rfl
  · rw [hk]; exact parts_1 r hk A n c hf.real w
  · rw [hk]; exact parts_2 r hk A n c hf.real w
  · rw [hk]; exact parts_3 r hk A n c hf.real w
  · rw [hk]; exact parts_4 r hk A n c hf.real w
  · rw [hk]; exact parts_5 r hk A n c hf.real w
  · rw [hk]; exact parts_6 r hk A n c hf.real w
  · rw [hk]; exact parts_7 r hk A n c hf.real w
  · rw [hk, hcp]; exact parts_8 r hk A n c hf.real w cp hcp (by omega) hn hit
  · rw [hk, hcp]; exact parts_9 r hk A n c hf.real w cp hcp (by omega) hn hit
end Go.Proofs.YtoeoodiifpoomaaGreatDoor
