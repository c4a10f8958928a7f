/- The walk of the document's Write: parts as bytes. -/
import Derived.Test.YtocllhghbmbjpaaDoorWOne
set_option linter.unusedSimpArgs false
set_option linter.unusedVariables false
set_option maxRecDepth 20000
namespace Go.Proofs.YtocllhghbmbjpaaDoor
open Go.RowKit Moi
attribute [local go_sem] toList_str str_size less_ltB store_float
def partAt (l : List MPart) (i : Nat) : MPart := l.getD i (.u 0)
def catParts (l : List MPart) : List UInt8 := l.flatMap wPart
theorem catParts_take (l : List MPart) (i : Nat) (h : i < l.length) : catParts (l.take (i + 1)) = catParts (l.take i) ++ wPart (partAt l i) := by
  have : l.take (i + 1) = l.take i ++ [partAt l i] := by
    rw [List.take_add_one, List.getElem?_eq_getElem h]; simp [partAt, List.getD, h]
  rw [this]; simp [catParts]
theorem catParts_le (l : List MPart) (i : Nat) : (catParts (l.take i)).length ≤ (catParts l).length := by
  have e : catParts l = catParts (l.take i) ++ catParts (l.drop i) := by
    conv => lhs; rw [← List.take_append_drop i l]
    unfold catParts; rw [List.flatMap_append]
  rw [e, List.length_append]; omega
theorem partCells_six (p : MPart) : ∃ v0 v1 v2 v3 v4 v5, partCells p = #[v0, v1, v2, v3, v4, v5] := by
  cases p <;> exact ⟨_, _, _, _, _, _, rfl⟩
structure RdParts (W : World) (A : Option Addr) (n : Nat) (l : List MPart) : Prop where
  len : l.length = n
  rows : 0 < n → ∃ b o, A = some ⟨b, o, none⟩ ∧ b < W.heap.size ∧ ∀ i, i < n → ∀ j, j < 6 → W.cell? ⟨b, o + i * 6 + j, none⟩ = (partCells (partAt l i))[j]?
theorem RdParts.cln {W W' : World} {A : Option Addr} {n : Nat} {l : List MPart} (h : RdParts W A n l) (k : Cln W W') : RdParts W' A n l := by
  have k' := Kept.of_below (S := fun _ => False) k
  refine ⟨h.len, fun h0 => ?_⟩
  obtain ⟨b, o, rfl, hb, hi⟩ := h.rows h0
  refine ⟨b, o, rfl, Nat.lt_of_lt_of_le hb k.size, fun i hlt j hj => ?_⟩
  obtain ⟨v0, v1, v2, v3, v4, v5, e⟩ := partCells_six (partAt l i)
  have h1 := hi i hlt j hj
  have hs : ∃ u, (partCells (partAt l i))[j]? = some u := by rw [e]; exact ⟨_, Array.getElem?_eq_getElem (show j < 6 from hj)⟩
  obtain ⟨u, hu⟩ := hs
  rw [hu] at h1 ⊢
  exact k'.cell h1 id
set_option maxHeartbeats 8000000 in
theorem write_any (l : List MPart) (A : Option Addr) (n c : Nat) (hn : n ≤ 1000000) (hwf : ∀ i, i < n → (partAt l i).WF) (hsum : (catParts l).length ≤ 100000000) (w : World) (hr : RdParts w A n l) :
    Calls Tryd.prog 45 #[.slice A n c] w (NewBytes w (catParts l)) := by
  have hlen := Lib.hid hr.len
  have hr := Lib.hid hr
  have hlit := Lib.hid (World.ownsRow_lit (base := w.heap.size) (e := 5) (size := 1) w #[] 0 (Nat.le_refl _) (Nat.zero_le _) rfl)
  replace hwf := Lib.hid hwf
  replace hsum := Lib.hid hsum
  go_enter Tryd.func45, Tryd.ntmps45
  go_wp2_with fail
  go_loopw [3, 4] (fun v3 v4 wr => ∃ (i : Nat) (A' : Option Addr) (c' m : Nat), i ≤ n ∧ v4 = .int .i64 (i : Nat) ∧ v3 = .slice A' m c' ∧ Hid (m = (catParts (l.take i)).length) ∧ Hid (Cln w wr) ∧ Hid (wr.ownsRow w.heap.size 5 1 (.slice A' m c') m (byteVals (catParts (l.take i))))) (fun _ v4 _ => (n - intOf v4).toNat)
  case atStart => exact ⟨0, _, _, 0, Nat.zero_le _, rfl, rfl, by simp [Hid, catParts], Lib.hid (by (repeat (first | (with_reducible exact Below.refl _ _) | (with_reducible assumption) | (with_reducible refine Below.setCell ?_ (by first | omega | (simp; done) | (simp; omega)) _) | (with_reducible refine Below.alloc ?_ (by first | omega | (simp; done) | (simp; omega)) _) | (with_reducible refine Below.drew ?_) | (with_reducible refine below_drewN ?_ _)))), Lib.hid (by simpa [catParts, byteVals] using hlit.out)⟩
  case round =>
    obtain ⟨i, A', c', m, hi, rfl, rfl, hm, hcl, hown⟩ := hrel
    by_cases hlt : i < n
    · obtain ⟨b, o, rfl, hblt, hcell⟩ := (hr.out.cln hcl.out).rows (by omega)
      have hc := hcell i hlt
      have hp := hwf.out i hlt
      have htk := Lib.hid (catParts_take l i (by rw [hlen.out]; exact hlt))
      have hbnd : (catParts (l.take (i + 1))).length ≤ 100000000 := Nat.le_trans (catParts_le l (i + 1)) hsum.out
      generalize partAt l i = p at hc hp htk
      obtain ⟨v0, v1, v2, v3, v4, v5, e⟩ := partCells_six p
      rw [e] at hc
      have f0 : wr.cell? ⟨b, o + i * 6, none⟩ = some v0 := hc 0 (by omega)
      have f1 : wr.cell? ⟨b, o + i * 6 + 1, none⟩ = some v1 := hc 1 (by omega)
      have f2 : wr.cell? ⟨b, o + i * 6 + 2, none⟩ = some v2 := hc 2 (by omega)
      have f3 : wr.cell? ⟨b, o + i * 6 + 3, none⟩ = some v3 := hc 3 (by omega)
      have f4 : wr.cell? ⟨b, o + i * 6 + 4, none⟩ = some v4 := hc 4 (by omega)
      have f5 : wr.cell? ⟨b, o + i * 6 + 5, none⟩ = some v5 := hc 5 (by omega)
      have hone := partOne_any p hp
      rw [e] at hone
      clear hcell hc e
      replace htk := htk.out
      rw [htk, List.length_append] at hbnd
      replace htk := Lib.hid htk
      replace hbnd := Lib.hid hbnd
      go_wp2_with fail
      refine (hone _).mono ?_
      rintro e w2 ⟨A2, c2, m2, hm2, rfl, hown2, hq⟩
      have hown1 := own_cln hown.out hq
      have hcl2 := cln_trans hcl.out hq
      have hmm : m + m2 ≤ 100000000 := by rw [hm.out, hm2.out]; exact hbnd.out
      have hrd2 := own_rd hown2
      replace hcl2 := Lib.hid hcl2; replace hrd2 := Lib.hid hrd2; replace hown1 := Lib.hid hown1
      clear f0 f1 f2 f3 f4 f5 hq hown2 hone
      go_wp2_with (
        at_builtin
        refine wpList_catB rfl _ _ rfl rfl rfl hown1.out hrd2.out (by omega) hcl2.out.size ?_
        intro A5 c5 w5 hown5 hg5
        have hkeep := Lib.hid (And.intro hown5 (hcl2.out.grown hg5 hcl2.out.size (fun k hk => own_lo hown1.out k hk)))
        clear hown5 hg5)
      go_roundw
      case rel => exact ⟨i + 1, A5, c5, m + m2, hlt, by go_num, rfl, by unfold Hid; rw [htk.out, List.length_append, hm.out, hm2.out], Lib.hid hkeep.out.2, Lib.hid (by rw [htk.out]; exact hkeep.out.1)⟩
      case measure => simp [intOf]; omega
    · obtain rfl : i = n := by omega
      have t2 : decide ((i : Int) < (i : Int)) = false := decide_eq_false (by omega)
      rw [List.take_of_length_le (by rw [hlen.out]; exact Nat.le_refl _)] at hm hown
      go_wp2_with fail
      go_ret
      exact ⟨A', c', m, hm, rfl, hown.out, hcl.out⟩
end Go.Proofs.YtocllhghbmbjpaaDoor
