/- Keys, plainly: what the document's way of finding keys comes to. No walk. -/
import Derived.Test.YtoeoodiifpoomaaGreatDoorDeals
set_option linter.unusedSimpArgs false
set_option linter.unusedVariables false
set_option maxRecDepth 20000
namespace Go.Proofs.YtoeoodiifpoomaaGreatDoor
open Go.RowKit Moi
theorem keys_mem {α : Type} [Inhabited α] [DecidableEq α] (zs : List α) (x : α) : x ∈ Lib.compact zs ↔ x ∈ zs := by
 unfold Lib.compact Lib.compactUpTo
 simp only [List.mem_map, List.mem_filter, List.mem_range]
 constructor
 ·rintro ⟨j, ⟨hj, _⟩, rfl⟩
  simp [getElem!_pos, hj]
 ·intro hx
  obtain ⟨j, hj, rfl⟩ := List.getElem_of_mem hx
  -- the least index with that element
  have : ∀ m, ∀ j (hj : j < zs.length), j ≤ m → ∃ i, i < zs.length ∧ Lib.keeps zs.toArray i = true ∧ zs.toArray[i]! = zs[j] := by
   intro m
   induction m with
   | zero =>
    intro j hj h0
    obtain rfl : j = 0 := by omega
    exact ⟨0, hj, Lib.keeps_lt_one _ 0 (by omega), by simp [getElem!_pos, hj]⟩
   | succ m ih =>
    intro j hj hm
    by_cases hk : Lib.keeps zs.toArray j = true
    ·exact ⟨j, hj, hk, by simp [getElem!_pos, hj]⟩
    ·have h1 : 0 < j := by
      rcases Nat.eq_zero_or_pos j with h | h
      ·subst h; exact absurd (Lib.keeps_lt_one _ 0 (by omega)) hk
      ·exact h
     have h2 : zs.toArray[j]! = zs.toArray[j - 1]! := Classical.byContradiction fun h => hk (Lib.keeps_pos h)
     have h3 : j - 1 < zs.length := by omega
     simp only [List.getElem!_toArray, getElem!_pos, hj, h3] at h2
     obtain ⟨i, hi, hk', e⟩ := ih (j - 1) h3 (by omega)
     exact ⟨i, hi, hk', by rw [e, ← h2]⟩
  obtain ⟨i, hi, hk, e⟩ := this j j hj (Nat.le_refl _)
  exact ⟨i, ⟨hi, hk⟩, e⟩
theorem lt_of_le_ne {a b : List UInt8} (h : a ≤ b) (hn : a ≠ b) : a < b := by
 rcases Classical.em (a < b) with h1 | h1
 ·exact h1
 ·exact absurd (List.le_antisymm h (List.not_lt.1 h1)) hn
theorem keys_strict {zs : List (List UInt8)} (h : zs.Pairwise (· ≤ ·)) : (Lib.compact zs).Pairwise (· < ·) := by
 unfold Lib.compact Lib.compactUpTo
 rw [List.pairwise_map]
 have hp : (List.range zs.length).Pairwise (· < ·) := List.pairwise_lt_range
 have hf := hp.filter (Lib.keeps zs.toArray)
 refine hf.imp_of_mem fun {i j} hi hj hij => ?_
 simp only [List.mem_filter, List.mem_range] at hi hj
 have hle : ∀ a b, a ≤ b → (hb : b < zs.length) → zs.toArray[a]! ≤ zs.toArray[b]! := fun a b hab hb => by
  simp only [List.getElem!_toArray, getElem!_pos, hb, show a < zs.length by omega]
  rcases Nat.lt_or_ge a b with h1 | h1
  ·exact List.pairwise_iff_getElem.1 h a b (by omega) hb h1
  ·obtain rfl : a = b := by omega
   exact List.le_refl _
 have hne : zs.toArray[j]! ≠ zs.toArray[j - 1]! := fun e => by
  have := Lib.keeps_neg (d := zs.toArray) (m := j) (by omega) e
  rw [hj.2] at this; cases this
 have h1 : zs.toArray[j - 1]! < zs.toArray[j]! := lt_of_le_ne (hle _ _ (by omega) hj.1) (fun e => hne e.symm)
 exact List.lt_of_le_of_lt (hle i (j - 1) (by omega) (by omega)) h1
theorem sort_le (l : List (List UInt8)) : (l.mergeSort fun x y => decide (x ≤ y)).Pairwise (· ≤ ·) := by
 have tr : ∀ a b c : List UInt8, decide (a ≤ b) = true → decide (b ≤ c) = true → decide (a ≤ c) = true := fun a b c h1 h2 => by
  simp only [decide_eq_true_eq] at *; exact List.le_trans h1 h2
 have to : ∀ a b : List UInt8, (decide (a ≤ b) || decide (b ≤ a)) = true := fun a b => by
  simp only [Bool.or_eq_true, decide_eq_true_eq]; exact List.le_total a b
 exact (List.pairwise_mergeSort tr to l).imp fun h => by simpa using h
theorem keysOf_strict (l : List MAct) : (keysOf l).Pairwise (· < ·) := keys_strict (sort_le _)
theorem keysOf_mem (l : List MAct) (x : List UInt8) : x ∈ keysOf l ↔ ∃ a ∈ l, a.key = x := by
 unfold keysOf
 rw [keys_mem, List.mem_mergeSort, List.mem_map]
theorem keysOf_len (l : List MAct) : (keysOf l).length ≤ l.length := by
 unfold keysOf
 refine Nat.le_trans (Lib.compact_length_le _) ?_
 rw [List.length_mergeSort, List.length_map]; exact Nat.le_refl _
def bestStep (out : List (List UInt8)) (s : Option (List UInt8)) (k : List UInt8) : Option (List UInt8) :=
 if out.contains k then s else match s with
  | none => some k
  | some b => if ltB k b then some k else some b
theorem ltB_lt : ∀ a b : List UInt8, ltB a b = true ↔ a < b
 | [], [] => by simp [ltB]
 | [], _ :: _ => by simp [ltB]
 | _ :: _, [] => by simp [ltB]
 | x :: a, y :: b => by
  rw [ltB, Bool.or_eq_true, Bool.and_eq_true, decide_eq_true_eq, beq_iff_eq, ltB_lt a b, List.cons_lt_cons_iff]
def Best (out : List (List UInt8)) (l : List MAct) (s : Option (List UInt8)) : Prop :=
 match s with
 | none => ∀ a ∈ l, a.key ∈ out
 | some b => (∃ a ∈ l, a.key = b) ∧ b ∉ out ∧ ∀ a ∈ l, a.key ∉ out → b ≤ a.key
theorem best_step {out : List (List UInt8)} {l : List MAct} {s : Option (List UInt8)} (h : Best out l s) (x : MAct) : Best out (l ++ [x]) (bestStep out s x.key) := by
 unfold bestStep
 by_cases hc : out.contains x.key = true
 ·rw [if_pos hc]
  have hm : x.key ∈ out := by simpa using hc
  cases s with
  | none => exact fun a ha => by rcases List.mem_append.1 ha with h1 | h1; exact h a h1; (obtain rfl : a = x := by simpa using h1); exact hm
  | some b =>
   obtain ⟨⟨a0, h0, e0⟩, h2, h3⟩ := h
   exact ⟨⟨a0, List.mem_append.2 (.inl h0), e0⟩, h2, fun a ha hn => by rcases List.mem_append.1 ha with h1 | h1; exact h3 a h1 hn; (obtain rfl : a = x := by simpa using h1); exact absurd hm hn⟩
 ·rw [if_neg hc]
  have hm : x.key ∉ out := by simpa using hc
  cases s with
  | none => exact ⟨⟨x, List.mem_append.2 (.inr (by simp)), rfl⟩, hm, fun a ha hn => by rcases List.mem_append.1 ha with h1 | h1; exact absurd (h a h1) hn; (obtain rfl : a = x := by simpa using h1); exact List.le_refl _⟩
  | some b =>
   obtain ⟨⟨a0, h0, e0⟩, h2, h3⟩ := h
   by_cases hl : ltB x.key b = true
   ·simp only [hl, if_true]
    have hlt := (ltB_lt _ _).1 hl
    exact ⟨⟨x, List.mem_append.2 (.inr (by simp)), rfl⟩, hm, fun a ha hn => by
     rcases List.mem_append.1 ha with h1 | h1
     ·exact List.le_trans (List.le_of_lt hlt) (h3 a h1 hn)
     ·obtain rfl : a = x := by simpa using h1
      exact List.le_refl _⟩
   ·simp only [hl]
    have hge : b ≤ x.key := List.not_lt.1 fun h => hl ((ltB_lt _ _).2 h)
    exact ⟨⟨a0, List.mem_append.2 (.inl h0), e0⟩, h2, fun a ha hn => by
     rcases List.mem_append.1 ha with h1 | h1
     ·exact h3 a h1 hn
     ·obtain rfl : a = x := by simpa using h1
      exact hge⟩
theorem best_all {l : List MAct} {j : Nat} {s : Option (List UInt8)} (h : Best ((keysOf l).take j) l s) : s = (keysOf l)[j]? := by
 have hs := keysOf_strict l
 have hsp := List.pairwise_iff_getElem.1 hs
 rcases Nat.lt_or_ge j (keysOf l).length with hj | hj
 ·rw [List.getElem?_eq_getElem hj]
  have hout : (keysOf l)[j] ∉ (keysOf l).take j := fun hm => by
   obtain ⟨i, hi, e⟩ := List.getElem_of_mem hm
   rw [List.length_take] at hi
   rw [List.getElem_take] at e
   have := hsp i j (by omega) hj (by omega)
   rw [e] at this
   exact List.lt_irrefl _ this
  obtain ⟨a, ha, ek⟩ := (keysOf_mem l _).1 (List.getElem_mem hj)
  cases s with
  | none => exact absurd (ek ▸ h a ha) hout
  | some b =>
   obtain ⟨⟨a0, h0, e0⟩, h2, h3⟩ := h
   have hb : b ∈ keysOf l := (keysOf_mem l b).2 ⟨a0, h0, e0⟩
   obtain ⟨i, hi, e⟩ := List.getElem_of_mem hb
   have hij : j ≤ i := Nat.le_of_not_lt fun hlt => h2 (by rw [← e]; exact List.mem_take_iff_getElem.2 ⟨i, by omega, rfl⟩)
   have h4 := h3 a ha (by rw [ek]; exact hout)
   rw [ek] at h4
   rcases Nat.lt_or_ge j i with hlt | hge
   ·have := hsp j i hj hi hlt
    rw [e] at this
    exact absurd this (List.not_lt.2 h4)
   ·obtain rfl : i = j := by omega
    rw [e]
 ·rw [List.getElem?_eq_none hj]
  rw [List.take_of_length_le hj] at h
  cases s with
  | none => rfl
  | some b =>
   obtain ⟨⟨a0, h0, e0⟩, h2, _⟩ := h
   exact absurd ((keysOf_mem l b).2 ⟨a0, h0, e0⟩) h2
end Go.Proofs.YtoeoodiifpoomaaGreatDoor
