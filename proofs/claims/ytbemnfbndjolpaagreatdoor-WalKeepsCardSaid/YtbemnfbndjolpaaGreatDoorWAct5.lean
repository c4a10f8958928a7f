/- The walk of act.Bytes. -/
import Derived.Test.YtbemnfbndjolpaaGreatDoorWAct3
import Derived.Test.YtbemnfbndjolpaaGreatDoorWAct4
import Derived.Test.YtbemnfbndjolpaaGreatDoorWBytes
set_option linter.unusedSimpArgs false
set_option linter.unusedVariables false
set_option maxRecDepth 20000
namespace Go.Proofs.YtbemnfbndjolpaaGreatDoor
open Go.RowKit Moi
attribute [local go_sem] toList_str str_size less_ltB store_float
theorem hasF_109 (k : Nat) (h : 1 ≤ k ∧ k ≤ 21) : hasF (k : Int) 109 = decide (k = 1) := by
 rcases act_class k h with ⟨_, _, _, h4, h5⟩ | ⟨_, _, _, h4, h5⟩ | ⟨_, _, _, h4, h5⟩ | ⟨_, _, _, h4, h5⟩ | ⟨_, _, _, h4, h5⟩ | ⟨_, _, _, h4, h5⟩ <;> rw [h4] <;> simp [h5]
theorem act_make {a : MAct} (h : checkAct a = 0) : (a.kind = 1 ∧ checkRec a.make = 0) ∨ (a.kind ≠ 1 ∧ sameRec a.make zeroRec = true) := by
 obtain ⟨h1, h2, _, _, hb, _, _, h8⟩ := act_ok h
 by_cases hk : a.kind = 1
 ·exact .inl ⟨hk, h8 hk⟩
 ·refine .inr ⟨hk, ?_⟩
  obtain ⟨k, e⟩ : ∃ k : Nat, a.kind = (k : Int) := ⟨a.kind.toNat, by omega⟩
  unfold bareA at hb
  rw [e, hasF_109 k (by omega), show decide (k = 1) = false from decide_eq_false (by omega)] at hb
  simp only [Bool.and_eq_true, Bool.false_or] at hb
  exact hb.2
theorem act_list {a : MAct} (h : checkAct a = 0) : a.make.list.length ≤ 32 := by
 rcases act_make h with ⟨_, h1⟩ | ⟨_, h1⟩
 ·exact (check_list h1).1
 ·unfold sameRec at h1
  simp only [Bool.and_eq_true] at h1
  have := h1.2
  cases hl : a.make.list with
  | nil => simp
  | cons x l => rw [hl] at this; cases this
theorem act_s {a : MAct} (h : checkAct a = 0) : a.s.length ≤ 64 := by
 obtain ⟨_, _, _, _, _, h6, _, _⟩ := act_ok h
 unfold mostOf at h6
 split at h6 <;> omega
theorem wAct_len {a : MAct} (h : checkAct a = 0) (hf : a.WF) : (wAct a).length ≤ 1400 := by
 obtain ⟨h1, h2, h3, h4, hb, h6, h7, h8⟩ := act_ok h
 have e1 := wU_len10 a.kind.toNat (by omega)
 have e2 := wS_len a.key (by omega)
 have e3 := wI_len a.n hf.n
 have e4 := wS_len a.s (by have := act_s h; omega)
 have e5 := act_s h
 have e6 : (if hasF a.kind 109 then wRec a.make else []).length ≤ 1200 := by
  split
  ·rename_i hm
   obtain ⟨k, e⟩ : ∃ k : Nat, a.kind = (k : Int) := ⟨a.kind.toNat, by omega⟩
   rw [e, hasF_109 k (by omega)] at hm
   exact wRec_len (h8 (by have := of_decide_eq_true hm; omega)) hf.make
  ·simp
 have e7 : (if hasF a.kind 110 then wI a.n else []).length ≤ 10 := by
  split
  ·omega
  ·exact Nat.zero_le _
 have e8 : (if hasF a.kind 120 then wF a.x else []).length ≤ 8 := by split <;> simp [wF_len]
 have e9 : (if hasF a.kind 115 then wS a.s else []).length ≤ 74 := by
  split
  ·omega
  ·exact Nat.zero_le _
 unfold wAct
 simp only [List.length_append, wFlag, List.length_singleton]
 omega
end Go.Proofs.YtbemnfbndjolpaaGreatDoor
