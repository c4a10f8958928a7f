/- The walks of the document's kinds of acts: On, Fields, Has. (Printed by wip/tools/gen_actr.py.) -/
import Derived.Test.YtbemnfbndjolpaaGreatDoorWActK
set_option linter.unusedSimpArgs false
set_option linter.unusedVariables false
set_option maxRecDepth 20000
namespace Go.Proofs.YtbemnfbndjolpaaGreatDoor
open Go.RowKit Moi
attribute [local go_sem] toList_str str_size less_ltB store_float

theorem ron_cells (i : Nat) (hi : i < 22) : (#[.int .i64 0, .int .i64 0, .int .i64 0, .int .i64 0, .int .i64 0, .int .i64 1, .int .i64 1, .int .i64 2, .int .i64 3, .int .i64 3, .int .i64 4, .int .i64 4, .int .i64 4, .int .i64 5, .int .i64 6, .int .i64 7, .int .i64 7, .int .i64 7, .int .i64 8, .int .i64 8, .int .i64 8, .int .i64 9] : Array Value)[i]? = some (.int .i64 (onOf (i : Int) : Nat)) := by
 have h : i = 0 ∨ i = 1 ∨ i = 2 ∨ i = 3 ∨ i = 4 ∨ i = 5 ∨ i = 6 ∨ i = 7 ∨ i = 8 ∨ i = 9 ∨ i = 10 ∨ i = 11 ∨ i = 12 ∨ i = 13 ∨ i = 14 ∨ i = 15 ∨ i = 16 ∨ i = 17 ∨ i = 18 ∨ i = 19 ∨ i = 20 ∨ i = 21 := by omega
 rcases h with rfl | rfl | rfl | rfl | rfl | rfl | rfl | rfl | rfl | rfl | rfl | rfl | rfl | rfl | rfl | rfl | rfl | rfl | rfl | rfl | rfl | rfl <;> rfl
set_option maxHeartbeats 4000000 in
theorem ron_any (k : Int) (w : World) :
  Calls Tryz.prog 72 #[.int .i64 k] w fun e w' => e = .returned (.int .i64 (onOf k : Nat)) ∧ Cln w w' := by
 by_cases h0 : k < 0
 ·have t1 : decide (k < 0) = true := decide_eq_true h0
  have hI : onOf k = 0 := by unfold onOf; rw [if_neg (by omega)]
  rw [hI]
  clear hI
  go_enter Tryz.func72, Tryz.ntmps72
  go_wp2_with fail
  go_ret
  exact ⟨rfl, by (repeat with_reducible first | exact cR _ | assumption | refine cA ?_ _ | refine cD ?_ | refine cN ?_ _ | refine cS ?_ (by first | omega | (simp <;> omega)) _)⟩
 ·obtain ⟨i, rfl⟩ := Int.eq_ofNat_of_zero_le (show 0 ≤ k by omega)
  have t1 : decide ((i : Int) < 0) = false := decide_eq_false (by omega)
  by_cases h1 : 21 < i
  ·have t2 : decide (21 < (i : Int)) = true := decide_eq_true (by omega)
   have hI : onOf (i : Int) = 0 := by unfold onOf; rw [if_neg (by omega)]
   rw [hI]
   clear hI
   go_enter Tryz.func72, Tryz.ntmps72
   go_wp2_with fail
   go_ret
   exact ⟨rfl, by (repeat with_reducible first | exact cR _ | assumption | refine cA ?_ _ | refine cD ?_ | refine cN ?_ _ | refine cS ?_ (by first | omega | (simp <;> omega)) _)⟩
  ·have t2 : decide (21 < (i : Int)) = false := decide_eq_false (by omega)
   have hc : (w.alloc (.cells #[.int .i64 0, .int .i64 0, .int .i64 0, .int .i64 0, .int .i64 0, .int .i64 1, .int .i64 1, .int .i64 2, .int .i64 3, .int .i64 3, .int .i64 4, .int .i64 4, .int .i64 4, .int .i64 5, .int .i64 6, .int .i64 7, .int .i64 7, .int .i64 7, .int .i64 8, .int .i64 8, .int .i64 8, .int .i64 9] 3)).cell? ⟨w.heap.size, i, none⟩ = some (.int .i64 (onOf (i : Int) : Nat)) := ((Blk.new w 3 #[.int .i64 0, .int .i64 0, .int .i64 0, .int .i64 0, .int .i64 0, .int .i64 1, .int .i64 1, .int .i64 2, .int .i64 3, .int .i64 3, .int .i64 4, .int .i64 4, .int .i64 4, .int .i64 5, .int .i64 6, .int .i64 7, .int .i64 7, .int .i64 7, .int .i64 8, .int .i64 8, .int .i64 8, .int .i64 9]).cell i).trans (ron_cells i (by omega))
   generalize onOf (i : Int) = on at hc ⊢
   go_enter Tryz.func72, Tryz.ntmps72
   go_wp2_with fail
   go_ret
   exact ⟨rfl, by (repeat with_reducible first | exact cR _ | assumption | refine cA ?_ _ | refine cD ?_ | refine cN ?_ _ | refine cS ?_ (by first | omega | (simp <;> omega)) _)⟩

theorem rfields_cells (i : Nat) (hi : i < 22) : (#[.string ⟨#[]⟩, .string ⟨#[109]⟩, .string ⟨#[]⟩, .string ⟨#[]⟩, .string ⟨#[]⟩, .string ⟨#[115]⟩, .string ⟨#[115]⟩, .string ⟨#[110]⟩, .string ⟨#[110]⟩, .string ⟨#[110]⟩, .string ⟨#[110]⟩, .string ⟨#[110]⟩, .string ⟨#[110]⟩, .string ⟨#[120]⟩, .string ⟨#[120]⟩, .string ⟨#[120]⟩, .string ⟨#[120]⟩, .string ⟨#[120]⟩, .string ⟨#[115]⟩, .string ⟨#[115]⟩, .string ⟨#[115]⟩, .string ⟨#[120, 115]⟩] : Array Value)[i]? = some (.string (str (kindFs (i : Int)))) := by
 have h : i = 0 ∨ i = 1 ∨ i = 2 ∨ i = 3 ∨ i = 4 ∨ i = 5 ∨ i = 6 ∨ i = 7 ∨ i = 8 ∨ i = 9 ∨ i = 10 ∨ i = 11 ∨ i = 12 ∨ i = 13 ∨ i = 14 ∨ i = 15 ∨ i = 16 ∨ i = 17 ∨ i = 18 ∨ i = 19 ∨ i = 20 ∨ i = 21 := by omega
 rcases h with rfl | rfl | rfl | rfl | rfl | rfl | rfl | rfl | rfl | rfl | rfl | rfl | rfl | rfl | rfl | rfl | rfl | rfl | rfl | rfl | rfl | rfl <;> rfl
set_option maxHeartbeats 4000000 in
theorem rfields_any (k : Int) (w : World) :
  Calls Tryz.prog 94 #[.int .i64 k] w fun e w' => e = .returned (.string (str (kindFs k))) ∧ Cln w w' := by
 by_cases h0 : k < 0
 ·have t1 : decide (k < 0) = true := decide_eq_true h0
  have hI : kindFs k = [] := by unfold kindFs; rw [if_neg (by omega)]
  rw [hI]
  clear hI
  go_enter Tryz.func94, Tryz.ntmps94
  go_wp2_with fail
  go_ret
  exact ⟨rfl, by (repeat with_reducible first | exact cR _ | assumption | refine cA ?_ _ | refine cD ?_ | refine cN ?_ _ | refine cS ?_ (by first | omega | (simp <;> omega)) _)⟩
 ·obtain ⟨i, rfl⟩ := Int.eq_ofNat_of_zero_le (show 0 ≤ k by omega)
  have t1 : decide ((i : Int) < 0) = false := decide_eq_false (by omega)
  by_cases h1 : 21 < i
  ·have t2 : decide (21 < (i : Int)) = true := decide_eq_true (by omega)
   have hI : kindFs (i : Int) = [] := by unfold kindFs; rw [if_neg (by omega)]
   rw [hI]
   clear hI
   go_enter Tryz.func94, Tryz.ntmps94
   go_wp2_with fail
   go_ret
   exact ⟨rfl, by (repeat with_reducible first | exact cR _ | assumption | refine cA ?_ _ | refine cD ?_ | refine cN ?_ _ | refine cS ?_ (by first | omega | (simp <;> omega)) _)⟩
  ·have t2 : decide (21 < (i : Int)) = false := decide_eq_false (by omega)
   have hc : (w.alloc (.cells #[.string ⟨#[]⟩, .string ⟨#[109]⟩, .string ⟨#[]⟩, .string ⟨#[]⟩, .string ⟨#[]⟩, .string ⟨#[115]⟩, .string ⟨#[115]⟩, .string ⟨#[110]⟩, .string ⟨#[110]⟩, .string ⟨#[110]⟩, .string ⟨#[110]⟩, .string ⟨#[110]⟩, .string ⟨#[110]⟩, .string ⟨#[120]⟩, .string ⟨#[120]⟩, .string ⟨#[120]⟩, .string ⟨#[120]⟩, .string ⟨#[120]⟩, .string ⟨#[115]⟩, .string ⟨#[115]⟩, .string ⟨#[115]⟩, .string ⟨#[120, 115]⟩] 9)).cell? ⟨w.heap.size, i, none⟩ = some (.string (str (kindFs (i : Int)))) := ((Blk.new w 9 #[.string ⟨#[]⟩, .string ⟨#[109]⟩, .string ⟨#[]⟩, .string ⟨#[]⟩, .string ⟨#[]⟩, .string ⟨#[115]⟩, .string ⟨#[115]⟩, .string ⟨#[110]⟩, .string ⟨#[110]⟩, .string ⟨#[110]⟩, .string ⟨#[110]⟩, .string ⟨#[110]⟩, .string ⟨#[110]⟩, .string ⟨#[120]⟩, .string ⟨#[120]⟩, .string ⟨#[120]⟩, .string ⟨#[120]⟩, .string ⟨#[120]⟩, .string ⟨#[115]⟩, .string ⟨#[115]⟩, .string ⟨#[115]⟩, .string ⟨#[120, 115]⟩]).cell i).trans (rfields_cells i (by omega))
   generalize kindFs (i : Int) = on at hc ⊢
   go_enter Tryz.func94, Tryz.ntmps94
   go_wp2_with fail
   go_ret
   exact ⟨rfl, by (repeat with_reducible first | exact cR _ | assumption | refine cA ?_ _ | refine cD ?_ | refine cN ?_ _ | refine cS ?_ (by first | omega | (simp <;> omega)) _)⟩

theorem kindFs_len (k : Int) : (kindFs k).length ≤ 2 := by
 unfold kindFs
 split
 ·rename_i h
  obtain ⟨i, rfl⟩ := Int.eq_ofNat_of_zero_le (show 0 ≤ k by omega)
  have : ∀ i, i < 22 → (actFields.getD i []).length ≤ 2 := by decide
  exact this i (by omega)
 ·exact Nat.zero_le _
set_option maxHeartbeats 4000000 in
theorem rhas_any (k : Int) (c : UInt8) (w : World) :
  Calls Tryz.prog 70 #[.int .i64 k, .int .u8 (c.toNat : Nat)] w fun e w' => e = .returned (.bool (hasF k c)) ∧ Cln w w' := by
 unfold hasF
 have hl := kindFs_len k
 generalize hfl : kindFs k = fl at hl ⊢
 replace hfl := Lib.hid hfl
 go_enter Tryz.func70, Tryz.ntmps70
 go_wp2_with fail
 refine (rfields_any k _).mono ?_; rintro e w1 ⟨rfl, hq⟩
 rw [hfl.out]
 clear hfl
 have hH : Hid (fl.contains c = (fl.drop 0).contains c) := by rw [List.drop_zero]; exact rfl
 have hcl := Lib.hid hq
 clear hq
 go_wp2_with fail
 go_loopw [6] (fun v wr => ∃ i : Nat, i ≤ fl.length ∧ v = .int .i64 (i : Nat) ∧ wr = w1 ∧ Hid (fl.contains c = (fl.drop i).contains c)) (fun v _ => (fl.length - intOf v).toNat)
 case atStart => exact ⟨0, Nat.zero_le _, rfl, rfl, hH⟩
 case round =>
  obtain ⟨i, hi, rfl, rfl, hI⟩ := hrel
  clear hH
  by_cases hlt5 : i < fl.length
  ·have t2 : decide ((i : Int) < (fl.length : Int)) = true := decide_eq_true (by omega)
   have hs : i < (str fl).size := by rw [str_size]; exact hlt5
   have he : (str fl)[i]'hs = (fl[i]'hlt5 : UInt8) := rfl
   by_cases hq : (fl[i]'hlt5 : UInt8) = c
   ·have t3 : (((((str fl)[i]'hs).toNat : Nat) : Int) == ((c.toNat : Nat) : Int)) = true := by rw [he, hq]; simp
    have hR : Hid (fl.contains c = true) := by unfold Hid; rw [hI.out, List.drop_eq_getElem_cons hlt5, List.contains_cons, hq, BEq.rfl, Bool.true_or]
    clear he hq
    go_wp2_with fail
    go_ret
    exact ⟨ret_bool hR.out.symm, cln_trans hcl.out (by (repeat with_reducible first | exact cR _ | assumption | refine cA ?_ _ | refine cD ?_ | refine cN ?_ _ | refine cS ?_ (by first | omega | (simp <;> omega)) _))⟩
   ·have t3 : (((((str fl)[i]'hs).toNat : Nat) : Int) == ((c.toNat : Nat) : Int)) = false := by
     rw [he, beq_eq_false_iff_ne]; intro e; exact hq (UInt8.toNat_inj.1 (by omega))
    have hR : Hid (fl.contains c = (fl.drop (i + 1)).contains c) := by
     unfold Hid; rw [hI.out, List.drop_eq_getElem_cons hlt5, List.contains_cons]
     rw [show (c == (fl[i]'hlt5 : UInt8)) = false from by rw [beq_eq_false_iff_ne]; exact fun e => hq e.symm]; rfl
    clear he hq
    go_wp2_with fail
    refine ⟨⟨i + 1, hlt5, congrArg (Value.int .i64) (by omega), trivial, hR⟩, by simp [intOf]; omega⟩
  ·obtain rfl : i = fl.length := by omega
   have t2 : decide ((fl.length : Int) < (fl.length : Int)) = false := decide_eq_false (by omega)
   have hR : Hid (fl.contains c = false) := by unfold Hid; rw [hI.out, List.drop_length]; rfl
   go_wp2_with fail
   go_ret
   exact ⟨ret_bool hR.out.symm, cln_trans hcl.out (by (repeat with_reducible first | exact cR _ | assumption | refine cA ?_ _ | refine cD ?_ | refine cN ?_ _ | refine cS ?_ (by first | omega | (simp <;> omega)) _))⟩
end Go.Proofs.YtbemnfbndjolpaaGreatDoor
