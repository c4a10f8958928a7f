/- The walk of act.Check. (Printed by wip/tools/gen_act3.py.) -/
import Derived.Test.YtbemnfbndjolpaaGreatDoorActA
import Derived.BigQuiet
set_option linter.unusedSimpArgs false
set_option linter.unusedVariables false
set_option maxRecDepth 20000
namespace Go.Proofs.YtbemnfbndjolpaaGreatDoor
open Go.RowKit Moi
attribute [local go_sem] toList_str str_size less_ltB store_float
set_option maxHeartbeats 8000000 in
theorem acheck_any (a : MAct) (A : Option Addr) (n c : Nat) (hn : n ≤ 140737488355328) (hf : a.WF) (w : World) (hK : KindsAt w) (hit : RdItems w A n a.make.list) :
  Calls Tryz.prog 83 #[actVal a A n c] w fun e w' => e = .returned (.int .i64 (checkAct a : Nat)) ∧ Cln w w' := by
 have hx := hf.x
 have hr := hf.make.real
 have hcl0 : Cln w (w.alloc (.cells #[.int .i64 a.kind, .string (str a.key), .int .i64 a.n, .float .f64 a.x, .string (str a.s), .int .i64 a.make.kind, .int .i64 a.make.num, .int .i64 a.make.low, .int .i64 a.make.high, .float .f64 a.make.real, .int .i64 a.make.cap, .string (str a.make.text), .slice A n c, .bool a.must] 64)) := by (repeat with_reducible first | exact cR _ | assumption | refine cA ?_ _ | refine cD ?_ | refine cN ?_ _ | refine cS ?_ (by first | omega | (simp <;> omega)) _)
 have hA0 := Lib.hid (Blk.new w 64 #[.int .i64 a.kind, .string (str a.key), .int .i64 a.n, .float .f64 a.x, .string (str a.s), .int .i64 a.make.kind, .int .i64 a.make.num, .int .i64 a.make.low, .int .i64 a.make.high, .float .f64 a.make.real, .int .i64 a.make.cap, .string (str a.make.text), .slice A n c, .bool a.must])
 have u0 := hA0.out.cell 0; have l0 := hA0.out.lt
 replace hit := Lib.hid hit
 replace hf := Lib.hid hf
 have hfin : ∀ (m : Nat) (w' : World), checkAct a = m → Cln w w' → (Ending.returned (.int .i64 (m : Nat)) = .returned (.int .i64 (checkAct a : Nat)) ∧ Cln w w') := fun m w' h h2 => ⟨by rw [h], h2⟩
 unfold actVal
 go_enter Tryz.func83, Tryz.ntmps83
 go_wp2_with fail
 refine (of_any a.kind _ (hK.cln hcl0)).mono ?_; rintro e w1 ⟨rfl, hq⟩
 unfold kindVal
 have hclX : Cln w1 (w1.alloc (.cells #[.string (str (wordOf a.kind)), .int .i64 (onOf a.kind : Nat), .string (str (kindFs a.kind))] 161)) := by (repeat with_reducible first | exact cR _ | assumption | refine cA ?_ _ | refine cD ?_ | refine cN ?_ _ | refine cS ?_ (by first | omega | (simp <;> omega)) _)
 have hA1 := Lib.hid ((hA0.out.cln hq).cln hclX)
 have hK1 := Lib.hid (Blk.new w1 161 #[.string (str (wordOf a.kind)), .int .i64 (onOf a.kind : Nat), .string (str (kindFs a.kind))])
 have hcl1 := Lib.hid (cln_trans (cln_trans hcl0 hq) hclX)
 have uA := hA1.out.cell; have lA := hA1.out.lt; have uK := hK1.out.cell; have lK := hK1.out.lt
 have hne1 : ¬ w.heap.size = w1.heap.size := by have := (hA0.out.cln hq).lt; omega
 clear hq hclX u0 l0 hA0 hcl0 hK
 by_cases hk : a.kind < 1 ∨ 21 < a.kind
 ·have hI : Hid (checkAct a = 5) := by unfold Hid checkAct; rw [if_pos hk]
  have hw0 := (wordOf_nil a.kind).2 hk
  have t1 : (wordOf a.kind == []) = true := by rw [hw0]; rfl
  clear hk hw0
  go_wp2_with fail
  go_ret
  exact hfin 5 _ hI.out (cln_trans hcl1.out (by (repeat with_reducible first | exact cR _ | assumption | refine cA ?_ _ | refine cD ?_ | refine cN ?_ _ | refine cS ?_ (by first | omega | (simp <;> omega)) _)))
 have t1 : (wordOf a.kind == []) = false := by rw [beq_eq_false_iff_ne]; exact fun h => hk ((wordOf_nil a.kind).1 h)
 have hI1 : Hid (checkAct a = if a.key.length < 1 ∨ 24 < a.key.length then 1 else if bareA a = false then 4 else if mostOf a.kind < a.s.length then 3 else if (a.kind = 10 ∨ a.kind = 11) ∧ (a.n < 0 ∨ 2305843009213693952 < a.n) then 1 else if fproper a.x = false then 4 else if a.kind = 1 then checkRec a.make else 0) := by unfold Hid checkAct; rw [if_neg hk]
 clear hk
 by_cases h1 : a.key.length < 1
 ·have hI : Hid (checkAct a = 1) := by unfold Hid; rw [hI1.out, if_pos (.inl h1)]
  have t2 : (a.key == []) = true := by have : a.key = [] := List.length_eq_zero_iff.1 (by omega); rw [this]; rfl
  clear hI1 h1
  go_wp2_with fail
  go_ret
  exact hfin 1 _ hI.out (cln_trans hcl1.out (by (repeat with_reducible first | exact cR _ | assumption | refine cA ?_ _ | refine cD ?_ | refine cN ?_ _ | refine cS ?_ (by first | omega | (simp <;> omega)) _)))
 have t2 : (a.key == []) = false := by rw [beq_eq_false_iff_ne]; intro h; rw [h] at h1; exact h1 (by decide)
 by_cases h2 : 24 < a.key.length
 ·have hI : Hid (checkAct a = 1) := by unfold Hid; rw [hI1.out, if_pos (.inr h2)]
  have t3 : decide (24 < (a.key.length : Int)) = true := decide_eq_true (by omega)
  clear hI1 h1 h2
  go_wp2_with fail
  go_ret
  exact hfin 1 _ hI.out (cln_trans hcl1.out (by (repeat with_reducible first | exact cR _ | assumption | refine cA ?_ _ | refine cD ?_ | refine cN ?_ _ | refine cS ?_ (by first | omega | (simp <;> omega)) _)))
 have t3 : decide (24 < (a.key.length : Int)) = false := decide_eq_false (by omega)
 have hI2 : Hid (checkAct a = if bareA a = false then 4 else if mostOf a.kind < a.s.length then 3 else if (a.kind = 10 ∨ a.kind = 11) ∧ (a.n < 0 ∨ 2305843009213693952 < a.n) then 1 else if fproper a.x = false then 4 else if a.kind = 1 then checkRec a.make else 0) := by unfold Hid; rw [hI1.out, if_neg (by omega)]
 clear hI1 h1 h2
 go_wp2_with fail
 refine (abare_any a A n c hx hr hn _ (hit.out.cln hcl1.out)).mono ?_; rintro e w2 ⟨rfl, hq⟩
 have hA2 := Lib.hid (hA1.out.cln hq)
 have hK2 := Lib.hid (hK1.out.cln hq)
 have hcl2 := Lib.hid (cln_trans hcl1.out hq)
 clear uA lA uK lK hq hA1 hK1 hcl1
 have uA := hA2.out.cell; have lA := hA2.out.lt; have uK := hK2.out.cell; have lK := hK2.out.lt
 cases hB : bareA a with
 | false =>
  have hI : Hid (checkAct a = 4) := by unfold Hid; rw [hI2.out, if_pos hB]
  clear hI2 hB
  go_wp2_with fail
  go_ret
  exact hfin 4 _ hI.out (cln_trans hcl2.out (by (repeat with_reducible first | exact cR _ | assumption | refine cA ?_ _ | refine cD ?_ | refine cN ?_ _ | refine cS ?_ (by first | omega | (simp <;> omega)) _)))
 | true =>
 have hI3 : Hid (checkAct a = if mostOf a.kind < a.s.length then 3 else if (a.kind = 10 ∨ a.kind = 11) ∧ (a.n < 0 ∨ 2305843009213693952 < a.n) then 1 else if fproper a.x = false then 4 else if a.kind = 1 then checkRec a.make else 0) := by unfold Hid; rw [hI2.out, if_neg (by rw [hB]; decide)]
 clear hI2 hB
 have hcur : Hid (Cln w2 w2.drew) := Below.drew (Below.refl _ _)
 have cM : ∀ W, Calls Tryz.prog 103 #[.agg #[.string (str (wordOf a.kind)), .int .i64 (onOf a.kind : Nat), .string (str (kindFs a.kind))]] W fun e w' => e = .returned (.int .i64 (mostOf a.kind : Nat)) ∧ Cln W w' := fun W => most_any a.kind W
 by_cases h4 : mostOf a.kind < a.s.length
 ·have hI : Hid (checkAct a = 3) := by unfold Hid; rw [hI3.out, if_pos h4]
  have t4 : decide (((mostOf a.kind : Nat) : Int) < (a.s.length : Int)) = true := decide_eq_true (by omega)
  have t4n : decide (mostOf a.kind < a.s.length) = true := decide_eq_true h4
  clear hI3 h4
  go_wp2_with fail
  go_region_with (go_at_call 103; with_reducible refine (cM _).mono ?_; rintro e w' ⟨rfl, hq⟩; have hcur := Lib.hid (cln_trans hcur.out hq); have uA := (hA2.out.cln hcur.out).cell; have lA := (hA2.out.cln hcur.out).lt; have uK := (hK2.out.cln hcur.out).cell; have lK := (hK2.out.cln hcur.out).lt)
  all_goals
   go_wp2_with fail
   go_ret
   exact hfin 3 _ hI.out (cln_trans (cln_trans hcl2.out hcur.out) (by (repeat with_reducible first | exact cR _ | assumption | refine cA ?_ _ | refine cD ?_ | refine cN ?_ _ | refine cS ?_ (by first | omega | (simp <;> omega)) _)))
 have t4 : decide (((mostOf a.kind : Nat) : Int) < (a.s.length : Int)) = false := decide_eq_false (by omega)
 have t4n : decide (mostOf a.kind < a.s.length) = false := decide_eq_false h4
 have hI4 : Hid (checkAct a = if (a.kind = 10 ∨ a.kind = 11) ∧ (a.n < 0 ∨ 2305843009213693952 < a.n) then 1 else if fproper a.x = false then 4 else if a.kind = 1 then checkRec a.make else 0) := by unfold Hid; rw [hI3.out, if_neg h4]
 clear hI3 h4
 by_cases hk10 : a.kind = 10
 ·by_cases h5 : a.n < 0
  ·have t7 : decide (a.n < 0) = true := decide_eq_true h5
   have hI : Hid (checkAct a = 1) := by unfold Hid; rw [hI4.out]; rw [if_pos ⟨by omega, .inl h5⟩]
   have t6 : (a.kind == 10) = true := by rw [beq_iff_eq]; exact hk10
   replace hk10 := Lib.hid hk10
   clear hI4
   go_wp2_with fail
   go_region_with (go_at_call 103; with_reducible refine (cM _).mono ?_; rintro e w' ⟨rfl, hq⟩; have hcur := Lib.hid (cln_trans hcur.out hq); have uA := (hA2.out.cln hcur.out).cell; have lA := (hA2.out.cln hcur.out).lt; have uK := (hK2.out.cln hcur.out).cell; have lK := (hK2.out.cln hcur.out).lt)
   all_goals
    go_wp2_with fail
    go_ret
    exact hfin 1 _ hI.out (cln_trans (cln_trans hcl2.out hcur.out) (by (repeat with_reducible first | exact cR _ | assumption | refine cA ?_ _ | refine cD ?_ | refine cN ?_ _ | refine cS ?_ (by first | omega | (simp <;> omega)) _)))
  have t7 : decide (a.n < 0) = false := decide_eq_false h5
  by_cases h6 : 2305843009213693952 < a.n
  ·have t8 : decide (2305843009213693952 < a.n) = true := decide_eq_true h6
   have hI : Hid (checkAct a = 1) := by unfold Hid; rw [hI4.out]; rw [if_pos ⟨by omega, .inr h6⟩]
   have t6 : (a.kind == 10) = true := by rw [beq_iff_eq]; exact hk10
   replace hk10 := Lib.hid hk10
   clear hI4
   go_wp2_with fail
   go_region_with (go_at_call 103; with_reducible refine (cM _).mono ?_; rintro e w' ⟨rfl, hq⟩; have hcur := Lib.hid (cln_trans hcur.out hq); have uA := (hA2.out.cln hcur.out).cell; have lA := (hA2.out.cln hcur.out).lt; have uK := (hK2.out.cln hcur.out).cell; have lK := (hK2.out.cln hcur.out).lt)
   all_goals
    go_wp2_with fail
    go_ret
    exact hfin 1 _ hI.out (cln_trans (cln_trans hcl2.out hcur.out) (by (repeat with_reducible first | exact cR _ | assumption | refine cA ?_ _ | refine cD ?_ | refine cN ?_ _ | refine cS ?_ (by first | omega | (simp <;> omega)) _)))
  have t8 : decide (2305843009213693952 < a.n) = false := decide_eq_false h6
  have hI5 : Hid (checkAct a = if fproper a.x = false then 4 else if a.kind = 1 then checkRec a.make else 0) := by unfold Hid; rw [hI4.out, if_neg (by omega)]
  clear hI4
  have t6 : (a.kind == 10) = true := by rw [beq_iff_eq]; exact hk10
  replace hk10 := Lib.hid hk10
  go_wp2_with fail
  go_region_with (go_at_call 103; with_reducible refine (cM _).mono ?_; rintro e w' ⟨rfl, hq⟩; have hcur := Lib.hid (cln_trans hcur.out hq); have uA := (hA2.out.cln hcur.out).cell; have lA := (hA2.out.cln hcur.out).lt; have uK := (hK2.out.cln hcur.out).cell; have lK := (hK2.out.cln hcur.out).lt)
  all_goals
   go_wp2_with fail
   refine (fproper_any a.x hx _).mono ?_; rintro e w' ⟨rfl, rfl⟩
   cases hP : fproper a.x with
   | false =>
    have hI : Hid (checkAct a = 4) := by unfold Hid; rw [hI5.out, if_pos hP]
    go_wp2_with fail
    go_ret
    exact hfin 4 _ hI.out (cln_trans (cln_trans hcl2.out hcur.out) (by (repeat with_reducible first | exact cR _ | assumption | refine cA ?_ _ | refine cD ?_ | refine cN ?_ _ | refine cS ?_ (by first | omega | (simp <;> omega)) _)))
   | true =>
    have hI : Hid (checkAct a = 0) := by unfold Hid; rw [hI5.out, if_neg (by rw [hP]; decide), if_neg (by have := hk10.out; omega)]
    have t9 : (a.kind == 1) = false := by rw [beq_eq_false_iff_ne]; have := hk10.out; omega
    go_wp2_with fail
    go_ret
    exact hfin 0 _ hI.out (cln_trans (cln_trans hcl2.out hcur.out) (by (repeat with_reducible first | exact cR _ | assumption | refine cA ?_ _ | refine cD ?_ | refine cN ?_ _ | refine cS ?_ (by first | omega | (simp <;> omega)) _)))
 by_cases hk11 : a.kind = 11
 ·by_cases h5 : a.n < 0
  ·have t7 : decide (a.n < 0) = true := decide_eq_true h5
   have hI : Hid (checkAct a = 1) := by unfold Hid; rw [hI4.out]; rw [if_pos ⟨by omega, .inl h5⟩]
   have t5 : (a.kind == 10) = false := by rw [beq_eq_false_iff_ne]; omega
   have t6 : (a.kind == 11) = true := by rw [beq_iff_eq]; exact hk11
   replace hk11 := Lib.hid hk11
   clear hI4
   go_wp2_with fail
   go_region_with (go_at_call 103; with_reducible refine (cM _).mono ?_; rintro e w' ⟨rfl, hq⟩; have hcur := Lib.hid (cln_trans hcur.out hq); have uA := (hA2.out.cln hcur.out).cell; have lA := (hA2.out.cln hcur.out).lt; have uK := (hK2.out.cln hcur.out).cell; have lK := (hK2.out.cln hcur.out).lt)
   all_goals
    go_wp2_with fail
    go_ret
    exact hfin 1 _ hI.out (cln_trans (cln_trans hcl2.out hcur.out) (by (repeat with_reducible first | exact cR _ | assumption | refine cA ?_ _ | refine cD ?_ | refine cN ?_ _ | refine cS ?_ (by first | omega | (simp <;> omega)) _)))
  have t7 : decide (a.n < 0) = false := decide_eq_false h5
  by_cases h6 : 2305843009213693952 < a.n
  ·have t8 : decide (2305843009213693952 < a.n) = true := decide_eq_true h6
   have hI : Hid (checkAct a = 1) := by unfold Hid; rw [hI4.out]; rw [if_pos ⟨by omega, .inr h6⟩]
   have t5 : (a.kind == 10) = false := by rw [beq_eq_false_iff_ne]; omega
   have t6 : (a.kind == 11) = true := by rw [beq_iff_eq]; exact hk11
   replace hk11 := Lib.hid hk11
   clear hI4
   go_wp2_with fail
   go_region_with (go_at_call 103; with_reducible refine (cM _).mono ?_; rintro e w' ⟨rfl, hq⟩; have hcur := Lib.hid (cln_trans hcur.out hq); have uA := (hA2.out.cln hcur.out).cell; have lA := (hA2.out.cln hcur.out).lt; have uK := (hK2.out.cln hcur.out).cell; have lK := (hK2.out.cln hcur.out).lt)
   all_goals
    go_wp2_with fail
    go_ret
    exact hfin 1 _ hI.out (cln_trans (cln_trans hcl2.out hcur.out) (by (repeat with_reducible first | exact cR _ | assumption | refine cA ?_ _ | refine cD ?_ | refine cN ?_ _ | refine cS ?_ (by first | omega | (simp <;> omega)) _)))
  have t8 : decide (2305843009213693952 < a.n) = false := decide_eq_false h6
  have hI5 : Hid (checkAct a = if fproper a.x = false then 4 else if a.kind = 1 then checkRec a.make else 0) := by unfold Hid; rw [hI4.out, if_neg (by omega)]
  clear hI4
  have t5 : (a.kind == 10) = false := by rw [beq_eq_false_iff_ne]; omega
  have t6 : (a.kind == 11) = true := by rw [beq_iff_eq]; exact hk11
  replace hk11 := Lib.hid hk11
  go_wp2_with fail
  go_region_with (go_at_call 103; with_reducible refine (cM _).mono ?_; rintro e w' ⟨rfl, hq⟩; have hcur := Lib.hid (cln_trans hcur.out hq); have uA := (hA2.out.cln hcur.out).cell; have lA := (hA2.out.cln hcur.out).lt; have uK := (hK2.out.cln hcur.out).cell; have lK := (hK2.out.cln hcur.out).lt)
  all_goals
   go_wp2_with fail
   refine (fproper_any a.x hx _).mono ?_; rintro e w' ⟨rfl, rfl⟩
   cases hP : fproper a.x with
   | false =>
    have hI : Hid (checkAct a = 4) := by unfold Hid; rw [hI5.out, if_pos hP]
    go_wp2_with fail
    go_ret
    exact hfin 4 _ hI.out (cln_trans (cln_trans hcl2.out hcur.out) (by (repeat with_reducible first | exact cR _ | assumption | refine cA ?_ _ | refine cD ?_ | refine cN ?_ _ | refine cS ?_ (by first | omega | (simp <;> omega)) _)))
   | true =>
    have hI : Hid (checkAct a = 0) := by unfold Hid; rw [hI5.out, if_neg (by rw [hP]; decide), if_neg (by have := hk11.out; omega)]
    have t9 : (a.kind == 1) = false := by rw [beq_eq_false_iff_ne]; have := hk11.out; omega
    go_wp2_with fail
    go_ret
    exact hfin 0 _ hI.out (cln_trans (cln_trans hcl2.out hcur.out) (by (repeat with_reducible first | exact cR _ | assumption | refine cA ?_ _ | refine cD ?_ | refine cN ?_ _ | refine cS ?_ (by first | omega | (simp <;> omega)) _)))
 have t5 : (a.kind == 10) = false := by rw [beq_eq_false_iff_ne]; exact hk10
 have t6 : (a.kind == 11) = false := by rw [beq_eq_false_iff_ne]; exact hk11
 have hI5 : Hid (checkAct a = if fproper a.x = false then 4 else if a.kind = 1 then checkRec a.make else 0) := by unfold Hid; rw [hI4.out, if_neg (by omega)]
 clear hI4 hk10 hk11
 go_wp2_with fail
 go_region_with (go_at_call 103; with_reducible refine (cM _).mono ?_; rintro e w' ⟨rfl, hq⟩; have hcur := Lib.hid (cln_trans hcur.out hq); have uA := (hA2.out.cln hcur.out).cell; have lA := (hA2.out.cln hcur.out).lt; have uK := (hK2.out.cln hcur.out).cell; have lK := (hK2.out.cln hcur.out).lt)
 all_goals
  go_wp2_with fail
  refine (fproper_any a.x hx _).mono ?_; rintro e w' ⟨rfl, rfl⟩
  cases hP : fproper a.x with
  | false =>
   have hI : Hid (checkAct a = 4) := by unfold Hid; rw [hI5.out, if_pos hP]
   go_wp2_with fail
   go_ret
   exact hfin 4 _ hI.out (cln_trans (cln_trans hcl2.out hcur.out) (by (repeat with_reducible first | exact cR _ | assumption | refine cA ?_ _ | refine cD ?_ | refine cN ?_ _ | refine cS ?_ (by first | omega | (simp <;> omega)) _)))
  | true =>
   have hI6 : Hid (checkAct a = if a.kind = 1 then checkRec a.make else 0) := by unfold Hid; rw [hI5.out, if_neg (by rw [hP]; decide)]
   by_cases hk1 : a.kind = 1
   ·have hI : Hid (checkAct a = checkRec a.make) := by unfold Hid; rw [hI6.out, if_pos hk1]
    have t9 : (a.kind == 1) = true := by rw [hk1]; rfl
    clear hI6 hI5 hk1
    go_wp2_with fail
    refine (check_any a.make A n c hn hf.out.make _ (hit.out.cln (cln_trans hcl2.out hcur.out))).mono ?_; rintro e w' ⟨rfl, hq⟩
    go_wp2_with fail
    go_ret
    exact hfin _ _ hI.out (cln_trans (cln_trans hcl2.out hcur.out) hq)
   ·have hI : Hid (checkAct a = 0) := by unfold Hid; rw [hI6.out, if_neg hk1]
    have t9 : (a.kind == 1) = false := by rw [beq_eq_false_iff_ne]; exact hk1
    clear hI6 hI5
    go_wp2_with fail
    go_ret
    exact hfin 0 _ hI.out (cln_trans (cln_trans hcl2.out hcur.out) (by (repeat with_reducible first | exact cR _ | assumption | refine cA ?_ _ | refine cD ?_ | refine cN ?_ _ | refine cS ?_ (by first | omega | (simp <;> omega)) _)))
end Go.Proofs.YtbemnfbndjolpaaGreatDoor
