/- The walks of the Checks of deals, of the program and of the document. (Printed by wip/tools/gen_deal1.py.) -/
import Derived.Test.YtbemnfbndjolpaaGreatDoorRows2
import Derived.Test.YtbemnfbndjolpaaGreatDoorWAct7
import Derived.Test.YtbemnfbndjolpaaGreatDoorWAct3
set_option linter.unusedSimpArgs false
set_option linter.unusedVariables false
set_option maxRecDepth 20000
namespace Go.Proofs.YtbemnfbndjolpaaGreatDoor
open Go.RowKit Moi
attribute [local go_sem] toList_str str_size less_ltB store_float

set_option maxHeartbeats 4000000 in
theorem dcheck_any (l : List MAct) (A : Option Addr) (n c : Nat) (hsz : ∀ a ∈ l, a.make.list.length ≤ 140737488355328) (w : World) (hK : KindsAt w) (hr : RdActs w A n l) :
  Calls Tryz.prog 62 #[.agg #[.slice A n c]] w fun e w' => e = .returned (.tuple #[.int .i64 ((checkDeal l).1 : Nat), .int .i64 ((checkDeal l).2 : Nat)]) ∧ Cln w w' := by
 have hlen := hr.len
 by_cases h0 : n = 0
 ·have hE : checkDeal l = (1, 0) := by unfold checkDeal; rw [if_pos (by omega)]
  rw [hE]
  subst h0
  go_enter Tryz.func62, Tryz.ntmps62
  go_wp2_with fail
  go_ret2
  exact ⟨rfl, by (repeat with_reducible first | exact cR _ | assumption | refine cA ?_ _ | refine cD ?_ | refine cN ?_ _ | refine cS ?_ (by first | omega | (simp <;> omega)) _)⟩
 by_cases h1 : 12 < n
 ·have hE : checkDeal l = (1, 0) := by unfold checkDeal; rw [if_pos (by omega)]
  rw [hE]
  have t1 : ((n : Int) == 0) = false := by rw [beq_eq_false_iff_ne]; omega
  have t0 : decide ((n : Int) < 1) = false := decide_eq_false (by omega)
  have t2 : decide (12 < (n : Int)) = true := decide_eq_true (by omega)
  go_enter Tryz.func62, Tryz.ntmps62
  go_wp2_with fail
  go_ret2
  exact ⟨rfl, by (repeat with_reducible first | exact cR _ | assumption | refine cA ?_ _ | refine cD ?_ | refine cN ?_ _ | refine cS ?_ (by first | omega | (simp <;> omega)) _)⟩
 have hE : Hid (checkDeal l = actsErr 0 l) := by unfold Hid checkDeal; rw [if_neg (by omega)]
 have t1 : ((n : Int) == 0) = false := by rw [beq_eq_false_iff_ne]; omega
 have t0 : decide ((n : Int) < 1) = false := decide_eq_false (by omega)
 have t2 : decide (12 < (n : Int)) = false := decide_eq_false (by omega)
 go_enter Tryz.func62, Tryz.ntmps62
 go_wp2_with fail
 go_loopw [20] (fun v wr => ∃ i : Nat, i ≤ n ∧ v = .int .i64 (i : Nat) ∧ Hid (Cln w wr) ∧ Hid (wr.cell? ⟨w.heap.size, 0, none⟩ = some (.slice A n c)) ∧ Hid (checkDeal l = actsErr i (l.drop i))) (fun v _ => (n - intOf v).toNat)
 case atStart => exact ⟨0, Nat.zero_le _, rfl, Lib.hid (by (repeat with_reducible first | exact cR _ | assumption | refine cA ?_ _ | refine cD ?_ | refine cN ?_ _ | refine cS ?_ (by first | omega | (simp <;> omega)) _)), Lib.hid (by simp), by simpa using hE⟩
 case round =>
  obtain ⟨i, hi, rfl, hcl, hd, hH⟩ := hrel
  have hdd := hd.out
  have hdl := World.block_lt_of_cell? _ _ hdd
  by_cases hlt : i < n
  ·have t3 : decide ((i : Int) < (n : Int)) = true := decide_eq_true (by omega)
   obtain ⟨b, o, rfl, hblt, hcell⟩ := hr.rows (by omega)
   obtain ⟨Ai, ni, ci, hc0⟩ := hcell i hlt
   clear hcell
   have hc := hc0.cln hcl.out
   have hwf := Lib.hid hc0.wf
   have hblt2 : b < wr.heap.size := by have := hcl.out.size; omega
   have hmem := actAt_mem l i (by rw [hr.len]; exact hlt)
   have hni : ni ≤ 140737488355328 := by have h1 := hsz _ hmem; have h2 := hc0.it.len; omega
   clear hc0
   have hstep : Hid (checkDeal l = if checkAct (actAt l i) = 0 then actsErr (i + 1) (l.drop (i + 1)) else (checkAct (actAt l i), i + 1)) := by
    unfold Hid; rw [hH.out, actAt_drop l i (by omega), actsErr]
   clear hmem
   generalize hrr : actAt l i = r at hc hwf hstep
   have f0 := hc.c0; have f1 := hc.c1; have f2 := hc.c2; have f3 := hc.c3; have f4 := hc.c4; have f5 := hc.c5; have f6 := hc.c6; have f7 := hc.c7; have f8 := hc.c8; have f9 := hc.c9; have f10 := hc.c10; have f11 := hc.c11; have f12 := hc.c12; have f13 := hc.c13
   have hit := Lib.hid hc.it
   clear hc hrr hH
   go_wp2_with fail
   refine (acheck_any r Ai ni ci hni hwf.out _ (hK.cln (cln_trans hcl.out (by (repeat with_reducible first | exact cR _ | assumption | refine cA ?_ _ | refine cD ?_ | refine cN ?_ _ | refine cS ?_ (by first | omega | (simp <;> omega)) _)))) (hit.out.cln (by (repeat with_reducible first | exact cR _ | assumption | refine cA ?_ _ | refine cD ?_ | refine cN ?_ _ | refine cS ?_ (by first | omega | (simp <;> omega)) _)))).mono ?_; rintro e w3 ⟨rfl, hq⟩
   clear f0 f1 f2 f3 f4 f5 f6 f7 f8 f9 f10 f11 f12 f13
   have hcl3 := Lib.hid (cln_trans hcl.out (cln_trans (by (repeat with_reducible first | exact cR _ | assumption | refine cA ?_ _ | refine cD ?_ | refine cN ?_ _ | refine cS ?_ (by first | omega | (simp <;> omega)) _)) hq))
   have hd3 : Hid (w3.cell? ⟨w.heap.size, 0, none⟩ = some (.slice (some ⟨b, o, none⟩) n c)) := (Kept.of_below (S := fun _ => False) (cln_trans (by (repeat with_reducible first | exact cR _ | assumption | refine cA ?_ _ | refine cD ?_ | refine cN ?_ _ | refine cS ?_ (by first | omega | (simp <;> omega)) _)) hq)).cell hdd id
   clear hq hdd hdl hd hcl
   have hdd := hd3.out
   by_cases hca : checkAct r = 0
   ·have t4 : (((checkAct r : Nat) : Int) != 0) = false := by rw [hca]; rfl
    have hst : Hid (checkDeal l = actsErr (i + 1) (l.drop (i + 1))) := by unfold Hid; rw [hstep.out, if_pos hca]
    replace hca := Lib.hid hca
    go_wp2_with fail
    go_roundw
    case rel => exact ⟨i + 1, hlt, by go_num, hcl3, hd3, hst⟩
    case measure => simp [intOf]; omega
   ·have t4 : (((checkAct r : Nat) : Int) != 0) = true := by rw [bne_iff_ne]; omega
    have hst : Hid (checkDeal l = (checkAct r, i + 1)) := by unfold Hid; rw [hstep.out, if_neg hca]
    go_wp2_with fail
    go_ret2
    refine ⟨?_, hcl3.out⟩
    rw [hst.out]
    first | rfl | (simp; done)
  ·obtain rfl : i = n := by omega
   have t3 : decide ((i : Int) < (i : Int)) = false := decide_eq_false (by omega)
   go_wp2_with fail
   go_ret2
   exact ⟨by rw [hH.out, List.drop_of_length_le (by omega)]; rfl, hcl.out⟩

set_option maxHeartbeats 4000000 in
theorem rdcheck_any (l : List MAct) (A : Option Addr) (n c : Nat) (hsz : ∀ a ∈ l, a.make.list.length ≤ 140737488355328) (w : World) (hr : RdActs w A n l) :
  Calls Tryz.prog 40 #[.agg #[.slice A n c]] w fun e w' => e = .returned (.tuple #[.int .i64 ((checkDeal l).1 : Nat), .int .i64 ((checkDeal l).2 : Nat)]) ∧ Cln w w' := by
 have hlen := hr.len
 by_cases h0 : n = 0
 ·have hE : checkDeal l = (1, 0) := by unfold checkDeal; rw [if_pos (by omega)]
  rw [hE]
  subst h0
  go_enter Tryz.func40, Tryz.ntmps40
  go_wp2_with fail
  go_ret2
  exact ⟨rfl, by (repeat with_reducible first | exact cR _ | assumption | refine cA ?_ _ | refine cD ?_ | refine cN ?_ _ | refine cS ?_ (by first | omega | (simp <;> omega)) _)⟩
 by_cases h1 : 12 < n
 ·have hE : checkDeal l = (1, 0) := by unfold checkDeal; rw [if_pos (by omega)]
  rw [hE]
  have t1 : ((n : Int) == 0) = false := by rw [beq_eq_false_iff_ne]; omega
  have t0 : decide ((n : Int) < 1) = false := decide_eq_false (by omega)
  have t2 : decide (12 < (n : Int)) = true := decide_eq_true (by omega)
  go_enter Tryz.func40, Tryz.ntmps40
  go_wp2_with fail
  go_ret2
  exact ⟨rfl, by (repeat with_reducible first | exact cR _ | assumption | refine cA ?_ _ | refine cD ?_ | refine cN ?_ _ | refine cS ?_ (by first | omega | (simp <;> omega)) _)⟩
 have hE : Hid (checkDeal l = actsErr 0 l) := by unfold Hid checkDeal; rw [if_neg (by omega)]
 have t1 : ((n : Int) == 0) = false := by rw [beq_eq_false_iff_ne]; omega
 have t0 : decide ((n : Int) < 1) = false := decide_eq_false (by omega)
 have t2 : decide (12 < (n : Int)) = false := decide_eq_false (by omega)
 go_enter Tryz.func40, Tryz.ntmps40
 go_wp2_with fail
 go_loopw [4] (fun v wr => ∃ i : Nat, i ≤ n ∧ v = .int .i64 (i : Nat) ∧ Hid (Cln w wr) ∧ Hid (wr.cell? ⟨w.heap.size, 0, none⟩ = some (.slice A n c)) ∧ Hid (checkDeal l = actsErr i (l.drop i))) (fun v _ => (n - intOf v).toNat)
 case atStart => exact ⟨0, Nat.zero_le _, rfl, Lib.hid (by (repeat with_reducible first | exact cR _ | assumption | refine cA ?_ _ | refine cD ?_ | refine cN ?_ _ | refine cS ?_ (by first | omega | (simp <;> omega)) _)), Lib.hid (by simp), by simpa using hE⟩
 case round =>
  obtain ⟨i, hi, rfl, hcl, hd, hH⟩ := hrel
  have hdd := hd.out
  have hdl := World.block_lt_of_cell? _ _ hdd
  by_cases hlt : i < n
  ·have t3 : decide ((i : Int) < (n : Int)) = true := decide_eq_true (by omega)
   obtain ⟨b, o, rfl, hblt, hcell⟩ := hr.rows (by omega)
   obtain ⟨Ai, ni, ci, hc0⟩ := hcell i hlt
   clear hcell
   have hc := hc0.cln hcl.out
   have hwf := Lib.hid hc0.wf
   have hblt2 : b < wr.heap.size := by have := hcl.out.size; omega
   have hmem := actAt_mem l i (by rw [hr.len]; exact hlt)
   have hni : ni ≤ 140737488355328 := by have h1 := hsz _ hmem; have h2 := hc0.it.len; omega
   clear hc0
   have hstep : Hid (checkDeal l = if checkAct (actAt l i) = 0 then actsErr (i + 1) (l.drop (i + 1)) else (checkAct (actAt l i), i + 1)) := by
    unfold Hid; rw [hH.out, actAt_drop l i (by omega), actsErr]
   clear hmem
   generalize hrr : actAt l i = r at hc hwf hstep
   have f0 := hc.c0; have f1 := hc.c1; have f2 := hc.c2; have f3 := hc.c3; have f4 := hc.c4; have f5 := hc.c5; have f6 := hc.c6; have f7 := hc.c7; have f8 := hc.c8; have f9 := hc.c9; have f10 := hc.c10; have f11 := hc.c11; have f12 := hc.c12; have f13 := hc.c13
   have hit := Lib.hid hc.it
   clear hc hrr hH
   go_wp2_with fail
   refine (racheck_any r Ai ni ci hni hwf.out _ (hit.out.cln (by (repeat with_reducible first | exact cR _ | assumption | refine cA ?_ _ | refine cD ?_ | refine cN ?_ _ | refine cS ?_ (by first | omega | (simp <;> omega)) _)))).mono ?_; rintro e w3 ⟨rfl, hq⟩
   clear f0 f1 f2 f3 f4 f5 f6 f7 f8 f9 f10 f11 f12 f13
   have hcl3 := Lib.hid (cln_trans hcl.out (cln_trans (by (repeat with_reducible first | exact cR _ | assumption | refine cA ?_ _ | refine cD ?_ | refine cN ?_ _ | refine cS ?_ (by first | omega | (simp <;> omega)) _)) hq))
   have hd3 : Hid (w3.cell? ⟨w.heap.size, 0, none⟩ = some (.slice (some ⟨b, o, none⟩) n c)) := (Kept.of_below (S := fun _ => False) (cln_trans (by (repeat with_reducible first | exact cR _ | assumption | refine cA ?_ _ | refine cD ?_ | refine cN ?_ _ | refine cS ?_ (by first | omega | (simp <;> omega)) _)) hq)).cell hdd id
   clear hq hdd hdl hd hcl
   have hdd := hd3.out
   by_cases hca : checkAct r = 0
   ·have t4 : (((checkAct r : Nat) : Int) != 0) = false := by rw [hca]; rfl
    have hst : Hid (checkDeal l = actsErr (i + 1) (l.drop (i + 1))) := by unfold Hid; rw [hstep.out, if_pos hca]
    replace hca := Lib.hid hca
    go_wp2_with fail
    go_roundw
    case rel => exact ⟨i + 1, hlt, by go_num, hcl3, hd3, hst⟩
    case measure => simp [intOf]; omega
   ·have t4 : (((checkAct r : Nat) : Int) != 0) = true := by rw [bne_iff_ne]; omega
    have hst : Hid (checkDeal l = (checkAct r, i + 1)) := by unfold Hid; rw [hstep.out, if_neg hca]
    go_wp2_with fail
    go_ret2
    refine ⟨?_, hcl3.out⟩
    rw [hst.out]
    first | rfl | (simp; done)
  ·obtain rfl : i = n := by omega
   have t3 : decide ((i : Int) < (i : Int)) = false := decide_eq_false (by omega)
   go_wp2_with fail
   go_ret2
   exact ⟨by rw [hH.out, List.drop_of_length_le (by omega)]; rfl, hcl.out⟩
end Go.Proofs.YtbemnfbndjolpaaGreatDoor
