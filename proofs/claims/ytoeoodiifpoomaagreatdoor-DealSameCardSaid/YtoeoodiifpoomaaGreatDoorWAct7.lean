/- The walks of moietylaw04.Big, and of the document's Check of acts. (Printed by wip/tools/gen_act7.py.) -/
import Derived.Test.YtoeoodiifpoomaaGreatDoorActA
import Derived.Test.YtoeoodiifpoomaaGreatDoorWName
import Derived.Test.YtoeoodiifpoomaaGreatDoorWAct4
set_option linter.unusedSimpArgs false
set_option linter.unusedVariables false
set_option maxRecDepth 20000
namespace Go.Proofs.YtoeoodiifpoomaaGreatDoor
open Go.RowKit Moi
attribute [local go_sem] toList_str str_size less_ltB store_float
def bigNA (a : MAct) : Int := if bigAct a then 1 else 0
theorem bigA_le {a : MAct} (h : bigNA a = 0) : a.key.length ≤ 200 ∧ a.s.length ≤ 1000 ∧ bigN a.make = 0 := by
 unfold bigNA at h
 split at h
 ·cases h
 ·rename_i hb
  unfold bigAct at hb
  simp at hb
  unfold bigN
  exact ⟨by omega, by omega, by rw [if_neg (by simp [hb.2])]⟩
set_option maxHeartbeats 4000000 in
theorem bigA_any (a : MAct) (A : Option Addr) (n c : Nat) (w : World) (hr : RdItems w A n a.make.list) :
  Calls Tryz.prog 67 #[actVal a A n c] w fun e w' => e = .returned (.int .i64 (bigNA a)) ∧ Cln w w' := by
 have hcl0 : Cln w (w.alloc (.cells #[.int .i64 a.kind, .string (str a.key), .int .i64 a.n, .float .f64 a.x, .string (str a.s), .int .i64 a.make.kind, .int .i64 a.make.num, .int .i64 a.make.low, .int .i64 a.make.high, .float .f64 a.make.real, .int .i64 a.make.cap, .string (str a.make.text), .slice A n c, .bool a.must] 90)) := by (repeat with_reducible first | exact cR _ | assumption | refine cA ?_ _ | refine cD ?_ | refine cN ?_ _ | refine cS ?_ (by first | omega | (simp <;> omega)) _)
 have hb := Blk.new w 90 #[.int .i64 a.kind, .string (str a.key), .int .i64 a.n, .float .f64 a.x, .string (str a.s), .int .i64 a.make.kind, .int .i64 a.make.num, .int .i64 a.make.low, .int .i64 a.make.high, .float .f64 a.make.real, .int .i64 a.make.cap, .string (str a.make.text), .slice A n c, .bool a.must]
 have uA := hb.cell; have lA := hb.lt
 unfold actVal
 by_cases h1 : 200 < a.key.length
 ·have hI : bigNA a = 1 := by unfold bigNA bigAct; simp [h1]
  rw [hI]
  have t1 : decide (200 < (a.key.length : Int)) = true := decide_eq_true (by omega)
  clear hI
  go_enter Tryz.func67, Tryz.ntmps67
  go_wp2_with fail
  go_ret
  exact ⟨rfl, by (repeat with_reducible first | exact cR _ | assumption | refine cA ?_ _ | refine cD ?_ | refine cN ?_ _ | refine cS ?_ (by first | omega | (simp <;> omega)) _)⟩
 have t1 : decide (200 < (a.key.length : Int)) = false := decide_eq_false (by omega)
 by_cases h2 : 1000 < a.s.length
 ·have hI : bigNA a = 1 := by unfold bigNA bigAct; simp [h2]
  rw [hI]
  have t2 : decide (1000 < (a.s.length : Int)) = true := decide_eq_true (by omega)
  clear hI
  go_enter Tryz.func67, Tryz.ntmps67
  go_wp2_with fail
  go_ret
  exact ⟨rfl, by (repeat with_reducible first | exact cR _ | assumption | refine cA ?_ _ | refine cD ?_ | refine cN ?_ _ | refine cS ?_ (by first | omega | (simp <;> omega)) _)⟩
 have t2 : decide (1000 < (a.s.length : Int)) = false := decide_eq_false (by omega)
 have hI : bigNA a = bigN a.make := by unfold bigNA bigN bigAct; simp [h1, h2]
 rw [hI]
 clear hI h1 h2
 have cM := big_any a.make A n c _ (hr.cln hcl0)
 unfold recVal at cM
 go_enter Tryz.func67, Tryz.ntmps67
 go_wp2_with fail
 refine cM.mono ?_; rintro e w1 ⟨rfl, hq⟩
 clear cM uA lA hb
 rcases bigN_or a.make with h3 | h3
 ·rw [h3]
  go_wp2_with fail
  go_ret
  exact ⟨by first | rfl | (rw [h3]; rfl), cln_trans hcl0 hq⟩
 ·rw [h3]
  go_wp2_with fail
  go_ret
  exact ⟨by first | rfl | (rw [h3]; rfl), cln_trans hcl0 hq⟩
end Go.Proofs.YtoeoodiifpoomaaGreatDoor
