/- The walks of rec.Name and the law's Big. -/
import Derived.Test.YtbemnfbndjolpaaGreatDoorWRead
import Derived.Test.YtbemnfbndjolpaaGreatDoorWBytes
set_option linter.unusedSimpArgs false
set_option linter.unusedVariables false
set_option maxRecDepth 20000
namespace Go.Proofs.YtbemnfbndjolpaaGreatDoor
open Go.RowKit Moi
attribute [local go_sem] toList_str str_size less_ltB store_float

def bigN (r : MRec) : Int := if bigRec r then 1 else 0
theorem big_any (r : MRec) (A : Option Addr) (n c : Nat) (w : World) (hr : RdItems w A n r.list) :
  Calls Tryz.prog 78 #[recVal r A n c] w fun e w' => e = .returned (.int .i64 (bigN r)) ∧ Cln w w' := by
 have hl := Lib.hid hr.len
 by_cases h1 : 100 < n
 ·have hb : bigN r = 1 := by unfold bigN bigRec; rw [hl.out]; simp [h1]
  rw [hb]; clear hb
  unfold recVal
  have t1 : decide ((100 : Int) < (n : Int)) = true := by simp; omega
  go_enter Tryz.func78, Tryz.ntmps78
  go_wp2_with fail
  go_ret
  exact ⟨rfl, by (repeat with_reducible first | exact cR _ | assumption | refine cA ?_ _ | refine cD ?_ | refine cN ?_ _ | refine cS ?_ (by first | omega | (simp <;> omega)) _)⟩
 by_cases h2 : 1000 < r.text.length
 ·have hb : bigN r = 1 := by unfold bigN bigRec; rw [hl.out]; simp [h2]
  rw [hb]; clear hb
  unfold recVal
  have t1 : decide ((100 : Int) < (n : Int)) = false := by simp; omega
  have t2 : decide ((1000 : Int) < (r.text.length : Int)) = true := by simp; omega
  go_enter Tryz.func78, Tryz.ntmps78
  go_wp2_with fail
  go_ret
  exact ⟨rfl, by (repeat with_reducible first | exact cR _ | assumption | refine cA ?_ _ | refine cD ?_ | refine cN ?_ _ | refine cS ?_ (by first | omega | (simp <;> omega)) _)⟩
 have hb : Hid (bigRec r = (r.list.drop 0).any fun x => decide (100 < x.name.length)) := by unfold Hid bigRec; rw [hl.out]; simp [h1, h2]
 have hcl0 : Cln w (w.alloc (.cells #[.int .i64 r.kind, .int .i64 r.num, .int .i64 r.low, .int .i64 r.high, .float .f64 r.real, .int .i64 r.cap, .string (str r.text), .slice A n c] 62)) := by (repeat with_reducible first | exact cR _ | assumption | refine cA ?_ _ | refine cD ?_ | refine cN ?_ _ | refine cS ?_ (by first | omega | (simp <;> omega)) _)
 have hr0 := hr.cln hcl0
 unfold recVal
 have t1 : decide ((100 : Int) < (n : Int)) = false := by simp; omega
 have t2 : decide ((1000 : Int) < (r.text.length : Int)) = false := by simp; omega
 clear hr h2
 go_enter Tryz.func78, Tryz.ntmps78
 go_wp2_with fail
 go_loopw [18] (fun v wr => ∃ i : Nat, i ≤ n ∧ v = .int .i64 (i : Nat) ∧ RdItems wr A n r.list ∧ Cln w wr ∧ Hid (bigRec r = (r.list.drop i).any fun x => decide (100 < x.name.length))) (fun v _ => (n - intOf v).toNat)
 case atStart => exact ⟨0, Nat.zero_le _, rfl, hr0, hcl0, hb⟩
 case round =>
  obtain ⟨i, hi, rfl, hR, hC, hH⟩ := hrel
  clear hb hr0 hcl0
  by_cases hlt : i < n
  ·obtain ⟨b, o, rfl, hblt, hcell⟩ := hR.cells (by omega)
   obtain ⟨hc0, hc1⟩ := hcell i hlt
   have hil : i < r.list.length := by rw [hl.out]; exact hlt
   have hdrop : r.list.drop i = itAt r.list i :: r.list.drop (i + 1) := by
    rw [List.drop_eq_getElem_cons hil]; unfold itAt; simp [hil]
   have hH' := Lib.hid hH.out
   rw [hdrop] at hH'
   have hH2 := Lib.hid hH'.out
   clear hH hH' hcell hdrop
   generalize itAt r.list i = x at hc0 hc1 hH2
   by_cases hx : 100 < x.name.length
   ·have hb : bigN r = 1 := by unfold bigN; rw [hH2.out]; simp [hx]
    have hb' := Lib.hid hb
    clear hb hH2
    have t3 : decide ((100 : Int) < (x.name.length : Int)) = true := by simp; omega
    go_wp2_with fail
    go_ret
    exact ⟨ret_int hb'.out.symm, cln_trans hC (by (repeat with_reducible first | exact cR _ | assumption | refine cA ?_ _ | refine cD ?_ | refine cN ?_ _ | refine cS ?_ (by first | omega | (simp <;> omega)) _))⟩
   ·have hH3 : Hid (bigRec r = (r.list.drop (i + 1)).any fun x => decide (100 < x.name.length)) := by unfold Hid; rw [hH2.out]; simp [hx]
    have hRa := hR.cln ((Below.refl _ _).alloc (Nat.le_refl _) (.cells #[.float .f64 x.score, .string (str x.name)] 158))
    have hCa := cln_trans hC ((Below.refl _ _).alloc (Nat.le_refl _) (.cells #[.float .f64 x.score, .string (str x.name)] 158))
    clear hH2
    have t3 : decide ((100 : Int) < (x.name.length : Int)) = false := by simp; omega
    go_wp2_with fail
    go_roundw
    case rel => exact ⟨i + 1, hlt, by go_num, hRa, hCa, hH3⟩
    case measure => simp [intOf]; omega
  ·obtain rfl : i = n := by omega
   have t3 : decide ((i : Int) < (i : Int)) = false := decide_eq_false (by omega)
   have hb : bigN r = 0 := by unfold bigN; rw [hH.out, List.drop_of_length_le (by rw [hl.out]; exact Nat.le_refl _)]; rfl
   have hb' := Lib.hid hb
   clear hb hH
   go_wp2_with fail
   go_ret
   exact ⟨ret_int hb'.out.symm, hC⟩
theorem bigN_le (r : MRec) (h : bigN r = 0) : r.list.length ≤ 100 ∧ r.text.length ≤ 1000 := by
 unfold bigN at h
 split at h
 ·cases h
 ·rename_i hb
  unfold bigRec at hb
  simp at hb
  omega
theorem bigN_or (r : MRec) : bigN r = 0 ∨ bigN r = 1 := by unfold bigN; split <;> simp

end Go.Proofs.YtbemnfbndjolpaaGreatDoor
