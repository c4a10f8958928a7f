/- The law ActChecks. (Printed by wip/tools/gen_lactc.py.) -/
import Derived.Test.YtocllhghbmbjpaaDoorWActSp
import Derived.Test.YtocllhghbmbjpaaDoorWAct7
import Derived.Deep.RegionWith
set_option linter.unusedSimpArgs false
set_option linter.unusedVariables false
set_option maxRecDepth 20000
namespace Go.Proofs.YtocllhghbmbjpaaDoor
open Go.RowKit Moi
attribute [local go_sem] toList_str str_size less_ltB store_float
set_option maxHeartbeats 8000000 in
theorem lActChecks (a : MAct) (A : Option Addr) (n c : Nat) (hf : a.WF) (w : World) (hK : KindsAt w) (hr : RdItems w A n a.make.list) :
    Calls Tryd.prog 4 #[actVal a A n c] w fun e w' => e = .returned (.bool true) ∧ Cln w w' := by
  have hn : Hid (a.make.list.length = n) := hr.len
  have hb0 := Blk.new w 33 #[.int .i64 a.kind, .string (str a.key), .int .i64 a.n, .float .f64 a.x, .string (str a.s), .int .i64 a.make.kind, .int .i64 a.make.num, .int .i64 a.make.low, .int .i64 a.make.high, .float .f64 a.make.real, .int .i64 a.make.cap, .string (str a.make.text), .slice A n c, .bool a.must]
  have hcl : Cln w (w.alloc (.cells #[.int .i64 a.kind, .string (str a.key), .int .i64 a.n, .float .f64 a.x, .string (str a.s), .int .i64 a.make.kind, .int .i64 a.make.num, .int .i64 a.make.low, .int .i64 a.make.high, .float .f64 a.make.real, .int .i64 a.make.cap, .string (str a.make.text), .slice A n c, .bool a.must] 33)) := by (repeat (first | (with_reducible exact Below.refl _ _) | (with_reducible assumption) | (with_reducible refine Below.setCell ?_ (by first | omega | (simp; done) | (simp; omega)) _) | (with_reducible refine Below.alloc ?_ (by first | omega | (simp; done) | (simp; omega)) _) | (with_reducible refine Below.drew ?_) | (with_reducible refine below_drewN ?_ _)))
  replace hf := Lib.hid hf
  have cSp := speaks_act _ (hK.cln hcl)
  have hv : actVal a A n c = .agg #[.int .i64 a.kind, .string (str a.key), .int .i64 a.n, .float .f64 a.x, .string (str a.s), .int .i64 a.make.kind, .int .i64 a.make.num, .int .i64 a.make.low, .int .i64 a.make.high, .float .f64 a.make.real, .int .i64 a.make.cap, .string (str a.make.text), .slice A n c, .bool a.must] := rfl
  rw [hv]
  go_enter Tryd.func4, Tryd.ntmps4
  go_wp2_with fail
  refine cSp.mono ?_; rintro e w1 ⟨rfl, hq⟩
  clear cSp
  have hA1 := Lib.hid (hb0.cln hq)
  have hcl1 := Lib.hid (cln_trans hcl hq)
  have hr1 := Lib.hid (hr.cln hcl1.out)
  have hK1 := Lib.hid (hK.cln hcl1.out)
  clear hb0 hcl hq hr hK
  have uA := hA1.out.cell; have lA := hA1.out.lt
  have hcur : Hid (Cln w1 w1.drew) := Below.drew (Below.refl _ _)
  rcases bigA_or a with hbig | hbig
  case inr =>
    have cG : ∀ W, Cln w1 W → Calls Tryd.prog 16 #[.agg #[.int .i64 a.kind, .string (str a.key), .int .i64 a.n, .float .f64 a.x, .string (str a.s), .int .i64 a.make.kind, .int .i64 a.make.num, .int .i64 a.make.low, .int .i64 a.make.high, .float .f64 a.make.real, .int .i64 a.make.cap, .string (str a.make.text), .slice A n c, .bool a.must]] W fun e w' => e = .returned (.int .i64 1) ∧ Cln W w' := fun W h => by
      have := bigA_any a A n c W (hr1.out.cln h)
      rw [hbig] at this
      exact this
    clear hbig
    go_wp2_with fail
    go_region_with (go_at_call 16; with_reducible refine (cG _ hcur.out).mono ?_; rintro e w' ⟨rfl, hq⟩; have hcur := Lib.hid (cln_trans hcur.out hq); clear hq uA lA; have uA := (hA1.out.cln hcur.out).cell; have lA := (hA1.out.cln hcur.out).lt)
    all_goals
      (try go_wp2_with fail)
      go_ret
      exact ⟨rfl, cln_trans hcl1.out (cln_trans hcur.out (by (repeat (first | (with_reducible exact Below.refl _ _) | (with_reducible assumption) | (with_reducible refine Below.setCell ?_ (by first | omega | (simp; done) | (simp; omega)) _) | (with_reducible refine Below.alloc ?_ (by first | omega | (simp; done) | (simp; omega)) _) | (with_reducible refine Below.drew ?_) | (with_reducible refine below_drewN ?_ _)))))⟩
  have hle := bigA_le hbig
  have hn100 : n ≤ 1000 := by have := (bigN_le a.make hle.2.2).1; rw [hn.out] at this; omega
  have cG : ∀ W, Cln w1 W → Calls Tryd.prog 16 #[.agg #[.int .i64 a.kind, .string (str a.key), .int .i64 a.n, .float .f64 a.x, .string (str a.s), .int .i64 a.make.kind, .int .i64 a.make.num, .int .i64 a.make.low, .int .i64 a.make.high, .float .f64 a.make.real, .int .i64 a.make.cap, .string (str a.make.text), .slice A n c, .bool a.must]] W fun e w' => e = .returned (.int .i64 0) ∧ Cln W w' := fun W h => by
    have := bigA_any a A n c W (hr1.out.cln h)
    rw [hbig] at this
    exact this
  have cC : ∀ W, Cln w1 W → Calls Tryd.prog 17 #[.agg #[.int .i64 a.kind, .string (str a.key), .int .i64 a.n, .float .f64 a.x, .string (str a.s), .int .i64 a.make.kind, .int .i64 a.make.num, .int .i64 a.make.low, .int .i64 a.make.high, .float .f64 a.make.real, .int .i64 a.make.cap, .string (str a.make.text), .slice A n c, .bool a.must]] W fun e w' => e = .returned (.int .i64 (checkAct a : Nat)) ∧ Cln W w' := fun W h => acheck_any a A n c (by omega) hf.out W (hK1.out.cln h) (hr1.out.cln h)
  have cR : ∀ W, Cln w1 W → Calls Tryd.prog 18 #[.agg #[.int .i64 a.kind, .string (str a.key), .int .i64 a.n, .float .f64 a.x, .string (str a.s), .int .i64 a.make.kind, .int .i64 a.make.num, .int .i64 a.make.low, .int .i64 a.make.high, .float .f64 a.make.real, .int .i64 a.make.cap, .string (str a.make.text), .slice A n c, .bool a.must]] W fun e w' => e = .returned (.int .i64 (checkAct a : Nat)) ∧ Cln W w' := fun W h => racheck_any a A n c (by omega) hf.out W (hr1.out.cln h)
  have hz : (((checkAct a : Nat) : Int) == ((checkAct a : Nat) : Int)) = true := beq_self_eq_true _
  clear hbig hle
  go_wp2_with fail
  go_region_with (first
    | (go_at_call 16; with_reducible refine (cG _ hcur.out).mono ?_; rintro e w' ⟨rfl, hq⟩; have hcur := Lib.hid (cln_trans hcur.out hq); clear hq uA lA; have uA := (hA1.out.cln hcur.out).cell; have lA := (hA1.out.cln hcur.out).lt)
    | (go_at_call 17; with_reducible refine (cC _ hcur.out).mono ?_; rintro e w' ⟨rfl, hq⟩; have hcur := Lib.hid (cln_trans hcur.out hq); clear hq uA lA; have uA := (hA1.out.cln hcur.out).cell; have lA := (hA1.out.cln hcur.out).lt)
    | (go_at_call 18; with_reducible refine (cR _ hcur.out).mono ?_; rintro e w' ⟨rfl, hq⟩; have hcur := Lib.hid (cln_trans hcur.out hq); clear hq uA lA; have uA := (hA1.out.cln hcur.out).cell; have lA := (hA1.out.cln hcur.out).lt))
  all_goals
    (try go_wp2_with fail)
    go_ret
    exact ⟨rfl, cln_trans hcl1.out (cln_trans hcur.out (by (repeat (first | (with_reducible exact Below.refl _ _) | (with_reducible assumption) | (with_reducible refine Below.setCell ?_ (by first | omega | (simp; done) | (simp; omega)) _) | (with_reducible refine Below.alloc ?_ (by first | omega | (simp; done) | (simp; omega)) _) | (with_reducible refine Below.drew ?_) | (with_reducible refine below_drewN ?_ _)))))⟩
end Go.Proofs.YtocllhghbmbjpaaDoor
