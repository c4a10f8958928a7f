/- The walks of acts: Same, the document's Same. (Printed by wip/tools/gen_act2.py.) -/
import Derived.Test.YtoeoodiifpoomaaGreatDoorWAct1
import Derived.Test.YtoeoodiifpoomaaGreatDoorWActR
import Derived.Test.YtoeoodiifpoomaaGreatDoorChecks2
import Derived.Test.YtoeoodiifpoomaaGreatDoorWRSame
set_option linter.unusedSimpArgs false
set_option linter.unusedVariables false
set_option maxRecDepth 20000
namespace Go.Proofs.YtoeoodiifpoomaaGreatDoor
open Go.RowKit Moi
attribute [local go_sem] toList_str str_size less_ltB store_float
set_option maxHeartbeats 8000000 in
theorem asame_any (a b : MAct) (A B : Option Addr) (n c k d : Nat) (w : World) (hr : RdItems w A n a.make.list) (hs : RdItems w B k b.make.list) (hn : n ≤ 140737488355328) (hk : k ≤ 140737488355328)
    (hax : a.x < 18446744073709551616) (hbx : b.x < 18446744073709551616) (ha : a.make.real < 18446744073709551616) (hb : b.make.real < 18446744073709551616) :
    Calls Tryz.prog 86 #[actVal a A n c, actVal b B k d] w fun e w' => e = .returned (.bool (sameAct a b)) ∧ Cln w w' := by
  have hcl : Hid (Cln w ((w.alloc (.cells #[.int .i64 a.kind, .string (str a.key), .int .i64 a.n, .float .f64 a.x, .string (str a.s), .int .i64 a.make.kind, .int .i64 a.make.num, .int .i64 a.make.low, .int .i64 a.make.high, .float .f64 a.make.real, .int .i64 a.make.cap, .string (str a.make.text), .slice A n c, .bool a.must] 90)).alloc (.cells #[.int .i64 b.kind, .string (str b.key), .int .i64 b.n, .float .f64 b.x, .string (str b.s), .int .i64 b.make.kind, .int .i64 b.make.num, .int .i64 b.make.low, .int .i64 b.make.high, .float .f64 b.make.real, .int .i64 b.make.cap, .string (str b.make.text), .slice B k d, .bool b.must] 90))) := by unfold Hid; (repeat (first | (with_reducible exact Below.refl _ _) | (with_reducible assumption) | (with_reducible refine Below.setCell ?_ (by first | omega | (simp; done) | (simp; omega)) _) | (with_reducible refine Below.alloc ?_ (by first | omega | (simp; done) | (simp; omega)) _) | (with_reducible refine Below.drew ?_) | (with_reducible refine below_drewN ?_ _)))
  have hS : ∀ W, Cln w W → Calls Tryz.prog 129 #[.agg #[.int .i64 a.make.kind, .int .i64 a.make.num, .int .i64 a.make.low, .int .i64 a.make.high, .float .f64 a.make.real, .int .i64 a.make.cap, .string (str a.make.text), .slice A n c], .agg #[.int .i64 b.make.kind, .int .i64 b.make.num, .int .i64 b.make.low, .int .i64 b.make.high, .float .f64 b.make.real, .int .i64 b.make.cap, .string (str b.make.text), .slice B k d]] W fun e w' => e = .returned (.bool (sameRec a.make b.make)) ∧ Cln W w' :=
    fun W h => same_any a.make b.make A B n c k d W (hr.cln h) (hs.cln h) hn hk ha hb
  have hA := Lib.hid ((Blk.new w 90 #[.int .i64 a.kind, .string (str a.key), .int .i64 a.n, .float .f64 a.x, .string (str a.s), .int .i64 a.make.kind, .int .i64 a.make.num, .int .i64 a.make.low, .int .i64 a.make.high, .float .f64 a.make.real, .int .i64 a.make.cap, .string (str a.make.text), .slice A n c, .bool a.must]).alloc (.cells #[.int .i64 b.kind, .string (str b.key), .int .i64 b.n, .float .f64 b.x, .string (str b.s), .int .i64 b.make.kind, .int .i64 b.make.num, .int .i64 b.make.low, .int .i64 b.make.high, .float .f64 b.make.real, .int .i64 b.make.cap, .string (str b.make.text), .slice B k d, .bool b.must] 90))
  have hB := Blk.new (w.alloc (.cells #[.int .i64 a.kind, .string (str a.key), .int .i64 a.n, .float .f64 a.x, .string (str a.s), .int .i64 a.make.kind, .int .i64 a.make.num, .int .i64 a.make.low, .int .i64 a.make.high, .float .f64 a.make.real, .int .i64 a.make.cap, .string (str a.make.text), .slice A n c, .bool a.must] 90)) 90 #[.int .i64 b.kind, .string (str b.key), .int .i64 b.n, .float .f64 b.x, .string (str b.s), .int .i64 b.make.kind, .int .i64 b.make.num, .int .i64 b.make.low, .int .i64 b.make.high, .float .f64 b.make.real, .int .i64 b.make.cap, .string (str b.make.text), .slice B k d, .bool b.must]
  rw [World.size_alloc] at hB
  replace hB := Lib.hid hB
  have hcur : Hid (Cln ((w.alloc (.cells #[.int .i64 a.kind, .string (str a.key), .int .i64 a.n, .float .f64 a.x, .string (str a.s), .int .i64 a.make.kind, .int .i64 a.make.num, .int .i64 a.make.low, .int .i64 a.make.high, .float .f64 a.make.real, .int .i64 a.make.cap, .string (str a.make.text), .slice A n c, .bool a.must] 90)).alloc (.cells #[.int .i64 b.kind, .string (str b.key), .int .i64 b.n, .float .f64 b.x, .string (str b.s), .int .i64 b.make.kind, .int .i64 b.make.num, .int .i64 b.make.low, .int .i64 b.make.high, .float .f64 b.make.real, .int .i64 b.make.cap, .string (str b.make.text), .slice B k d, .bool b.must] 90)) ((w.alloc (.cells #[.int .i64 a.kind, .string (str a.key), .int .i64 a.n, .float .f64 a.x, .string (str a.s), .int .i64 a.make.kind, .int .i64 a.make.num, .int .i64 a.make.low, .int .i64 a.make.high, .float .f64 a.make.real, .int .i64 a.make.cap, .string (str a.make.text), .slice A n c, .bool a.must] 90)).alloc (.cells #[.int .i64 b.kind, .string (str b.key), .int .i64 b.n, .float .f64 b.x, .string (str b.s), .int .i64 b.make.kind, .int .i64 b.make.num, .int .i64 b.make.low, .int .i64 b.make.high, .float .f64 b.make.real, .int .i64 b.make.cap, .string (str b.make.text), .slice B k d, .bool b.must] 90))) := Below.refl _ _
  have uA := hA.out.cell; have uB := hB.out.cell
  have lA := hA.out.lt; have lB := hB.out.lt
  clear hr hs
  unfold actVal
  cases h0 : (a.kind == b.kind) with
  | false =>
    have hF : Hid (sameAct a b = false) := by unfold Hid; unfold sameAct; simp only [h0]; simp
    go_enter Tryz.func86, Tryz.ntmps86
    go_wp2_with (first
    | (go_at_call 128; refine (fsame_any _ _ hax hbx _).mono ?_; rintro e w' ⟨rfl, rfl⟩)
    | (go_at_call 129; with_reducible refine (hS _ (cln_trans hcl.out hcur.out)).mono ?_; rintro e w' ⟨rfl, hq⟩; have hcur := Lib.hid (cln_trans hcur.out hq); clear hq uA uB lA lB; have uA := (hA.out.cln hcur.out).cell; have uB := (hB.out.cln hcur.out).cell; have lA := (hA.out.cln hcur.out).lt; have lB := (hB.out.cln hcur.out).lt))
    go_ret
    exact ⟨ret_bool hF.out.symm, cln_trans hcl.out hcur.out⟩
  | true =>
  cases h1 : (a.key == b.key) with
  | false =>
    have hF : Hid (sameAct a b = false) := by unfold Hid; unfold sameAct; simp only [h0, h1]; simp
    go_enter Tryz.func86, Tryz.ntmps86
    go_wp2_with (first
    | (go_at_call 128; refine (fsame_any _ _ hax hbx _).mono ?_; rintro e w' ⟨rfl, rfl⟩)
    | (go_at_call 129; with_reducible refine (hS _ (cln_trans hcl.out hcur.out)).mono ?_; rintro e w' ⟨rfl, hq⟩; have hcur := Lib.hid (cln_trans hcur.out hq); clear hq uA uB lA lB; have uA := (hA.out.cln hcur.out).cell; have uB := (hB.out.cln hcur.out).cell; have lA := (hA.out.cln hcur.out).lt; have lB := (hB.out.cln hcur.out).lt))
    go_ret
    exact ⟨ret_bool hF.out.symm, cln_trans hcl.out hcur.out⟩
  | true =>
  cases h2 : (a.n == b.n) with
  | false =>
    have hF : Hid (sameAct a b = false) := by unfold Hid; unfold sameAct; simp only [h0, h1, h2]; simp
    go_enter Tryz.func86, Tryz.ntmps86
    go_wp2_with (first
    | (go_at_call 128; refine (fsame_any _ _ hax hbx _).mono ?_; rintro e w' ⟨rfl, rfl⟩)
    | (go_at_call 129; with_reducible refine (hS _ (cln_trans hcl.out hcur.out)).mono ?_; rintro e w' ⟨rfl, hq⟩; have hcur := Lib.hid (cln_trans hcur.out hq); clear hq uA uB lA lB; have uA := (hA.out.cln hcur.out).cell; have uB := (hB.out.cln hcur.out).cell; have lA := (hA.out.cln hcur.out).lt; have lB := (hB.out.cln hcur.out).lt))
    go_ret
    exact ⟨ret_bool hF.out.symm, cln_trans hcl.out hcur.out⟩
  | true =>
  cases h3 : fsame a.x b.x with
  | false =>
    have hF : Hid (sameAct a b = false) := by unfold Hid; unfold sameAct; simp only [h0, h1, h2, h3]; simp
    go_enter Tryz.func86, Tryz.ntmps86
    go_wp2_with (first
    | (go_at_call 128; refine (fsame_any _ _ hax hbx _).mono ?_; rintro e w' ⟨rfl, rfl⟩)
    | (go_at_call 129; with_reducible refine (hS _ (cln_trans hcl.out hcur.out)).mono ?_; rintro e w' ⟨rfl, hq⟩; have hcur := Lib.hid (cln_trans hcur.out hq); clear hq uA uB lA lB; have uA := (hA.out.cln hcur.out).cell; have uB := (hB.out.cln hcur.out).cell; have lA := (hA.out.cln hcur.out).lt; have lB := (hB.out.cln hcur.out).lt))
    go_ret
    exact ⟨ret_bool hF.out.symm, cln_trans hcl.out hcur.out⟩
  | true =>
  cases h4 : (a.s == b.s) with
  | false =>
    have hF : Hid (sameAct a b = false) := by unfold Hid; unfold sameAct; simp only [h0, h1, h2, h3, h4]; simp
    go_enter Tryz.func86, Tryz.ntmps86
    go_wp2_with (first
    | (go_at_call 128; refine (fsame_any _ _ hax hbx _).mono ?_; rintro e w' ⟨rfl, rfl⟩)
    | (go_at_call 129; with_reducible refine (hS _ (cln_trans hcl.out hcur.out)).mono ?_; rintro e w' ⟨rfl, hq⟩; have hcur := Lib.hid (cln_trans hcur.out hq); clear hq uA uB lA lB; have uA := (hA.out.cln hcur.out).cell; have uB := (hB.out.cln hcur.out).cell; have lA := (hA.out.cln hcur.out).lt; have lB := (hB.out.cln hcur.out).lt))
    go_ret
    exact ⟨ret_bool hF.out.symm, cln_trans hcl.out hcur.out⟩
  | true =>
  cases h5 : sameRec a.make b.make with
  | false =>
    have hF : Hid (sameAct a b = false) := by unfold Hid; unfold sameAct; simp only [h0, h1, h2, h3, h4, h5]; simp
    go_enter Tryz.func86, Tryz.ntmps86
    go_wp2_with (first
    | (go_at_call 128; refine (fsame_any _ _ hax hbx _).mono ?_; rintro e w' ⟨rfl, rfl⟩)
    | (go_at_call 129; with_reducible refine (hS _ (cln_trans hcl.out hcur.out)).mono ?_; rintro e w' ⟨rfl, hq⟩; have hcur := Lib.hid (cln_trans hcur.out hq); clear hq uA uB lA lB; have uA := (hA.out.cln hcur.out).cell; have uB := (hB.out.cln hcur.out).cell; have lA := (hA.out.cln hcur.out).lt; have lB := (hB.out.cln hcur.out).lt))
    go_ret
    exact ⟨ret_bool hF.out.symm, cln_trans hcl.out hcur.out⟩
  | true =>
  cases h6 : (a.must == b.must) with
  | false =>
    have hF : Hid (sameAct a b = false) := by unfold Hid; unfold sameAct; simp only [h0, h1, h2, h3, h4, h5, h6]; simp
    go_enter Tryz.func86, Tryz.ntmps86
    go_wp2_with (first
    | (go_at_call 128; refine (fsame_any _ _ hax hbx _).mono ?_; rintro e w' ⟨rfl, rfl⟩)
    | (go_at_call 129; with_reducible refine (hS _ (cln_trans hcl.out hcur.out)).mono ?_; rintro e w' ⟨rfl, hq⟩; have hcur := Lib.hid (cln_trans hcur.out hq); clear hq uA uB lA lB; have uA := (hA.out.cln hcur.out).cell; have uB := (hB.out.cln hcur.out).cell; have lA := (hA.out.cln hcur.out).lt; have lB := (hB.out.cln hcur.out).lt))
    go_ret
    exact ⟨ret_bool hF.out.symm, cln_trans hcl.out hcur.out⟩
  | true =>
  have hF : Hid (sameAct a b = true) := by unfold Hid; unfold sameAct; simp only [h0, h1, h2, h3, h4, h5, h6]; simp
  go_enter Tryz.func86, Tryz.ntmps86
  go_wp2_with (first
    | (go_at_call 128; refine (fsame_any _ _ hax hbx _).mono ?_; rintro e w' ⟨rfl, rfl⟩)
    | (go_at_call 129; with_reducible refine (hS _ (cln_trans hcl.out hcur.out)).mono ?_; rintro e w' ⟨rfl, hq⟩; have hcur := Lib.hid (cln_trans hcur.out hq); clear hq uA uB lA lB; have uA := (hA.out.cln hcur.out).cell; have uB := (hB.out.cln hcur.out).cell; have lA := (hA.out.cln hcur.out).lt; have lB := (hB.out.cln hcur.out).lt))
  go_ret
  exact ⟨ret_bool hF.out.symm, cln_trans hcl.out hcur.out⟩
set_option maxHeartbeats 8000000 in
theorem rasame_any (a b : MAct) (A B : Option Addr) (n c k d : Nat) (w : World) (hr : RdItems w A n a.make.list) (hs : RdItems w B k b.make.list) (hn : n ≤ 140737488355328) (hk : k ≤ 140737488355328)
    (hax : a.x < 18446744073709551616) (hbx : b.x < 18446744073709551616) (ha : a.make.real < 18446744073709551616) (hb : b.make.real < 18446744073709551616) :
    Calls Tryz.prog 66 #[actVal a A n c, actVal b B k d] w fun e w' => e = .returned (.bool (sameAct a b)) ∧ Cln w w' := by
  have hcl : Hid (Cln w ((w.alloc (.cells #[.int .i64 a.kind, .string (str a.key), .int .i64 a.n, .float .f64 a.x, .string (str a.s), .int .i64 a.make.kind, .int .i64 a.make.num, .int .i64 a.make.low, .int .i64 a.make.high, .float .f64 a.make.real, .int .i64 a.make.cap, .string (str a.make.text), .slice A n c, .bool a.must] 90)).alloc (.cells #[.int .i64 b.kind, .string (str b.key), .int .i64 b.n, .float .f64 b.x, .string (str b.s), .int .i64 b.make.kind, .int .i64 b.make.num, .int .i64 b.make.low, .int .i64 b.make.high, .float .f64 b.make.real, .int .i64 b.make.cap, .string (str b.make.text), .slice B k d, .bool b.must] 90))) := by unfold Hid; (repeat (first | (with_reducible exact Below.refl _ _) | (with_reducible assumption) | (with_reducible refine Below.setCell ?_ (by first | omega | (simp; done) | (simp; omega)) _) | (with_reducible refine Below.alloc ?_ (by first | omega | (simp; done) | (simp; omega)) _) | (with_reducible refine Below.drew ?_) | (with_reducible refine below_drewN ?_ _)))
  have hS : ∀ W, Cln w W → Calls Tryz.prog 99 #[.agg #[.int .i64 a.make.kind, .int .i64 a.make.num, .int .i64 a.make.low, .int .i64 a.make.high, .float .f64 a.make.real, .int .i64 a.make.cap, .string (str a.make.text), .slice A n c], .agg #[.int .i64 b.make.kind, .int .i64 b.make.num, .int .i64 b.make.low, .int .i64 b.make.high, .float .f64 b.make.real, .int .i64 b.make.cap, .string (str b.make.text), .slice B k d]] W fun e w' => e = .returned (.bool (sameRec a.make b.make)) ∧ Cln W w' :=
    fun W h => recsame_any a.make b.make A B n c k d W (hr.cln h) (hs.cln h) hn hk ha hb
  have hA := Lib.hid ((Blk.new w 90 #[.int .i64 a.kind, .string (str a.key), .int .i64 a.n, .float .f64 a.x, .string (str a.s), .int .i64 a.make.kind, .int .i64 a.make.num, .int .i64 a.make.low, .int .i64 a.make.high, .float .f64 a.make.real, .int .i64 a.make.cap, .string (str a.make.text), .slice A n c, .bool a.must]).alloc (.cells #[.int .i64 b.kind, .string (str b.key), .int .i64 b.n, .float .f64 b.x, .string (str b.s), .int .i64 b.make.kind, .int .i64 b.make.num, .int .i64 b.make.low, .int .i64 b.make.high, .float .f64 b.make.real, .int .i64 b.make.cap, .string (str b.make.text), .slice B k d, .bool b.must] 90))
  have hB := Blk.new (w.alloc (.cells #[.int .i64 a.kind, .string (str a.key), .int .i64 a.n, .float .f64 a.x, .string (str a.s), .int .i64 a.make.kind, .int .i64 a.make.num, .int .i64 a.make.low, .int .i64 a.make.high, .float .f64 a.make.real, .int .i64 a.make.cap, .string (str a.make.text), .slice A n c, .bool a.must] 90)) 90 #[.int .i64 b.kind, .string (str b.key), .int .i64 b.n, .float .f64 b.x, .string (str b.s), .int .i64 b.make.kind, .int .i64 b.make.num, .int .i64 b.make.low, .int .i64 b.make.high, .float .f64 b.make.real, .int .i64 b.make.cap, .string (str b.make.text), .slice B k d, .bool b.must]
  rw [World.size_alloc] at hB
  replace hB := Lib.hid hB
  have hcur : Hid (Cln ((w.alloc (.cells #[.int .i64 a.kind, .string (str a.key), .int .i64 a.n, .float .f64 a.x, .string (str a.s), .int .i64 a.make.kind, .int .i64 a.make.num, .int .i64 a.make.low, .int .i64 a.make.high, .float .f64 a.make.real, .int .i64 a.make.cap, .string (str a.make.text), .slice A n c, .bool a.must] 90)).alloc (.cells #[.int .i64 b.kind, .string (str b.key), .int .i64 b.n, .float .f64 b.x, .string (str b.s), .int .i64 b.make.kind, .int .i64 b.make.num, .int .i64 b.make.low, .int .i64 b.make.high, .float .f64 b.make.real, .int .i64 b.make.cap, .string (str b.make.text), .slice B k d, .bool b.must] 90)) ((w.alloc (.cells #[.int .i64 a.kind, .string (str a.key), .int .i64 a.n, .float .f64 a.x, .string (str a.s), .int .i64 a.make.kind, .int .i64 a.make.num, .int .i64 a.make.low, .int .i64 a.make.high, .float .f64 a.make.real, .int .i64 a.make.cap, .string (str a.make.text), .slice A n c, .bool a.must] 90)).alloc (.cells #[.int .i64 b.kind, .string (str b.key), .int .i64 b.n, .float .f64 b.x, .string (str b.s), .int .i64 b.make.kind, .int .i64 b.make.num, .int .i64 b.make.low, .int .i64 b.make.high, .float .f64 b.make.real, .int .i64 b.make.cap, .string (str b.make.text), .slice B k d, .bool b.must] 90))) := Below.refl _ _
  have uA := hA.out.cell; have uB := hB.out.cell
  have lA := hA.out.lt; have lB := hB.out.lt
  clear hr hs
  unfold actVal
  cases h0 : (a.kind == b.kind) with
  | false =>
    have hF : Hid (sameAct a b = false) := by unfold Hid; unfold sameAct; simp only [h0]; simp
    have m0 : (a.kind != b.kind) = true := by rw [bne, h0]; rfl
    go_enter Tryz.func66, Tryz.ntmps66
    go_wp2_with (first
    | (go_at_call 98; refine (rsame_any _ _ hax hbx _).mono ?_; rintro e w' ⟨rfl, rfl⟩)
    | (go_at_call 99; with_reducible refine (hS _ (cln_trans hcl.out hcur.out)).mono ?_; rintro e w' ⟨rfl, hq⟩; have hcur := Lib.hid (cln_trans hcur.out hq); clear hq uA uB lA lB; have uA := (hA.out.cln hcur.out).cell; have uB := (hB.out.cln hcur.out).cell; have lA := (hA.out.cln hcur.out).lt; have lB := (hB.out.cln hcur.out).lt))
    go_ret
    exact ⟨ret_bool hF.out.symm, cln_trans hcl.out hcur.out⟩
  | true =>
  cases h1 : (a.key == b.key) with
  | false =>
    have hF : Hid (sameAct a b = false) := by unfold Hid; unfold sameAct; simp only [h0, h1]; simp
    have m0 : (a.kind != b.kind) = false := by rw [bne, h0]; rfl
    go_enter Tryz.func66, Tryz.ntmps66
    go_wp2_with (first
    | (go_at_call 98; refine (rsame_any _ _ hax hbx _).mono ?_; rintro e w' ⟨rfl, rfl⟩)
    | (go_at_call 99; with_reducible refine (hS _ (cln_trans hcl.out hcur.out)).mono ?_; rintro e w' ⟨rfl, hq⟩; have hcur := Lib.hid (cln_trans hcur.out hq); clear hq uA uB lA lB; have uA := (hA.out.cln hcur.out).cell; have uB := (hB.out.cln hcur.out).cell; have lA := (hA.out.cln hcur.out).lt; have lB := (hB.out.cln hcur.out).lt))
    go_ret
    exact ⟨ret_bool hF.out.symm, cln_trans hcl.out hcur.out⟩
  | true =>
  cases h2 : (a.n == b.n) with
  | false =>
    have hF : Hid (sameAct a b = false) := by unfold Hid; unfold sameAct; simp only [h0, h1, h2]; simp
    have m0 : (a.kind != b.kind) = false := by rw [bne, h0]; rfl
    have m2 : (a.n != b.n) = true := by rw [bne, h2]; rfl
    go_enter Tryz.func66, Tryz.ntmps66
    go_wp2_with (first
    | (go_at_call 98; refine (rsame_any _ _ hax hbx _).mono ?_; rintro e w' ⟨rfl, rfl⟩)
    | (go_at_call 99; with_reducible refine (hS _ (cln_trans hcl.out hcur.out)).mono ?_; rintro e w' ⟨rfl, hq⟩; have hcur := Lib.hid (cln_trans hcur.out hq); clear hq uA uB lA lB; have uA := (hA.out.cln hcur.out).cell; have uB := (hB.out.cln hcur.out).cell; have lA := (hA.out.cln hcur.out).lt; have lB := (hB.out.cln hcur.out).lt))
    go_ret
    exact ⟨ret_bool hF.out.symm, cln_trans hcl.out hcur.out⟩
  | true =>
  cases h3 : (a.s == b.s) with
  | false =>
    have hF : Hid (sameAct a b = false) := by unfold Hid; unfold sameAct; simp only [h0, h1, h2, h3]; simp
    have m0 : (a.kind != b.kind) = false := by rw [bne, h0]; rfl
    have m2 : (a.n != b.n) = false := by rw [bne, h2]; rfl
    go_enter Tryz.func66, Tryz.ntmps66
    go_wp2_with (first
    | (go_at_call 98; refine (rsame_any _ _ hax hbx _).mono ?_; rintro e w' ⟨rfl, rfl⟩)
    | (go_at_call 99; with_reducible refine (hS _ (cln_trans hcl.out hcur.out)).mono ?_; rintro e w' ⟨rfl, hq⟩; have hcur := Lib.hid (cln_trans hcur.out hq); clear hq uA uB lA lB; have uA := (hA.out.cln hcur.out).cell; have uB := (hB.out.cln hcur.out).cell; have lA := (hA.out.cln hcur.out).lt; have lB := (hB.out.cln hcur.out).lt))
    go_ret
    exact ⟨ret_bool hF.out.symm, cln_trans hcl.out hcur.out⟩
  | true =>
  cases h4 : (a.must == b.must) with
  | false =>
    have hF : Hid (sameAct a b = false) := by unfold Hid; unfold sameAct; simp only [h0, h1, h2, h3, h4]; simp
    have m0 : (a.kind != b.kind) = false := by rw [bne, h0]; rfl
    have m2 : (a.n != b.n) = false := by rw [bne, h2]; rfl
    have m4 : (a.must != b.must) = true := by rw [bne, h4]; rfl
    go_enter Tryz.func66, Tryz.ntmps66
    go_wp2_with (first
    | (go_at_call 98; refine (rsame_any _ _ hax hbx _).mono ?_; rintro e w' ⟨rfl, rfl⟩)
    | (go_at_call 99; with_reducible refine (hS _ (cln_trans hcl.out hcur.out)).mono ?_; rintro e w' ⟨rfl, hq⟩; have hcur := Lib.hid (cln_trans hcur.out hq); clear hq uA uB lA lB; have uA := (hA.out.cln hcur.out).cell; have uB := (hB.out.cln hcur.out).cell; have lA := (hA.out.cln hcur.out).lt; have lB := (hB.out.cln hcur.out).lt))
    go_ret
    exact ⟨ret_bool hF.out.symm, cln_trans hcl.out hcur.out⟩
  | true =>
  cases h5 : fsame a.x b.x with
  | false =>
    have hF : Hid (sameAct a b = false) := by unfold Hid; unfold sameAct; simp only [h0, h1, h2, h3, h4, h5]; simp
    have m0 : (a.kind != b.kind) = false := by rw [bne, h0]; rfl
    have m2 : (a.n != b.n) = false := by rw [bne, h2]; rfl
    have m4 : (a.must != b.must) = false := by rw [bne, h4]; rfl
    go_enter Tryz.func66, Tryz.ntmps66
    go_wp2_with (first
    | (go_at_call 98; refine (rsame_any _ _ hax hbx _).mono ?_; rintro e w' ⟨rfl, rfl⟩)
    | (go_at_call 99; with_reducible refine (hS _ (cln_trans hcl.out hcur.out)).mono ?_; rintro e w' ⟨rfl, hq⟩; have hcur := Lib.hid (cln_trans hcur.out hq); clear hq uA uB lA lB; have uA := (hA.out.cln hcur.out).cell; have uB := (hB.out.cln hcur.out).cell; have lA := (hA.out.cln hcur.out).lt; have lB := (hB.out.cln hcur.out).lt))
    go_ret
    exact ⟨ret_bool hF.out.symm, cln_trans hcl.out hcur.out⟩
  | true =>
  cases h6 : sameRec a.make b.make with
  | false =>
    have hF : Hid (sameAct a b = false) := by unfold Hid; unfold sameAct; simp only [h0, h1, h2, h3, h4, h5, h6]; simp
    have m0 : (a.kind != b.kind) = false := by rw [bne, h0]; rfl
    have m2 : (a.n != b.n) = false := by rw [bne, h2]; rfl
    have m4 : (a.must != b.must) = false := by rw [bne, h4]; rfl
    go_enter Tryz.func66, Tryz.ntmps66
    go_wp2_with (first
    | (go_at_call 98; refine (rsame_any _ _ hax hbx _).mono ?_; rintro e w' ⟨rfl, rfl⟩)
    | (go_at_call 99; with_reducible refine (hS _ (cln_trans hcl.out hcur.out)).mono ?_; rintro e w' ⟨rfl, hq⟩; have hcur := Lib.hid (cln_trans hcur.out hq); clear hq uA uB lA lB; have uA := (hA.out.cln hcur.out).cell; have uB := (hB.out.cln hcur.out).cell; have lA := (hA.out.cln hcur.out).lt; have lB := (hB.out.cln hcur.out).lt))
    go_ret
    exact ⟨ret_bool hF.out.symm, cln_trans hcl.out hcur.out⟩
  | true =>
  have hF : Hid (sameAct a b = true) := by unfold Hid; unfold sameAct; simp only [h0, h1, h2, h3, h4, h5, h6]; simp
  have m0 : (a.kind != b.kind) = false := by rw [bne, h0]; rfl
  have m2 : (a.n != b.n) = false := by rw [bne, h2]; rfl
  have m4 : (a.must != b.must) = false := by rw [bne, h4]; rfl
  go_enter Tryz.func66, Tryz.ntmps66
  go_wp2_with (first
    | (go_at_call 98; refine (rsame_any _ _ hax hbx _).mono ?_; rintro e w' ⟨rfl, rfl⟩)
    | (go_at_call 99; with_reducible refine (hS _ (cln_trans hcl.out hcur.out)).mono ?_; rintro e w' ⟨rfl, hq⟩; have hcur := Lib.hid (cln_trans hcur.out hq); clear hq uA uB lA lB; have uA := (hA.out.cln hcur.out).cell; have uB := (hB.out.cln hcur.out).cell; have lA := (hA.out.cln hcur.out).lt; have lB := (hB.out.cln hcur.out).lt))
  go_ret
  exact ⟨ret_bool hF.out.symm, cln_trans hcl.out hcur.out⟩
end Go.Proofs.YtoeoodiifpoomaaGreatDoor
