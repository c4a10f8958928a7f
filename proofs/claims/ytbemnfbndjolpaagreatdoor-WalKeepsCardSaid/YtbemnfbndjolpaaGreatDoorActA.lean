import Derived.Test.YtbemnfbndjolpaaGreatDoorWActK
import Derived.Test.YtbemnfbndjolpaaGreatDoorTakes
import Derived.Deep.RegionWith
import Derived.StillTailTactics
import Derived.Test.YtbemnfbndjolpaaGreatDoorRecs
import Derived.Test.YtbemnfbndjolpaaGreatDoorChecks2
import Derived.Test.YtbemnfbndjolpaaGreatDoorWActR
/- The walks of package act: Same, bare, most. -/
set_option linter.unusedSimpArgs false
set_option linter.unusedVariables false
set_option maxRecDepth 20000
namespace Go.Proofs.YtbemnfbndjolpaaGreatDoor
open Go.RowKit Moi
attribute [local go_sem] toList_str str_size less_ltB store_float
def actVal (a : MAct) (A : Option Addr) (n c : Nat) : Value :=
 .agg #[.int .i64 a.kind, .string (str a.key), .int .i64 a.n, .float .f64 a.x, .string (str a.s), .int .i64 a.make.kind, .int .i64 a.make.num, .int .i64 a.make.low, .int .i64 a.make.high, .float .f64 a.make.real, .int .i64 a.make.cap, .string (str a.make.text), .slice A n c, .bool a.must]
theorem most_any (k : Int) (w : World) :
  Calls Tryz.prog 103 #[.agg #[.string (str (wordOf k)), .int .i64 (onOf k : Nat), .string (str (kindFs k))]] w fun e w' => e = .returned (.int .i64 (mostOf k : Nat)) ∧ Cln w w' := by
 unfold mostOf
 have hb := Blk.new w 161 #[.string (str (wordOf k)), .int .i64 (onOf k : Nat), .string (str (kindFs k))]
 have hc := hb.cell 1
 have hlt := hb.lt
 by_cases h1 : onOf k = 1
 ·have t1 : (((onOf k : Nat) : Int) == 1) = true := by rw [h1]; rfl
  rw [if_pos h1]
  clear hb h1
  go_enter Tryz.func103, Tryz.ntmps103
  go_wp2_with fail
  go_ret
  exact ⟨rfl, by (repeat with_reducible first | exact cR _ | assumption | refine cA ?_ _ | refine cD ?_ | refine cN ?_ _ | refine cS ?_ (by first | omega | (simp <;> omega)) _)⟩
 ·have t1 : (((onOf k : Nat) : Int) == 1) = false := by rw [beq_eq_false_iff_ne]; omega
  rw [if_neg h1]
  clear hb h1
  go_enter Tryz.func103, Tryz.ntmps103
  go_wp2_with fail
  go_ret
  exact ⟨rfl, by (repeat with_reducible first | exact cR _ | assumption | refine cA ?_ _ | refine cD ?_ | refine cN ?_ _ | refine cS ?_ (by first | omega | (simp <;> omega)) _)⟩
set_option maxHeartbeats 8000000 in
theorem abare_any (a : MAct) (A : Option Addr) (n c : Nat) (hx : a.x < 18446744073709551616) (hr : a.make.real < 18446744073709551616) (hn : n ≤ 140737488355328) (w : World) (hit : RdItems w A n a.make.list) :
  Calls Tryz.prog 111 #[actVal a A n c, .agg #[.string (str (wordOf a.kind)), .int .i64 (onOf a.kind : Nat), .string (str (kindFs a.kind))]] w fun e w' => e = .returned (.bool (bareA a)) ∧ Cln w w' := by
 have f110 : ∀ W, Calls Tryz.prog 100 #[.agg #[.string (str (wordOf a.kind)), .int .i64 (onOf a.kind : Nat), .string (str (kindFs a.kind))], .int .u8 110] W fun e w' => e = .returned (.bool (hasF a.kind 110)) ∧ Cln W w' := fun W => field_any a.kind 110 W
 have f120 : ∀ W, Calls Tryz.prog 100 #[.agg #[.string (str (wordOf a.kind)), .int .i64 (onOf a.kind : Nat), .string (str (kindFs a.kind))], .int .u8 120] W fun e w' => e = .returned (.bool (hasF a.kind 120)) ∧ Cln W w' := fun W => field_any a.kind 120 W
 have f115 : ∀ W, Calls Tryz.prog 100 #[.agg #[.string (str (wordOf a.kind)), .int .i64 (onOf a.kind : Nat), .string (str (kindFs a.kind))], .int .u8 115] W fun e w' => e = .returned (.bool (hasF a.kind 115)) ∧ Cln W w' := fun W => field_any a.kind 115 W
 have f109 : ∀ W, Calls Tryz.prog 100 #[.agg #[.string (str (wordOf a.kind)), .int .i64 (onOf a.kind : Nat), .string (str (kindFs a.kind))], .int .u8 109] W fun e w' => e = .returned (.bool (hasF a.kind 109)) ∧ Cln W w' := fun W => field_any a.kind 109 W
 generalize wordOf a.kind = wd at f110 f120 f115 f109 ⊢
 generalize onOf a.kind = on at f110 f120 f115 f109 ⊢
 generalize kindFs a.kind = fl at f110 f120 f115 f109 ⊢
 have hend : ∀ (v : Bool) (w' : World), v = bareA a → Cln w w' → (Ending.returned (.bool v) = .returned (.bool (bareA a)) ∧ Cln w w') := fun v w' h h2 => ⟨by rw [h], h2⟩
 have hS : ∀ W, Cln w W → Calls Tryz.prog 123 #[.agg #[.int .i64 a.make.kind, .int .i64 a.make.num, .int .i64 a.make.low, .int .i64 a.make.high, .float .f64 a.make.real, .int .i64 a.make.cap, .string (str a.make.text), .slice A n c], .agg #[.int .i64 0, .int .i64 0, .int .i64 0, .int .i64 0, .float .f64 0, .int .i64 0, .string ⟨#[]⟩, .slice none 0 0]] W fun e w' => e = .returned (.bool (sameRec a.make zeroRec)) ∧ Cln W w' :=
  fun W h => same_any a.make zeroRec A none n c 0 0 W (hit.cln h) (RdItems.none_ _) hn (by omega) hr (by decide)
 have hcl : Hid (Cln w ((w.alloc (.cells #[.int .i64 a.kind, .string (str a.key), .int .i64 a.n, .float .f64 a.x, .string (str a.s), .int .i64 a.make.kind, .int .i64 a.make.num, .int .i64 a.make.low, .int .i64 a.make.high, .float .f64 a.make.real, .int .i64 a.make.cap, .string (str a.make.text), .slice A n c, .bool a.must] 64)).alloc (.cells #[.string (str wd), .int .i64 (on : Nat), .string (str fl)] 161))) := by unfold Hid; (repeat with_reducible first | exact cR _ | assumption | refine cA ?_ _ | refine cD ?_ | refine cN ?_ _ | refine cS ?_ (by first | omega | (simp <;> omega)) _)
 have hbA := Lib.hid ((Blk.new w 64 #[.int .i64 a.kind, .string (str a.key), .int .i64 a.n, .float .f64 a.x, .string (str a.s), .int .i64 a.make.kind, .int .i64 a.make.num, .int .i64 a.make.low, .int .i64 a.make.high, .float .f64 a.make.real, .int .i64 a.make.cap, .string (str a.make.text), .slice A n c, .bool a.must]).alloc (.cells #[.string (str wd), .int .i64 (on : Nat), .string (str fl)] 161))
 have hbK := Blk.new (w.alloc (.cells #[.int .i64 a.kind, .string (str a.key), .int .i64 a.n, .float .f64 a.x, .string (str a.s), .int .i64 a.make.kind, .int .i64 a.make.num, .int .i64 a.make.low, .int .i64 a.make.high, .float .f64 a.make.real, .int .i64 a.make.cap, .string (str a.make.text), .slice A n c, .bool a.must] 64)) 161 #[.string (str wd), .int .i64 (on : Nat), .string (str fl)]
 rw [World.size_alloc] at hbK
 replace hbK := Lib.hid hbK
 have hcur : Hid (Cln ((w.alloc (.cells #[.int .i64 a.kind, .string (str a.key), .int .i64 a.n, .float .f64 a.x, .string (str a.s), .int .i64 a.make.kind, .int .i64 a.make.num, .int .i64 a.make.low, .int .i64 a.make.high, .float .f64 a.make.real, .int .i64 a.make.cap, .string (str a.make.text), .slice A n c, .bool a.must] 64)).alloc (.cells #[.string (str wd), .int .i64 (on : Nat), .string (str fl)] 161)) ((w.alloc (.cells #[.int .i64 a.kind, .string (str a.key), .int .i64 a.n, .float .f64 a.x, .string (str a.s), .int .i64 a.make.kind, .int .i64 a.make.num, .int .i64 a.make.low, .int .i64 a.make.high, .float .f64 a.make.real, .int .i64 a.make.cap, .string (str a.make.text), .slice A n c, .bool a.must] 64)).alloc (.cells #[.string (str wd), .int .i64 (on : Nat), .string (str fl)] 161))) := Below.refl _ _
 have uA := hbA.out.cell; have uK := hbK.out.cell
 have lA := hbA.out.lt; have lK := hbK.out.lt
 clear hit
 unfold actVal
 go_enter Tryz.func111, Tryz.ntmps111
 go_wp2_with (first
  |(go_at_call 100; (first | with_reducible refine (f110 _).mono ?_ | with_reducible refine (f120 _).mono ?_ | with_reducible refine (f115 _).mono ?_ | with_reducible refine (f109 _).mono ?_); rintro e w' ⟨rfl, hq⟩; have hcur := Lib.hid (cln_trans hcur.out hq); clear hq uA uK lA lK; have uA := (hbA.out.cln hcur.out).cell; have uK := (hbK.out.cln hcur.out).cell; have lA := (hbA.out.cln hcur.out).lt; have lK := (hbK.out.cln hcur.out).lt)
  |(go_at_call 122; refine (fsame_any _ _ hx (by omega) _).mono ?_; rintro e w' ⟨rfl, rfl⟩)
  |(go_at_call 123; with_reducible refine (hS _ (cln_trans hcl.out hcur.out)).mono ?_; rintro e w' ⟨rfl, hq⟩; have hcur := Lib.hid (cln_trans hcur.out hq)))
 all_goals
  go_ret
  refine hend _ _ ?_ (cln_trans hcl.out hcur.out)
  clear f110 f120 f115 f109 hS uA uK hcur hbA hbK hcl hend
  simp_all [bareA]
set_option maxHeartbeats 8000000 in
theorem recsame_any (a b : MRec) (A B : Option Addr) (n c k d : Nat) (w : World) (hr : RdItems w A n a.list) (hs : RdItems w B k b.list) (hn : n ≤ 140737488355328) (hk : k ≤ 140737488355328)
  (ha : a.real < 18446744073709551616) (hb : b.real < 18446744073709551616) :
  Calls Tryz.prog 80 #[recVal a A n c, recVal b B k d] w fun e w' => e = .returned (.bool (sameRec a b)) ∧ Cln w w' := by
 cases h0 : (a.kind != b.kind) with
 | true =>
  have hF : Hid (sameRec a b = false) := by unfold Hid; have := bne_iff_ne.mp h0; simp [sameRec, this]
  unfold recVal
  go_enter Tryz.func80, Tryz.ntmps80
  go_wp2_with fail
  go_ret
  exact ⟨ret_bool (hF.out.symm), by (repeat with_reducible first | exact cR _ | assumption | refine cA ?_ _ | refine cD ?_ | refine cN ?_ _ | refine cS ?_ (by first | omega | (simp <;> omega)) _)⟩
 | false =>
 cases h1 : (a.num != b.num) with
 | true =>
  have hF : Hid (sameRec a b = false) := by unfold Hid; have := bne_iff_ne.mp h1; simp [sameRec, this]
  unfold recVal
  go_enter Tryz.func80, Tryz.ntmps80
  go_wp2_with fail
  go_ret
  exact ⟨ret_bool (hF.out.symm), by (repeat with_reducible first | exact cR _ | assumption | refine cA ?_ _ | refine cD ?_ | refine cN ?_ _ | refine cS ?_ (by first | omega | (simp <;> omega)) _)⟩
 | false =>
 cases h2 : (a.low != b.low) with
 | true =>
  have hF : Hid (sameRec a b = false) := by unfold Hid; have := bne_iff_ne.mp h2; simp [sameRec, this]
  unfold recVal
  go_enter Tryz.func80, Tryz.ntmps80
  go_wp2_with fail
  go_ret
  exact ⟨ret_bool (hF.out.symm), by (repeat with_reducible first | exact cR _ | assumption | refine cA ?_ _ | refine cD ?_ | refine cN ?_ _ | refine cS ?_ (by first | omega | (simp <;> omega)) _)⟩
 | false =>
 cases h3 : (a.high != b.high) with
 | true =>
  have hF : Hid (sameRec a b = false) := by unfold Hid; have := bne_iff_ne.mp h3; simp [sameRec, this]
  unfold recVal
  go_enter Tryz.func80, Tryz.ntmps80
  go_wp2_with fail
  go_ret
  exact ⟨ret_bool (hF.out.symm), by (repeat with_reducible first | exact cR _ | assumption | refine cA ?_ _ | refine cD ?_ | refine cN ?_ _ | refine cS ?_ (by first | omega | (simp <;> omega)) _)⟩
 | false =>
 cases h4 : (a.cap != b.cap) with
 | true =>
  have hF : Hid (sameRec a b = false) := by unfold Hid; have := bne_iff_ne.mp h4; simp [sameRec, this]
  unfold recVal
  go_enter Tryz.func80, Tryz.ntmps80
  go_wp2_with fail
  go_ret
  exact ⟨ret_bool (hF.out.symm), by (repeat with_reducible first | exact cR _ | assumption | refine cA ?_ _ | refine cD ?_ | refine cN ?_ _ | refine cS ?_ (by first | omega | (simp <;> omega)) _)⟩
 | false =>
 cases h5 : (a.text == b.text) with
 | false =>
  have hF : Hid (sameRec a b = false) := by unfold Hid; simp [sameRec, h5]
  unfold recVal
  go_enter Tryz.func80, Tryz.ntmps80
  go_wp2_with fail
  go_ret
  exact ⟨ret_bool (hF.out.symm), by (repeat with_reducible first | exact cR _ | assumption | refine cA ?_ _ | refine cD ?_ | refine cN ?_ _ | refine cS ?_ (by first | omega | (simp <;> omega)) _)⟩
 | true =>
 have e0 : a.kind = b.kind := by simpa using h0
 have e1 : a.num = b.num := by simpa using h1
 have e2 : a.low = b.low := by simpa using h2
 have e3 : a.high = b.high := by simpa using h3
 have e4 : a.cap = b.cap := by simpa using h4
 have e5 : a.text = b.text := by simpa using h5
 have hE : Hid (sameRec a b = (fsame a.real b.real && sameItems a.list b.list)) := by unfold Hid; simp [sameRec, e0, e1, e2, e3, e4, e5]
 clear e0 e1 e2 e3 e4 e5
 cases hS : fsame a.real b.real with
 | false =>
  have hF : Hid (sameRec a b = false) := by unfold Hid; rw [hE.out, hS]; rfl
  clear hE
  unfold recVal
  go_enter Tryz.func80, Tryz.ntmps80
  go_wp2_with (go_at_call 79; refine (rsame_any _ _ ha hb _).mono ?_; rintro e w' ⟨rfl, rfl⟩)
  go_ret
  exact ⟨ret_bool hF.out.symm, by (repeat with_reducible first | exact cR _ | assumption | refine cA ?_ _ | refine cD ?_ | refine cN ?_ _ | refine cS ?_ (by first | omega | (simp <;> omega)) _)⟩
 | true =>
 cases hN : ((n : Int) != (k : Int)) with
 | true =>
  have hF : Hid (sameRec a b = false) := by unfold Hid; rw [hE.out, hS, sameItems_len a.list b.list (by rw [hr.len, hs.len]; have := bne_iff_ne.mp hN; omega)]; rfl
  clear hE
  unfold recVal
  go_enter Tryz.func80, Tryz.ntmps80
  go_wp2_with (go_at_call 79; refine (rsame_any _ _ ha hb _).mono ?_; rintro e w' ⟨rfl, rfl⟩)
  go_ret
  exact ⟨ret_bool hF.out.symm, by (repeat with_reducible first | exact cR _ | assumption | refine cA ?_ _ | refine cD ?_ | refine cN ?_ _ | refine cS ?_ (by first | omega | (simp <;> omega)) _)⟩
 | false =>
 obtain rfl : n = k := by
  have : (n : Int) = k := by simpa using hN
  omega
 have hE : Hid (sameRec a b = sameItems a.list b.list) := by unfold Hid; rw [hE.out, hS]; rfl
 have hr := hr.cln (w' := (w.alloc (.cells #[.int .i64 a.kind, .int .i64 a.num, .int .i64 a.low, .int .i64 a.high, .float .f64 a.real, .int .i64 a.cap, .string (str a.text), .slice A n c] 62)).alloc (.cells #[.int .i64 b.kind, .int .i64 b.num, .int .i64 b.low, .int .i64 b.high, .float .f64 b.real, .int .i64 b.cap, .string (str b.text), .slice B n d] 62)) (by (repeat with_reducible first | exact cR _ | assumption | refine cA ?_ _ | refine cD ?_ | refine cN ?_ _ | refine cS ?_ (by first | omega | (simp <;> omega)) _))
 have hs := hs.cln (w' := (w.alloc (.cells #[.int .i64 a.kind, .int .i64 a.num, .int .i64 a.low, .int .i64 a.high, .float .f64 a.real, .int .i64 a.cap, .string (str a.text), .slice A n c] 62)).alloc (.cells #[.int .i64 b.kind, .int .i64 b.num, .int .i64 b.low, .int .i64 b.high, .float .f64 b.real, .int .i64 b.cap, .string (str b.text), .slice B n d] 62)) (by (repeat with_reducible first | exact cR _ | assumption | refine cA ?_ _ | refine cD ?_ | refine cN ?_ _ | refine cS ?_ (by first | omega | (simp <;> omega)) _))
 unfold recVal
 go_enter Tryz.func80, Tryz.ntmps80
 go_wp2_with (go_at_call 79; refine (rsame_any _ _ ha hb _).mono ?_; rintro e w' ⟨rfl, rfl⟩)
 go_loopw [5] (fun v wr => ∃ i : Nat, i ≤ n ∧ v = .int .i64 (i : Nat) ∧ Cln w wr ∧ RdItems wr A n a.list ∧ RdItems wr B n b.list ∧ wr.cell? ⟨w.heap.size, 7, none⟩ = some (.slice A n c) ∧ wr.cell? ⟨w.heap.size + 1, 7, none⟩ = some (.slice B n d) ∧ Hid (sameItems a.list b.list = sameItems (a.list.drop i) (b.list.drop i))) (fun v _ => (n - intOf v).toNat)
 case atStart => exact ⟨0, Nat.zero_le _, rfl, by (repeat with_reducible first | exact cR _ | assumption | refine cA ?_ _ | refine cD ?_ | refine cN ?_ _ | refine cS ?_ (by first | omega | (simp <;> omega)) _), hr.cln (by (repeat with_reducible first | exact cR _ | assumption | refine cA ?_ _ | refine cD ?_ | refine cN ?_ _ | refine cS ?_ (by first | omega | (simp <;> omega)) _)), hs.cln (by (repeat with_reducible first | exact cR _ | assumption | refine cA ?_ _ | refine cD ?_ | refine cN ?_ _ | refine cS ?_ (by first | omega | (simp <;> omega)) _)), by first | rfl | assumption | (simp; done), by first | rfl | assumption | (simp; done), rfl⟩
 case round =>
  clear hr hs h0 h1 h2 h3 h4 h5
  obtain ⟨i, hi, rfl, hq, hr, hs, c7, d7, hH⟩ := hrel
  by_cases hlt : i < n
  ·obtain ⟨b1, o, rfl, hblt, hcell⟩ := hr.cells (by omega)
   obtain ⟨b2, o2, rfl, hblt2, hcell2⟩ := hs.cells (by omega)
   obtain ⟨hc0, hc1⟩ := hcell i hlt
   obtain ⟨hd0, hd1⟩ := hcell2 i hlt
   have hstep := Lib.hid (hH.out.trans (sameItems_take a.list b.list i (by rw [hr.len]; exact hlt) (by rw [hs.len]; exact hlt)))
   have hx := hr.wf i
   have hy := hs.wf i
   clear hcell hcell2 hH
   generalize itAt a.list i = x at hc0 hc1 hstep hx
   generalize itAt b.list i = y at hd0 hd1 hstep hy
   have hq := Lib.hid hq
   have hr := Lib.hid hr
   have hs := Lib.hid hs
   cases hX : (x.name == y.name) with
   | false =>
    have hF : Hid (sameItem x y = false) := by unfold Hid; simp [sameItem, hX]
    go_wp2_with fail
    go_quiet (fail)
    go_wp2_with fail
    go_ret
    exact ⟨ret_bool (by rw [hE.out, hstep.out, hF.out, Bool.false_and]), cln_trans hq.out (by (repeat with_reducible first | exact cR _ | assumption | refine cA ?_ _ | refine cD ?_ | refine cN ?_ _ | refine cS ?_ (by first | omega | (simp <;> omega)) _))⟩
   | true =>
    have hF : Hid (sameItem x y = fsame x.score y.score) := by
     unfold Hid; have e : x.name = y.name := by simpa using hX
     simp [sameItem, e]
    cases hZ : fsame x.score y.score with
    | true =>
     go_wp2_with fail
     (refine region_tail 26 (by kernel_rfl) (by kernel_rfl) ?_; simp only [List.take_succ_cons, List.take_zero, List.drop_succ_cons, List.drop_zero]; (repeat still_step); refine wpStill_nil ?_)
     go_wp2_with (go_at_call 79; refine (rsame_any _ _ hx hy _).mono ?_; rintro e w' ⟨rfl, rfl⟩)
     go_roundw
     case rel => exact ⟨i + 1, hlt, by go_num, cln_trans hq.out (by (repeat with_reducible first | exact cR _ | assumption | refine cA ?_ _ | refine cD ?_ | refine cN ?_ _ | refine cS ?_ (by first | omega | (simp <;> omega)) _)), hr.out.cln (by (repeat with_reducible first | exact cR _ | assumption | refine cA ?_ _ | refine cD ?_ | refine cN ?_ _ | refine cS ?_ (by first | omega | (simp <;> omega)) _)), hs.out.cln (by (repeat with_reducible first | exact cR _ | assumption | refine cA ?_ _ | refine cD ?_ | refine cN ?_ _ | refine cS ?_ (by first | omega | (simp <;> omega)) _)), by first | rfl | assumption | (simp; done), by first | rfl | assumption | (simp; done), by unfold Hid; rw [hstep.out, hF.out, hZ, Bool.true_and]⟩
     case measure => simp [intOf]; omega
    | false =>
     go_wp2_with fail
     (refine region_tail 26 (by kernel_rfl) (by kernel_rfl) ?_; simp only [List.take_succ_cons, List.take_zero, List.drop_succ_cons, List.drop_zero]; (repeat still_step); refine wpStill_nil ?_)
     go_wp2_with (go_at_call 79; refine (rsame_any _ _ hx hy _).mono ?_; rintro e w' ⟨rfl, rfl⟩)
     go_ret
     exact ⟨ret_bool (by rw [hE.out, hstep.out, hF.out, hZ, Bool.false_and]), cln_trans hq.out (by (repeat with_reducible first | exact cR _ | assumption | refine cA ?_ _ | refine cD ?_ | refine cN ?_ _ | refine cS ?_ (by first | omega | (simp <;> omega)) _))⟩
  ·obtain rfl : i = n := by omega
   have t2 : decide ((i : Int) < (i : Int)) = false := decide_eq_false (by omega)
   have hz := Lib.hid (show sameItems (a.list.drop i) (b.list.drop i) = true from by rw [List.drop_of_length_le (by rw [hr.len]; exact Nat.le_refl _), List.drop_of_length_le (by rw [hs.len]; exact Nat.le_refl _)]; rfl)
   go_wp2_with fail
   go_ret
   exact ⟨ret_bool (by rw [hE.out, hH.out, hz.out]), cln_trans hq (by (repeat with_reducible first | exact cR _ | assumption | refine cA ?_ _ | refine cD ?_ | refine cN ?_ _ | refine cS ?_ (by first | omega | (simp <;> omega)) _))⟩
set_option maxHeartbeats 8000000 in
theorem rasame_any (a b : MAct) (A B : Option Addr) (n c k d : Nat) (w : World) (hr : RdItems w A n a.make.list) (hs : RdItems w B k b.make.list) (hn : n ≤ 140737488355328) (hk : k ≤ 140737488355328)
  (hax : a.x < 18446744073709551616) (hbx : b.x < 18446744073709551616) (ha : a.make.real < 18446744073709551616) (hb : b.make.real < 18446744073709551616) :
  Calls Tryz.prog 66 #[actVal a A n c, actVal b B k d] w fun e w' => e = .returned (.bool (sameAct a b)) ∧ Cln w w' := by
 have hcl : Hid (Cln w ((w.alloc (.cells #[.int .i64 a.kind, .string (str a.key), .int .i64 a.n, .float .f64 a.x, .string (str a.s), .int .i64 a.make.kind, .int .i64 a.make.num, .int .i64 a.make.low, .int .i64 a.make.high, .float .f64 a.make.real, .int .i64 a.make.cap, .string (str a.make.text), .slice A n c, .bool a.must] 64)).alloc (.cells #[.int .i64 b.kind, .string (str b.key), .int .i64 b.n, .float .f64 b.x, .string (str b.s), .int .i64 b.make.kind, .int .i64 b.make.num, .int .i64 b.make.low, .int .i64 b.make.high, .float .f64 b.make.real, .int .i64 b.make.cap, .string (str b.make.text), .slice B k d, .bool b.must] 64))) := by unfold Hid; (repeat with_reducible first | exact cR _ | assumption | refine cA ?_ _ | refine cD ?_ | refine cN ?_ _ | refine cS ?_ (by first | omega | (simp <;> omega)) _)
 have hS : ∀ W, Cln w W → Calls Tryz.prog 80 #[.agg #[.int .i64 a.make.kind, .int .i64 a.make.num, .int .i64 a.make.low, .int .i64 a.make.high, .float .f64 a.make.real, .int .i64 a.make.cap, .string (str a.make.text), .slice A n c], .agg #[.int .i64 b.make.kind, .int .i64 b.make.num, .int .i64 b.make.low, .int .i64 b.make.high, .float .f64 b.make.real, .int .i64 b.make.cap, .string (str b.make.text), .slice B k d]] W fun e w' => e = .returned (.bool (sameRec a.make b.make)) ∧ Cln W w' :=
  fun W h => recsame_any a.make b.make A B n c k d W (hr.cln h) (hs.cln h) hn hk ha hb
 have hA := Lib.hid ((Blk.new w 64 #[.int .i64 a.kind, .string (str a.key), .int .i64 a.n, .float .f64 a.x, .string (str a.s), .int .i64 a.make.kind, .int .i64 a.make.num, .int .i64 a.make.low, .int .i64 a.make.high, .float .f64 a.make.real, .int .i64 a.make.cap, .string (str a.make.text), .slice A n c, .bool a.must]).alloc (.cells #[.int .i64 b.kind, .string (str b.key), .int .i64 b.n, .float .f64 b.x, .string (str b.s), .int .i64 b.make.kind, .int .i64 b.make.num, .int .i64 b.make.low, .int .i64 b.make.high, .float .f64 b.make.real, .int .i64 b.make.cap, .string (str b.make.text), .slice B k d, .bool b.must] 64))
 have hB := Blk.new (w.alloc (.cells #[.int .i64 a.kind, .string (str a.key), .int .i64 a.n, .float .f64 a.x, .string (str a.s), .int .i64 a.make.kind, .int .i64 a.make.num, .int .i64 a.make.low, .int .i64 a.make.high, .float .f64 a.make.real, .int .i64 a.make.cap, .string (str a.make.text), .slice A n c, .bool a.must] 64)) 64 #[.int .i64 b.kind, .string (str b.key), .int .i64 b.n, .float .f64 b.x, .string (str b.s), .int .i64 b.make.kind, .int .i64 b.make.num, .int .i64 b.make.low, .int .i64 b.make.high, .float .f64 b.make.real, .int .i64 b.make.cap, .string (str b.make.text), .slice B k d, .bool b.must]
 rw [World.size_alloc] at hB
 replace hB := Lib.hid hB
 have hcur : Hid (Cln ((w.alloc (.cells #[.int .i64 a.kind, .string (str a.key), .int .i64 a.n, .float .f64 a.x, .string (str a.s), .int .i64 a.make.kind, .int .i64 a.make.num, .int .i64 a.make.low, .int .i64 a.make.high, .float .f64 a.make.real, .int .i64 a.make.cap, .string (str a.make.text), .slice A n c, .bool a.must] 64)).alloc (.cells #[.int .i64 b.kind, .string (str b.key), .int .i64 b.n, .float .f64 b.x, .string (str b.s), .int .i64 b.make.kind, .int .i64 b.make.num, .int .i64 b.make.low, .int .i64 b.make.high, .float .f64 b.make.real, .int .i64 b.make.cap, .string (str b.make.text), .slice B k d, .bool b.must] 64)) ((w.alloc (.cells #[.int .i64 a.kind, .string (str a.key), .int .i64 a.n, .float .f64 a.x, .string (str a.s), .int .i64 a.make.kind, .int .i64 a.make.num, .int .i64 a.make.low, .int .i64 a.make.high, .float .f64 a.make.real, .int .i64 a.make.cap, .string (str a.make.text), .slice A n c, .bool a.must] 64)).alloc (.cells #[.int .i64 b.kind, .string (str b.key), .int .i64 b.n, .float .f64 b.x, .string (str b.s), .int .i64 b.make.kind, .int .i64 b.make.num, .int .i64 b.make.low, .int .i64 b.make.high, .float .f64 b.make.real, .int .i64 b.make.cap, .string (str b.make.text), .slice B k d, .bool b.must] 64))) := Below.refl _ _
 have uA := hA.out.cell; have uB := hB.out.cell
 have lA := hA.out.lt; have lB := hB.out.lt
 clear hr hs
 unfold actVal
 cases h0 : (a.kind == b.kind) with
 | false =>
  have hF : Hid (sameAct a b = false) := by unfold Hid; unfold sameAct; simp only [h0]; simp
  have m0 : (a.kind != b.kind) = true := by rw [bne, h0]; rfl
  go_enter Tryz.func66, Tryz.ntmps66
  go_wp2_with (first
  |(go_at_call 79; refine (rsame_any _ _ hax hbx _).mono ?_; rintro e w' ⟨rfl, rfl⟩)
  |(go_at_call 80; with_reducible refine (hS _ (cln_trans hcl.out hcur.out)).mono ?_; rintro e w' ⟨rfl, hq⟩; have hcur := Lib.hid (cln_trans hcur.out hq); clear hq uA uB lA lB; have uA := (hA.out.cln hcur.out).cell; have uB := (hB.out.cln hcur.out).cell; have lA := (hA.out.cln hcur.out).lt; have lB := (hB.out.cln hcur.out).lt))
  go_ret
  exact ⟨ret_bool hF.out.symm, cln_trans hcl.out hcur.out⟩
 | true =>
 cases h1 : (a.key == b.key) with
 | false =>
  have hF : Hid (sameAct a b = false) := by unfold Hid; unfold sameAct; simp only [h0, h1]; simp
  have m0 : (a.kind != b.kind) = false := by rw [bne, h0]; rfl
  go_enter Tryz.func66, Tryz.ntmps66
  go_wp2_with (first
  |(go_at_call 79; refine (rsame_any _ _ hax hbx _).mono ?_; rintro e w' ⟨rfl, rfl⟩)
  |(go_at_call 80; with_reducible refine (hS _ (cln_trans hcl.out hcur.out)).mono ?_; rintro e w' ⟨rfl, hq⟩; have hcur := Lib.hid (cln_trans hcur.out hq); clear hq uA uB lA lB; have uA := (hA.out.cln hcur.out).cell; have uB := (hB.out.cln hcur.out).cell; have lA := (hA.out.cln hcur.out).lt; have lB := (hB.out.cln hcur.out).lt))
  go_ret
  exact ⟨ret_bool hF.out.symm, cln_trans hcl.out hcur.out⟩
 | true =>
 cases h2 : (a.n == b.n) with
 | false =>
  have hF : Hid (sameAct a b = false) := by unfold Hid; unfold sameAct; simp only [h0, h1, h2]; simp
  have m0 : (a.kind != b.kind) = false := by rw [bne, h0]; rfl
  have m2 : (a.n != b.n) = true := by rw [bne, h2]; rfl
  go_enter Tryz.func66, Tryz.ntmps66
  go_wp2_with (first
  |(go_at_call 79; refine (rsame_any _ _ hax hbx _).mono ?_; rintro e w' ⟨rfl, rfl⟩)
  |(go_at_call 80; with_reducible refine (hS _ (cln_trans hcl.out hcur.out)).mono ?_; rintro e w' ⟨rfl, hq⟩; have hcur := Lib.hid (cln_trans hcur.out hq); clear hq uA uB lA lB; have uA := (hA.out.cln hcur.out).cell; have uB := (hB.out.cln hcur.out).cell; have lA := (hA.out.cln hcur.out).lt; have lB := (hB.out.cln hcur.out).lt))
  go_ret
  exact ⟨ret_bool hF.out.symm, cln_trans hcl.out hcur.out⟩
 | true =>
 cases h3 : (a.s == b.s) with
 | false =>
  have hF : Hid (sameAct a b = false) := by unfold Hid; unfold sameAct; simp only [h0, h1, h2, h3]; simp
  have m0 : (a.kind != b.kind) = false := by rw [bne, h0]; rfl
  have m2 : (a.n != b.n) = false := by rw [bne, h2]; rfl
  go_enter Tryz.func66, Tryz.ntmps66
  go_wp2_with (first
  |(go_at_call 79; refine (rsame_any _ _ hax hbx _).mono ?_; rintro e w' ⟨rfl, rfl⟩)
  |(go_at_call 80; with_reducible refine (hS _ (cln_trans hcl.out hcur.out)).mono ?_; rintro e w' ⟨rfl, hq⟩; have hcur := Lib.hid (cln_trans hcur.out hq); clear hq uA uB lA lB; have uA := (hA.out.cln hcur.out).cell; have uB := (hB.out.cln hcur.out).cell; have lA := (hA.out.cln hcur.out).lt; have lB := (hB.out.cln hcur.out).lt))
  go_ret
  exact ⟨ret_bool hF.out.symm, cln_trans hcl.out hcur.out⟩
 | true =>
 cases h4 : (a.must == b.must) with
 | false =>
  have hF : Hid (sameAct a b = false) := by unfold Hid; unfold sameAct; simp only [h0, h1, h2, h3, h4]; simp
  have m0 : (a.kind != b.kind) = false := by rw [bne, h0]; rfl
  have m2 : (a.n != b.n) = false := by rw [bne, h2]; rfl
  have m4 : (a.must != b.must) = true := by rw [bne, h4]; rfl
  go_enter Tryz.func66, Tryz.ntmps66
  go_wp2_with (first
  |(go_at_call 79; refine (rsame_any _ _ hax hbx _).mono ?_; rintro e w' ⟨rfl, rfl⟩)
  |(go_at_call 80; with_reducible refine (hS _ (cln_trans hcl.out hcur.out)).mono ?_; rintro e w' ⟨rfl, hq⟩; have hcur := Lib.hid (cln_trans hcur.out hq); clear hq uA uB lA lB; have uA := (hA.out.cln hcur.out).cell; have uB := (hB.out.cln hcur.out).cell; have lA := (hA.out.cln hcur.out).lt; have lB := (hB.out.cln hcur.out).lt))
  go_ret
  exact ⟨ret_bool hF.out.symm, cln_trans hcl.out hcur.out⟩
 | true =>
 cases h5 : fsame a.x b.x with
 | false =>
  have hF : Hid (sameAct a b = false) := by unfold Hid; unfold sameAct; simp only [h0, h1, h2, h3, h4, h5]; simp
  have m0 : (a.kind != b.kind) = false := by rw [bne, h0]; rfl
  have m2 : (a.n != b.n) = false := by rw [bne, h2]; rfl
  have m4 : (a.must != b.must) = false := by rw [bne, h4]; rfl
  go_enter Tryz.func66, Tryz.ntmps66
  go_wp2_with (first
  |(go_at_call 79; refine (rsame_any _ _ hax hbx _).mono ?_; rintro e w' ⟨rfl, rfl⟩)
  |(go_at_call 80; with_reducible refine (hS _ (cln_trans hcl.out hcur.out)).mono ?_; rintro e w' ⟨rfl, hq⟩; have hcur := Lib.hid (cln_trans hcur.out hq); clear hq uA uB lA lB; have uA := (hA.out.cln hcur.out).cell; have uB := (hB.out.cln hcur.out).cell; have lA := (hA.out.cln hcur.out).lt; have lB := (hB.out.cln hcur.out).lt))
  go_ret
  exact ⟨ret_bool hF.out.symm, cln_trans hcl.out hcur.out⟩
 | true =>
 cases h6 : sameRec a.make b.make with
 | false =>
  have hF : Hid (sameAct a b = false) := by unfold Hid; unfold sameAct; simp only [h0, h1, h2, h3, h4, h5, h6]; simp
  have m0 : (a.kind != b.kind) = false := by rw [bne, h0]; rfl
  have m2 : (a.n != b.n) = false := by rw [bne, h2]; rfl
  have m4 : (a.must != b.must) = false := by rw [bne, h4]; rfl
  go_enter Tryz.func66, Tryz.ntmps66
  go_wp2_with (first
  |(go_at_call 79; refine (rsame_any _ _ hax hbx _).mono ?_; rintro e w' ⟨rfl, rfl⟩)
  |(go_at_call 80; with_reducible refine (hS _ (cln_trans hcl.out hcur.out)).mono ?_; rintro e w' ⟨rfl, hq⟩; have hcur := Lib.hid (cln_trans hcur.out hq); clear hq uA uB lA lB; have uA := (hA.out.cln hcur.out).cell; have uB := (hB.out.cln hcur.out).cell; have lA := (hA.out.cln hcur.out).lt; have lB := (hB.out.cln hcur.out).lt))
  go_ret
  exact ⟨ret_bool hF.out.symm, cln_trans hcl.out hcur.out⟩
 | true =>
 have hF : Hid (sameAct a b = true) := by unfold Hid; unfold sameAct; simp only [h0, h1, h2, h3, h4, h5, h6]; simp
 have m0 : (a.kind != b.kind) = false := by rw [bne, h0]; rfl
 have m2 : (a.n != b.n) = false := by rw [bne, h2]; rfl
 have m4 : (a.must != b.must) = false := by rw [bne, h4]; rfl
 go_enter Tryz.func66, Tryz.ntmps66
 go_wp2_with (first
  |(go_at_call 79; refine (rsame_any _ _ hax hbx _).mono ?_; rintro e w' ⟨rfl, rfl⟩)
  |(go_at_call 80; with_reducible refine (hS _ (cln_trans hcl.out hcur.out)).mono ?_; rintro e w' ⟨rfl, hq⟩; have hcur := Lib.hid (cln_trans hcur.out hq); clear hq uA uB lA lB; have uA := (hA.out.cln hcur.out).cell; have uB := (hB.out.cln hcur.out).cell; have lA := (hA.out.cln hcur.out).lt; have lB := (hB.out.cln hcur.out).lt))
 go_ret
 exact ⟨ret_bool hF.out.symm, cln_trans hcl.out hcur.out⟩
end Go.Proofs.YtbemnfbndjolpaaGreatDoor
