import Derived.Test.YtoeoodiifpoomaaGreatDoorCopies
import Derived.Test.YtoeoodiifpoomaaGreatDoorActA
import Derived.Deep.RegionWith
/- The walks of Same of answers. (Printed by wip/tools/gen_ans.py.) -/
set_option linter.unusedSimpArgs false
set_option linter.unusedVariables false
set_option maxRecDepth 20000
namespace Go.Proofs.YtoeoodiifpoomaaGreatDoor
open Go.RowKit Moi
attribute [local go_sem] toList_str str_size less_ltB store_float
set_option maxHeartbeats 4000000 in
theorem sameans_any (x y : MAns) (A B : Option Addr) (n c k d : Nat) (w : World) (hr : RdItems w A n x.r.list) (hs : RdItems w B k y.r.list) (hn : n ≤ 140737488355328) (hk : k ≤ 140737488355328) (hx : x.r.real < 18446744073709551616) (hy : y.r.real < 18446744073709551616) :
  Calls Tryz.prog 88 #[.agg #[.int .i64 x.code, .int .i64 x.num, .int .i64 x.r.kind, .int .i64 x.r.num, .int .i64 x.r.low, .int .i64 x.r.high, .float .f64 x.r.real, .int .i64 x.r.cap, .string (str x.r.text), .slice A n c], .agg #[.int .i64 y.code, .int .i64 y.num, .int .i64 y.r.kind, .int .i64 y.r.num, .int .i64 y.r.low, .int .i64 y.r.high, .float .f64 y.r.real, .int .i64 y.r.cap, .string (str y.r.text), .slice B k d]] w fun e w' => e = .returned (.bool (sameAns x y)) ∧ Cln w w' := by
 have hcl : Hid (Cln w ((w.alloc (.cells #[.int .i64 x.code, .int .i64 x.num, .int .i64 x.r.kind, .int .i64 x.r.num, .int .i64 x.r.low, .int .i64 x.r.high, .float .f64 x.r.real, .int .i64 x.r.cap, .string (str x.r.text), .slice A n c] 85)).alloc (.cells #[.int .i64 y.code, .int .i64 y.num, .int .i64 y.r.kind, .int .i64 y.r.num, .int .i64 y.r.low, .int .i64 y.r.high, .float .f64 y.r.real, .int .i64 y.r.cap, .string (str y.r.text), .slice B k d] 85))) := by unfold Hid; (repeat with_reducible first | exact cR _ | assumption | refine cA ?_ _ | refine cD ?_ | refine cN ?_ _ | refine cS ?_ (by first | omega | (simp <;> omega)) _)
 cases h0 : (x.code == y.code) with
 | false =>
  rw [show sameAns x y = false from by unfold sameAns; rw [h0]; rfl]
  go_enter Tryz.func88, Tryz.ntmps88
  go_wp2_with fail
  go_ret
  exact ⟨rfl, hcl.out⟩
 | true =>
  cases h1 : (x.num == y.num) with
  | false =>
   rw [show sameAns x y = false from by unfold sameAns; rw [h0, h1]; rfl]
   go_enter Tryz.func88, Tryz.ntmps88
   go_wp2_with fail
   go_ret
   exact ⟨rfl, hcl.out⟩
  | true =>
   rw [show sameAns x y = sameRec x.r y.r from by unfold sameAns; rw [h0, h1]; rfl]
   have cS := same_any x.r y.r A B n c k d ((w.alloc (.cells #[.int .i64 x.code, .int .i64 x.num, .int .i64 x.r.kind, .int .i64 x.r.num, .int .i64 x.r.low, .int .i64 x.r.high, .float .f64 x.r.real, .int .i64 x.r.cap, .string (str x.r.text), .slice A n c] 85)).alloc (.cells #[.int .i64 y.code, .int .i64 y.num, .int .i64 y.r.kind, .int .i64 y.r.num, .int .i64 y.r.low, .int .i64 y.r.high, .float .f64 y.r.real, .int .i64 y.r.cap, .string (str y.r.text), .slice B k d] 85)) (hr.cln hcl.out) (hs.cln hcl.out) hn hk hx hy
   unfold recVal at cS
   go_enter Tryz.func88, Tryz.ntmps88
   go_wp2_with fail
   refine cS.mono ?_
   rintro e w1 ⟨rfl, hq⟩
   go_wp2_with fail
   go_ret
   exact ⟨rfl, cln_trans hcl.out hq⟩
set_option maxHeartbeats 4000000 in
theorem rsameans_any (x y : MAns) (A B : Option Addr) (n c k d : Nat) (w : World) (hr : RdItems w A n x.r.list) (hs : RdItems w B k y.r.list) (hn : n ≤ 140737488355328) (hk : k ≤ 140737488355328) (hx : x.r.real < 18446744073709551616) (hy : y.r.real < 18446744073709551616) :
  Calls Tryz.prog 89 #[.agg #[.int .i64 x.code, .int .i64 x.num, .int .i64 x.r.kind, .int .i64 x.r.num, .int .i64 x.r.low, .int .i64 x.r.high, .float .f64 x.r.real, .int .i64 x.r.cap, .string (str x.r.text), .slice A n c], .agg #[.int .i64 y.code, .int .i64 y.num, .int .i64 y.r.kind, .int .i64 y.r.num, .int .i64 y.r.low, .int .i64 y.r.high, .float .f64 y.r.real, .int .i64 y.r.cap, .string (str y.r.text), .slice B k d]] w fun e w' => e = .returned (.bool (sameAns x y)) ∧ Cln w w' := by
 have hcl : Hid (Cln w ((w.alloc (.cells #[.int .i64 x.code, .int .i64 x.num, .int .i64 x.r.kind, .int .i64 x.r.num, .int .i64 x.r.low, .int .i64 x.r.high, .float .f64 x.r.real, .int .i64 x.r.cap, .string (str x.r.text), .slice A n c] 85)).alloc (.cells #[.int .i64 y.code, .int .i64 y.num, .int .i64 y.r.kind, .int .i64 y.r.num, .int .i64 y.r.low, .int .i64 y.r.high, .float .f64 y.r.real, .int .i64 y.r.cap, .string (str y.r.text), .slice B k d] 85))) := by unfold Hid; (repeat with_reducible first | exact cR _ | assumption | refine cA ?_ _ | refine cD ?_ | refine cN ?_ _ | refine cS ?_ (by first | omega | (simp <;> omega)) _)
 cases h0 : (x.code == y.code) with
 | false =>
  rw [show sameAns x y = false from by unfold sameAns; rw [h0]; rfl]
  go_enter Tryz.func89, Tryz.ntmps89
  go_wp2_with fail
  go_ret
  exact ⟨rfl, hcl.out⟩
 | true =>
  cases h1 : (x.num == y.num) with
  | false =>
   rw [show sameAns x y = false from by unfold sameAns; rw [h0, h1]; rfl]
   go_enter Tryz.func89, Tryz.ntmps89
   go_wp2_with fail
   go_ret
   exact ⟨rfl, hcl.out⟩
  | true =>
   rw [show sameAns x y = sameRec x.r y.r from by unfold sameAns; rw [h0, h1]; rfl]
   have cS := recsame_any x.r y.r A B n c k d ((w.alloc (.cells #[.int .i64 x.code, .int .i64 x.num, .int .i64 x.r.kind, .int .i64 x.r.num, .int .i64 x.r.low, .int .i64 x.r.high, .float .f64 x.r.real, .int .i64 x.r.cap, .string (str x.r.text), .slice A n c] 85)).alloc (.cells #[.int .i64 y.code, .int .i64 y.num, .int .i64 y.r.kind, .int .i64 y.r.num, .int .i64 y.r.low, .int .i64 y.r.high, .float .f64 y.r.real, .int .i64 y.r.cap, .string (str y.r.text), .slice B k d] 85)) (hr.cln hcl.out) (hs.cln hcl.out) hn hk hx hy
   unfold recVal at cS
   go_enter Tryz.func89, Tryz.ntmps89
   go_wp2_with fail
   refine cS.mono ?_
   rintro e w1 ⟨rfl, hq⟩
   go_wp2_with fail
   go_ret
   exact ⟨rfl, cln_trans hcl.out hq⟩
theorem ansAt_mem (l : List MAns) (i : Nat) (h : i < l.length) : ansAt l i ∈ l := by simp [ansAt, List.getD, h]
set_option maxHeartbeats 4000000 in
theorem eqfans_any (l m : List MAns) (A B : Option Addr) (n c k d : Nat) (hszx : ∀ a ∈ l, a.r.list.length ≤ 140737488355328) (hszy : ∀ a ∈ m, a.r.list.length ≤ 140737488355328) (hn : n ≤ 140737488355328) (w : World) (hr : RdAns w A n l) (hs : RdAns w B k m) :
  Calls Tryz.prog 87 #[.slice A n c, .slice B k d, .func (.func 88) #[] #[]] w fun e w' => e = .returned (.bool (sameAnss l m)) ∧ Cln w w' := by
 by_cases hne : n = k
 ·subst hne
  have t1 : ((n : Int) != (n : Int)) = false := by simp
  go_enter Tryz.func87, Tryz.ntmps87
  go_wp2_with fail
  go_loopw [17] (fun v wr => ∃ i : Nat, i ≤ n ∧ v = .int .i64 (i : Nat) ∧ Hid (Cln w wr) ∧ Hid (sameAnss l m = sameAnss (l.drop i) (m.drop i))) (fun v _ => (n - intOf v).toNat)
  case atStart => exact ⟨0, Nat.zero_le _, rfl, Below.refl _ _, rfl⟩
  case round =>
   obtain ⟨i, hi, rfl, hcl, hH⟩ := hrel
   by_cases hlt : i < n
   ·have t3 : decide ((i : Int) < (n : Int)) = true := decide_eq_true (by omega)
    have hstep := Lib.hid (hH.out.trans (sameAnss_step l m i (by rw [hr.len]; exact hlt) (by rw [hs.len]; exact hlt)))
    clear hH
    obtain ⟨bx, ox, rfl, hbltx, hcellx⟩ := hr.rows (by omega)
    obtain ⟨Ax, nx, cx, hc0x⟩ := hcellx i (by omega)
    clear hcellx
    have hcx := hc0x.cln hcl.out
    have hwfx := hc0x.wf
    have hblt2x : bx < wr.heap.size := by have := hcl.out.size; omega
    have hnix : nx ≤ 140737488355328 := by have h1 := hszx _ (ansAt_mem l i (by rw [hr.len]; omega)); have h2 := hc0x.it.len; omega
    clear hc0x
    generalize ansAt l i = x at hcx hwfx hstep hnix
    have hitx := Lib.hid hcx.it
    have f0 := hcx.c0; have f1 := hcx.c1; have f2 := hcx.c2; have f3 := hcx.c3; have f4 := hcx.c4; have f5 := hcx.c5; have f6 := hcx.c6; have f7 := hcx.c7; have f8 := hcx.c8; have f9 := hcx.c9
    clear hcx
    obtain ⟨b2, oy, rfl, hblty, hcelly⟩ := hs.rows (by omega)
    obtain ⟨Ay, ny, cy, hc0y⟩ := hcelly i (by omega)
    clear hcelly
    have hcy := hc0y.cln hcl.out
    have hwfy := hc0y.wf
    have hblt2y : b2 < wr.heap.size := by have := hcl.out.size; omega
    have hniy : ny ≤ 140737488355328 := by have h1 := hszy _ (ansAt_mem m i (by rw [hs.len]; omega)); have h2 := hc0y.it.len; omega
    clear hc0y
    generalize ansAt m i = y at hcy hwfy hstep hniy
    have hity := Lib.hid hcy.it
    have g0 := hcy.c0; have g1 := hcy.c1; have g2 := hcy.c2; have g3 := hcy.c3; have g4 := hcy.c4; have g5 := hcy.c5; have g6 := hcy.c6; have g7 := hcy.c7; have g8 := hcy.c8; have g9 := hcy.c9
    clear hcy
    have hn2 : ¬ b2 = wr.heap.size := by omega
    cases hE : sameAns x y with
    | true =>
     have hE' := Lib.hid hE
     go_wp2_with fail
     refine (sameans_any x y Ax Ay nx cx ny cy _ (hitx.out.cln (by (repeat with_reducible first | exact cR _ | assumption | refine cA ?_ _ | refine cD ?_ | refine cN ?_ _ | refine cS ?_ (by first | omega | (simp <;> omega)) _))) (hity.out.cln (by (repeat with_reducible first | exact cR _ | assumption | refine cA ?_ _ | refine cD ?_ | refine cN ?_ _ | refine cS ?_ (by first | omega | (simp <;> omega)) _))) hnix hniy hwfx.real hwfy.real).mono ?_; rintro e w1 ⟨rfl, hq2⟩; rw [hE]
     clear f0 f1 f2 f3 f4 f5 f6 f7 f8 f9 g0 g1 g2 g3 g4 g5 g6 g7 g8 g9
     clear hE
     go_wp2_with fail
     go_roundw
     case rel => exact ⟨i + 1, hlt, by go_num, Lib.hid (cln_trans hcl.out (cln_trans (by (repeat with_reducible first | exact cR _ | assumption | refine cA ?_ _ | refine cD ?_ | refine cN ?_ _ | refine cS ?_ (by first | omega | (simp <;> omega)) _)) hq2)), by unfold Hid; rw [hstep.out, hE'.out, Bool.true_and]⟩
     case measure => simp [intOf]; omega
    | false =>
     have hE' := Lib.hid hE
     go_wp2_with fail
     refine (sameans_any x y Ax Ay nx cx ny cy _ (hitx.out.cln (by (repeat with_reducible first | exact cR _ | assumption | refine cA ?_ _ | refine cD ?_ | refine cN ?_ _ | refine cS ?_ (by first | omega | (simp <;> omega)) _))) (hity.out.cln (by (repeat with_reducible first | exact cR _ | assumption | refine cA ?_ _ | refine cD ?_ | refine cN ?_ _ | refine cS ?_ (by first | omega | (simp <;> omega)) _))) hnix hniy hwfx.real hwfy.real).mono ?_; rintro e w1 ⟨rfl, hq2⟩; rw [hE]
     clear f0 f1 f2 f3 f4 f5 f6 f7 f8 f9 g0 g1 g2 g3 g4 g5 g6 g7 g8 g9
     clear hE
     go_wp2_with fail
     go_ret
     exact ⟨ret_bool (by rw [hstep.out, hE'.out, Bool.false_and]), cln_trans hcl.out (cln_trans (by (repeat with_reducible first | exact cR _ | assumption | refine cA ?_ _ | refine cD ?_ | refine cN ?_ _ | refine cS ?_ (by first | omega | (simp <;> omega)) _)) hq2)⟩
   ·obtain rfl : i = n := by omega
    have t2 : decide ((i : Int) < (i : Int)) = false := decide_eq_false (by omega)
    go_wp2_with fail
    go_ret
    exact ⟨ret_bool (by rw [hH.out, List.drop_of_length_le (by rw [hr.len]; exact Nat.le_refl _), List.drop_of_length_le (by rw [hs.len]; exact Nat.le_refl _)]; rfl), hcl.out⟩
 ·have t1 : ((n : Int) != (k : Int)) = true := by rw [bne_iff_ne]; omega
  have hf := Lib.hid (sameAnss_len l m (by rw [hr.len, hs.len]; exact hne))
  go_enter Tryz.func87, Tryz.ntmps87
  go_wp2_with fail
  go_ret
  exact ⟨ret_bool hf.out.symm, Below.refl _ _⟩
structure MRes where
 code : Int
 at_ : Int
 list : List MAns
def alike (x y : MRes) : Bool := x.code == y.code && x.at_ == y.at_ && sameAnss x.list y.list
set_option maxHeartbeats 4000000 in
theorem alike_any (x y : MRes) (A B : Option Addr) (n c k d : Nat) (hszx : ∀ a ∈ x.list, a.r.list.length ≤ 140737488355328) (hszy : ∀ a ∈ y.list, a.r.list.length ≤ 140737488355328) (hn : n ≤ 140737488355328) (w : World) (hr : RdAns w A n x.list) (hs : RdAns w B k y.list) :
  Calls Tryz.prog 48 #[.agg #[.int .i64 x.code, .int .i64 x.at_, .slice A n c], .agg #[.int .i64 y.code, .int .i64 y.at_, .slice B k d]] w fun e w' => e = .returned (.bool (alike x y)) ∧ Cln w w' := by
 have hcl : Hid (Cln w ((w.alloc (.cells #[.int .i64 x.code, .int .i64 x.at_, .slice A n c] 76)).alloc (.cells #[.int .i64 y.code, .int .i64 y.at_, .slice B k d] 76))) := by unfold Hid; (repeat with_reducible first | exact cR _ | assumption | refine cA ?_ _ | refine cD ?_ | refine cN ?_ _ | refine cS ?_ (by first | omega | (simp <;> omega)) _)
 cases h0 : (x.code == y.code) with
 | false =>
  rw [show alike x y = false from by unfold alike; rw [h0]; rfl]
  go_enter Tryz.func48, Tryz.ntmps48
  go_wp2_with fail
  go_ret
  exact ⟨rfl, hcl.out⟩
 | true =>
  cases h1 : (x.at_ == y.at_) with
  | false =>
   rw [show alike x y = false from by unfold alike; rw [h0, h1]; rfl]
   go_enter Tryz.func48, Tryz.ntmps48
   go_wp2_with fail
   go_ret
   exact ⟨rfl, hcl.out⟩
  | true =>
   rw [show alike x y = sameAnss x.list y.list from by unfold alike; rw [h0, h1]; rfl]
   have cS := eqfans_any x.list y.list A B n c k d hszx hszy hn ((w.alloc (.cells #[.int .i64 x.code, .int .i64 x.at_, .slice A n c] 76)).alloc (.cells #[.int .i64 y.code, .int .i64 y.at_, .slice B k d] 76)) (hr.cln hcl.out) (hs.cln hcl.out)
   go_enter Tryz.func48, Tryz.ntmps48
   go_wp2_with fail
   refine cS.mono ?_
   rintro e w1 ⟨rfl, hq⟩
   go_wp2_with fail
   go_ret
   exact ⟨rfl, cln_trans hcl.out hq⟩
set_option maxHeartbeats 4000000 in
theorem ralike_any (x y : MRes) (A B : Option Addr) (n c k d : Nat) (hszx : ∀ a ∈ x.list, a.r.list.length ≤ 140737488355328) (hszy : ∀ a ∈ y.list, a.r.list.length ≤ 140737488355328) (hn : n ≤ 140737488355328) (w : World) (hr : RdAns w A n x.list) (hs : RdAns w B k y.list) :
  Calls Tryz.prog 49 #[.agg #[.int .i64 x.code, .int .i64 x.at_, .slice A n c], .agg #[.int .i64 y.code, .int .i64 y.at_, .slice B k d]] w fun e w' => e = .returned (.bool (alike x y)) ∧ Cln w w' := by
 cases h0 : (x.code == y.code) with
 | false =>
  rw [show alike x y = false from by unfold alike; rw [h0]; rfl]
  have e0 : (x.code != y.code) = true := by rw [bne, h0]; rfl
  clear h0
  go_enter Tryz.func49, Tryz.ntmps49
  go_wp2_with fail
  go_ret
  exact ⟨rfl, by (repeat with_reducible first | exact cR _ | assumption | refine cA ?_ _ | refine cD ?_ | refine cN ?_ _ | refine cS ?_ (by first | omega | (simp <;> omega)) _)⟩
 | true =>
 cases h1 : (x.at_ == y.at_) with
 | false =>
  rw [show alike x y = false from by unfold alike; rw [h0, h1]; rfl]
  have e0 : (x.code != y.code) = false := by rw [bne, h0]; rfl
  have e1 : (x.at_ != y.at_) = true := by rw [bne, h1]; rfl
  clear h0 h1
  go_enter Tryz.func49, Tryz.ntmps49
  go_wp2_with fail
  go_ret
  exact ⟨rfl, by (repeat with_reducible first | exact cR _ | assumption | refine cA ?_ _ | refine cD ?_ | refine cN ?_ _ | refine cS ?_ (by first | omega | (simp <;> omega)) _)⟩
 | true =>
 rw [show alike x y = sameAnss x.list y.list from by unfold alike; rw [h0, h1]; rfl]
 have e0 : (x.code != y.code) = false := by rw [bne, h0]; rfl
 have e1 : (x.at_ != y.at_) = false := by rw [bne, h1]; rfl
 clear h0 h1
 by_cases hne : n = k
 ·subst hne
  have t1 : ((n : Int) != (n : Int)) = false := by simp
  have hb0 := Blk.new w 76 #[.int .i64 x.code, .int .i64 x.at_, .slice A n c]
  have hb1 := Blk.new (w.alloc (.cells #[.int .i64 x.code, .int .i64 x.at_, .slice A n c] 76)) 76 #[.int .i64 y.code, .int .i64 y.at_, .slice B n d]
  rw [World.size_alloc] at hb1
  have hB : ∀ W, Cln ((w.alloc (.cells #[.int .i64 x.code, .int .i64 x.at_, .slice A n c] 76)).alloc (.cells #[.int .i64 y.code, .int .i64 y.at_, .slice B n d] 76)) W → W.cell? ⟨w.heap.size, 2, none⟩ = some (.slice A n c) ∧ W.cell? ⟨w.heap.size + 1, 2, none⟩ = some (.slice B n d) ∧ w.heap.size + 1 < W.heap.size ∧ Cln w W := fun W h =>
   ⟨by have := (hb0.alloc (.cells #[.int .i64 y.code, .int .i64 y.at_, .slice B n d] 76)).cln h; exact this.cell 2, by have := hb1.cln h; exact this.cell 2, by have := h.size; simp at this; omega, cln_trans (by (repeat with_reducible first | exact cR _ | assumption | refine cA ?_ _ | refine cD ?_ | refine cN ?_ _ | refine cS ?_ (by first | omega | (simp <;> omega)) _)) h⟩
  have hB := Lib.hid hB
  clear hb0 hb1
  go_enter Tryz.func49, Tryz.ntmps49
  go_wp2_with fail
  go_loopw [5] (fun v wr => ∃ i : Nat, i ≤ n ∧ v = .int .i64 (i : Nat) ∧ Hid (Cln ((w.alloc (.cells #[.int .i64 x.code, .int .i64 x.at_, .slice A n c] 76)).alloc (.cells #[.int .i64 y.code, .int .i64 y.at_, .slice B n d] 76)) wr) ∧ Hid (sameAnss x.list y.list = sameAnss (x.list.drop i) (y.list.drop i))) (fun v _ => (n - intOf v).toNat)
  case atStart => exact ⟨0, Nat.zero_le _, rfl, Below.refl _ _, rfl⟩
  case round =>
   obtain ⟨i, hi, rfl, hcl0, hH⟩ := hrel
   obtain ⟨d0, d1, dl, hcl1⟩ := hB.out wr hcl0.out
   have hcl := Lib.hid hcl1
   clear hcl1
   by_cases hlt : i < n
   ·have t3 : decide ((i : Int) < (n : Int)) = true := decide_eq_true (by omega)
    have hstep := Lib.hid (hH.out.trans (sameAnss_step x.list y.list i (by rw [hr.len]; exact hlt) (by rw [hs.len]; exact hlt)))
    clear hH
    obtain ⟨bx, ox, rfl, hbltx, hcellx⟩ := hr.rows (by omega)
    obtain ⟨Ax, nx, cx, hc0x⟩ := hcellx i (by omega)
    clear hcellx
    have hcx := hc0x.cln hcl.out
    have hwfx := hc0x.wf
    have hblt2x : bx < wr.heap.size := by have := hcl.out.size; omega
    have hnix : nx ≤ 140737488355328 := by have h1 := hszx _ (ansAt_mem x.list i (by rw [hr.len]; omega)); have h2 := hc0x.it.len; omega
    clear hc0x
    generalize ansAt x.list i = p at hcx hwfx hstep hnix
    have hitx := Lib.hid hcx.it
    have f0 := hcx.c0; have f1 := hcx.c1; have f2 := hcx.c2; have f3 := hcx.c3; have f4 := hcx.c4; have f5 := hcx.c5; have f6 := hcx.c6; have f7 := hcx.c7; have f8 := hcx.c8; have f9 := hcx.c9
    clear hcx
    obtain ⟨b2, oy, rfl, hblty, hcelly⟩ := hs.rows (by omega)
    obtain ⟨Ay, ny, cy, hc0y⟩ := hcelly i (by omega)
    clear hcelly
    have hcy := hc0y.cln hcl.out
    have hwfy := hc0y.wf
    have hblt2y : b2 < wr.heap.size := by have := hcl.out.size; omega
    have hniy : ny ≤ 140737488355328 := by have h1 := hszy _ (ansAt_mem y.list i (by rw [hs.len]; omega)); have h2 := hc0y.it.len; omega
    clear hc0y
    generalize ansAt y.list i = q at hcy hwfy hstep hniy
    have hity := Lib.hid hcy.it
    have g0 := hcy.c0; have g1 := hcy.c1; have g2 := hcy.c2; have g3 := hcy.c3; have g4 := hcy.c4; have g5 := hcy.c5; have g6 := hcy.c6; have g7 := hcy.c7; have g8 := hcy.c8; have g9 := hcy.c9
    clear hcy
    have hcall : ∀ W, Cln wr W → Calls Tryz.prog 89 #[.agg #[.int .i64 p.code, .int .i64 p.num, .int .i64 p.r.kind, .int .i64 p.r.num, .int .i64 p.r.low, .int .i64 p.r.high, .float .f64 p.r.real, .int .i64 p.r.cap, .string (str p.r.text), .slice Ax nx cx], .agg #[.int .i64 q.code, .int .i64 q.num, .int .i64 q.r.kind, .int .i64 q.r.num, .int .i64 q.r.low, .int .i64 q.r.high, .float .f64 q.r.real, .int .i64 q.r.cap, .string (str q.r.text), .slice Ay ny cy]] W fun e w' => e = .returned (.bool (sameAns p q)) ∧ Cln W w' := fun W h => rsameans_any p q Ax Ay nx cx ny cy W (hitx.out.cln h) (hity.out.cln h) hnix hniy hwfx.real hwfy.real
    clear hitx hity hwfx hwfy
    go_wp2_with fail
    cases hE : sameAns p q with
    | true =>
     rw [hE] at hcall hstep
     clear hE
     go_region_with (go_at_call 89; with_reducible refine (hcall _ (Below.drew (Below.refl _ _))).mono ?_; rintro e w1 ⟨rfl, hq2⟩)
     all_goals
      clear f0 f1 f2 f3 f4 f5 f6 f7 f8 f9 g0 g1 g2 g3 g4 g5 g6 g7 g8 g9
      go_wp2_with fail
      go_roundw
      case rel => exact ⟨i + 1, hlt, by go_num, Lib.hid (cln_trans hcl0.out (cln_trans (Below.drew (Below.refl _ _)) hq2)), by unfold Hid; rw [hstep.out, Bool.true_and]⟩
      case measure => simp [intOf]; omega
    | false =>
     rw [hE] at hcall hstep
     clear hE
     go_region_with (go_at_call 89; with_reducible refine (hcall _ (Below.drew (Below.refl _ _))).mono ?_; rintro e w1 ⟨rfl, hq2⟩)
     all_goals
      clear f0 f1 f2 f3 f4 f5 f6 f7 f8 f9 g0 g1 g2 g3 g4 g5 g6 g7 g8 g9
      go_wp2_with fail
      go_ret
      exact ⟨ret_bool (by rw [hstep.out, Bool.false_and]), cln_trans hcl.out (cln_trans (Below.drew (Below.refl _ _)) hq2)⟩
   ·obtain rfl : i = n := by omega
    have t2 : decide ((i : Int) < (i : Int)) = false := decide_eq_false (by omega)
    go_wp2_with fail
    go_ret
    exact ⟨ret_bool (by rw [hH.out, List.drop_of_length_le (by rw [hr.len]; exact Nat.le_refl _), List.drop_of_length_le (by rw [hs.len]; exact Nat.le_refl _)]; rfl), hcl.out⟩
 ·have t1 : ((n : Int) != (k : Int)) = true := by rw [bne_iff_ne]; omega
  have hf := Lib.hid (sameAnss_len x.list y.list (by rw [hr.len, hs.len]; exact hne))
  go_enter Tryz.func49, Tryz.ntmps49
  go_wp2_with fail
  go_ret
  exact ⟨ret_bool hf.out.symm, by (repeat with_reducible first | exact cR _ | assumption | refine cA ?_ _ | refine cD ?_ | refine cN ?_ _ | refine cS ?_ (by first | omega | (simp <;> omega)) _)⟩
end Go.Proofs.YtoeoodiifpoomaaGreatDoor
