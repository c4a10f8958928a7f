/- The document's Check of acts, however long a list is. (Printed by wip/tools/gen_gen.py.) -/
import Derived.StillTailTactics
import Derived.Test.YtoeoodiifpoomaaGreatDoorActA
import Derived.Test.YtoeoodiifpoomaaGreatDoorWAct4
import Derived.Test.YtoeoodiifpoomaaGreatDoorWName
import Derived.Test.YtoeoodiifpoomaaGreatDoorChecks2
import Derived.Test.YtoeoodiifpoomaaGreatDoorRecs
import Derived.Test.YtoeoodiifpoomaaGreatDoorWAct7
set_option linter.unusedSimpArgs false
set_option linter.unusedVariables false
set_option maxRecDepth 20000
namespace Go.Proofs.YtoeoodiifpoomaaGreatDoor
open Go.RowKit Moi
attribute [local go_sem] toList_str str_size less_ltB store_float
set_option maxHeartbeats 8000000 in
theorem recsame_gen (a b : MRec) (A B : Option Addr) (n c k d : Nat) (w : World) (hr : RdItems w A n a.list) (hs : RdItems w B k b.list) (hnk : n = k → n ≤ 140737488355328)
  (ha : a.real < 18446744073709551616) (hb : b.real < 18446744073709551616) :
  Calls Tryz.prog 99 #[recVal a A n c, recVal b B k d] w fun e w' => e = .returned (.bool (sameRec a b)) ∧ Cln w w' := by
 cases h0 : (a.kind != b.kind) with
 | true =>
  have hF : Hid (sameRec a b = false) := by unfold Hid; have := bne_iff_ne.mp h0; simp [sameRec, this]
  unfold recVal
  go_enter Tryz.func99, Tryz.ntmps99
  go_wp2_with fail
  go_ret
  exact ⟨ret_bool (hF.out.symm), by (repeat with_reducible first | exact cR _ | assumption | refine cA ?_ _ | refine cD ?_ | refine cN ?_ _ | refine cS ?_ (by first | omega | (simp <;> omega)) _)⟩
 | false =>
 cases h1 : (a.num != b.num) with
 | true =>
  have hF : Hid (sameRec a b = false) := by unfold Hid; have := bne_iff_ne.mp h1; simp [sameRec, this]
  unfold recVal
  go_enter Tryz.func99, Tryz.ntmps99
  go_wp2_with fail
  go_ret
  exact ⟨ret_bool (hF.out.symm), by (repeat with_reducible first | exact cR _ | assumption | refine cA ?_ _ | refine cD ?_ | refine cN ?_ _ | refine cS ?_ (by first | omega | (simp <;> omega)) _)⟩
 | false =>
 cases h2 : (a.low != b.low) with
 | true =>
  have hF : Hid (sameRec a b = false) := by unfold Hid; have := bne_iff_ne.mp h2; simp [sameRec, this]
  unfold recVal
  go_enter Tryz.func99, Tryz.ntmps99
  go_wp2_with fail
  go_ret
  exact ⟨ret_bool (hF.out.symm), by (repeat with_reducible first | exact cR _ | assumption | refine cA ?_ _ | refine cD ?_ | refine cN ?_ _ | refine cS ?_ (by first | omega | (simp <;> omega)) _)⟩
 | false =>
 cases h3 : (a.high != b.high) with
 | true =>
  have hF : Hid (sameRec a b = false) := by unfold Hid; have := bne_iff_ne.mp h3; simp [sameRec, this]
  unfold recVal
  go_enter Tryz.func99, Tryz.ntmps99
  go_wp2_with fail
  go_ret
  exact ⟨ret_bool (hF.out.symm), by (repeat with_reducible first | exact cR _ | assumption | refine cA ?_ _ | refine cD ?_ | refine cN ?_ _ | refine cS ?_ (by first | omega | (simp <;> omega)) _)⟩
 | false =>
 cases h4 : (a.cap != b.cap) with
 | true =>
  have hF : Hid (sameRec a b = false) := by unfold Hid; have := bne_iff_ne.mp h4; simp [sameRec, this]
  unfold recVal
  go_enter Tryz.func99, Tryz.ntmps99
  go_wp2_with fail
  go_ret
  exact ⟨ret_bool (hF.out.symm), by (repeat with_reducible first | exact cR _ | assumption | refine cA ?_ _ | refine cD ?_ | refine cN ?_ _ | refine cS ?_ (by first | omega | (simp <;> omega)) _)⟩
 | false =>
 cases h5 : (a.text == b.text) with
 | false =>
  have hF : Hid (sameRec a b = false) := by unfold Hid; simp [sameRec, h5]
  unfold recVal
  go_enter Tryz.func99, Tryz.ntmps99
  go_wp2_with fail
  go_ret
  exact ⟨ret_bool (hF.out.symm), by (repeat with_reducible first | exact cR _ | assumption | refine cA ?_ _ | refine cD ?_ | refine cN ?_ _ | refine cS ?_ (by first | omega | (simp <;> omega)) _)⟩
 | true =>
 have e0 : a.kind = b.kind := by simpa using h0
 have e1 : a.num = b.num := by simpa using h1
 have e2 : a.low = b.low := by simpa using h2
 have e3 : a.high = b.high := by simpa using h3
 have e4 : a.cap = b.cap := by simpa using h4
 have e5 : a.text = b.text := by simpa using h5
 have hE : Hid (sameRec a b = (fsame a.real b.real && sameItems a.list b.list)) := by unfold Hid; simp [sameRec, e0, e1, e2, e3, e4, e5]
 clear e0 e1 e2 e3 e4 e5
 cases hS : fsame a.real b.real with
 | false =>
  have hF : Hid (sameRec a b = false) := by unfold Hid; rw [hE.out, hS]; rfl
  clear hE
  unfold recVal
  go_enter Tryz.func99, Tryz.ntmps99
  go_wp2_with (go_at_call 98; refine (rsame_any _ _ ha hb _).mono ?_; rintro e w' ⟨rfl, rfl⟩)
  go_ret
  exact ⟨ret_bool hF.out.symm, by (repeat with_reducible first | exact cR _ | assumption | refine cA ?_ _ | refine cD ?_ | refine cN ?_ _ | refine cS ?_ (by first | omega | (simp <;> omega)) _)⟩
 | true =>
 cases hN : ((n : Int) != (k : Int)) with
 | true =>
  have hF : Hid (sameRec a b = false) := by unfold Hid; rw [hE.out, hS, sameItems_len a.list b.list (by rw [hr.len, hs.len]; have := bne_iff_ne.mp hN; omega)]; rfl
  clear hE
  unfold recVal
  go_enter Tryz.func99, Tryz.ntmps99
  go_wp2_with (go_at_call 98; refine (rsame_any _ _ ha hb _).mono ?_; rintro e w' ⟨rfl, rfl⟩)
  go_ret
  exact ⟨ret_bool hF.out.symm, by (repeat with_reducible first | exact cR _ | assumption | refine cA ?_ _ | refine cD ?_ | refine cN ?_ _ | refine cS ?_ (by first | omega | (simp <;> omega)) _)⟩
 | false =>
 obtain rfl : n = k := by
  have : (n : Int) = k := by simpa using hN
  omega
 have hk : n ≤ 140737488355328 := hnk rfl
 clear hnk
 have hE : Hid (sameRec a b = sameItems a.list b.list) := by unfold Hid; rw [hE.out, hS]; rfl
 have hr := hr.cln (w' := (w.alloc (.cells #[.int .i64 a.kind, .int .i64 a.num, .int .i64 a.low, .int .i64 a.high, .float .f64 a.real, .int .i64 a.cap, .string (str a.text), .slice A n c] 83)).alloc (.cells #[.int .i64 b.kind, .int .i64 b.num, .int .i64 b.low, .int .i64 b.high, .float .f64 b.real, .int .i64 b.cap, .string (str b.text), .slice B n d] 83)) (by (repeat with_reducible first | exact cR _ | assumption | refine cA ?_ _ | refine cD ?_ | refine cN ?_ _ | refine cS ?_ (by first | omega | (simp <;> omega)) _))
 have hs := hs.cln (w' := (w.alloc (.cells #[.int .i64 a.kind, .int .i64 a.num, .int .i64 a.low, .int .i64 a.high, .float .f64 a.real, .int .i64 a.cap, .string (str a.text), .slice A n c] 83)).alloc (.cells #[.int .i64 b.kind, .int .i64 b.num, .int .i64 b.low, .int .i64 b.high, .float .f64 b.real, .int .i64 b.cap, .string (str b.text), .slice B n d] 83)) (by (repeat with_reducible first | exact cR _ | assumption | refine cA ?_ _ | refine cD ?_ | refine cN ?_ _ | refine cS ?_ (by first | omega | (simp <;> omega)) _))
 unfold recVal
 go_enter Tryz.func99, Tryz.ntmps99
 go_wp2_with (go_at_call 98; refine (rsame_any _ _ ha hb _).mono ?_; rintro e w' ⟨rfl, rfl⟩)
 go_loopw [5] (fun v wr => ∃ i : Nat, i ≤ n ∧ v = .int .i64 (i : Nat) ∧ Cln w wr ∧ RdItems wr A n a.list ∧ RdItems wr B n b.list ∧ wr.cell? ⟨w.heap.size, 7, none⟩ = some (.slice A n c) ∧ wr.cell? ⟨w.heap.size + 1, 7, none⟩ = some (.slice B n d) ∧ Hid (sameItems a.list b.list = sameItems (a.list.drop i) (b.list.drop i))) (fun v _ => (n - intOf v).toNat)
 case atStart => exact ⟨0, Nat.zero_le _, rfl, by (repeat with_reducible first | exact cR _ | assumption | refine cA ?_ _ | refine cD ?_ | refine cN ?_ _ | refine cS ?_ (by first | omega | (simp <;> omega)) _), hr.cln (by (repeat with_reducible first | exact cR _ | assumption | refine cA ?_ _ | refine cD ?_ | refine cN ?_ _ | refine cS ?_ (by first | omega | (simp <;> omega)) _)), hs.cln (by (repeat with_reducible first | exact cR _ | assumption | refine cA ?_ _ | refine cD ?_ | refine cN ?_ _ | refine cS ?_ (by first | omega | (simp <;> omega)) _)), by first | rfl | assumption | (simp; done), by first | rfl | assumption | (simp; done), rfl⟩
 case round =>
  clear hr hs h0 h1 h2 h3 h4 h5
  obtain ⟨i, hi, rfl, hq, hr, hs, c7, d7, hH⟩ := hrel
  by_cases hlt : i < n
  ·obtain ⟨b1, o, rfl, hblt, hcell⟩ := hr.cells (by omega)
   obtain ⟨b2, o2, rfl, hblt2, hcell2⟩ := hs.cells (by omega)
   obtain ⟨hc0, hc1⟩ := hcell i hlt
   obtain ⟨hd0, hd1⟩ := hcell2 i hlt
   have hstep := Lib.hid (hH.out.trans (sameItems_take a.list b.list i (by rw [hr.len]; exact hlt) (by rw [hs.len]; exact hlt)))
   have hx := hr.wf i
   have hy := hs.wf i
   clear hcell hcell2 hH
   generalize itAt a.list i = x at hc0 hc1 hstep hx
   generalize itAt b.list i = y at hd0 hd1 hstep hy
   have hq := Lib.hid hq
   have hr := Lib.hid hr
   have hs := Lib.hid hs
   cases hX : (x.name == y.name) with
   | false =>
    have hF : Hid (sameItem x y = false) := by unfold Hid; simp [sameItem, hX]
    go_wp2_with fail
    go_quiet (fail)
    go_wp2_with fail
    go_ret
    exact ⟨ret_bool (by rw [hE.out, hstep.out, hF.out, Bool.false_and]), cln_trans hq.out (by (repeat with_reducible first | exact cR _ | assumption | refine cA ?_ _ | refine cD ?_ | refine cN ?_ _ | refine cS ?_ (by first | omega | (simp <;> omega)) _))⟩
   | true =>
    have hF : Hid (sameItem x y = fsame x.score y.score) := by
     unfold Hid; have e : x.name = y.name := by simpa using hX
     simp [sameItem, e]
    cases hZ : fsame x.score y.score with
    | true =>
     go_wp2_with fail
     (refine region_tail 26 (by kernel_rfl) (by kernel_rfl) ?_; simp only [List.take_succ_cons, List.take_zero, List.drop_succ_cons, List.drop_zero]; (repeat still_step); refine wpStill_nil ?_)
     go_wp2_with (go_at_call 98; refine (rsame_any _ _ hx hy _).mono ?_; rintro e w' ⟨rfl, rfl⟩)
     go_roundw
     case rel => exact ⟨i + 1, hlt, by go_num, cln_trans hq.out (by (repeat with_reducible first | exact cR _ | assumption | refine cA ?_ _ | refine cD ?_ | refine cN ?_ _ | refine cS ?_ (by first | omega | (simp <;> omega)) _)), hr.out.cln (by (repeat with_reducible first | exact cR _ | assumption | refine cA ?_ _ | refine cD ?_ | refine cN ?_ _ | refine cS ?_ (by first | omega | (simp <;> omega)) _)), hs.out.cln (by (repeat with_reducible first | exact cR _ | assumption | refine cA ?_ _ | refine cD ?_ | refine cN ?_ _ | refine cS ?_ (by first | omega | (simp <;> omega)) _)), by first | rfl | assumption | (simp; done), by first | rfl | assumption | (simp; done), by unfold Hid; rw [hstep.out, hF.out, hZ, Bool.true_and]⟩
     case measure => simp [intOf]; omega
    | false =>
     go_wp2_with fail
     (refine region_tail 26 (by kernel_rfl) (by kernel_rfl) ?_; simp only [List.take_succ_cons, List.take_zero, List.drop_succ_cons, List.drop_zero]; (repeat still_step); refine wpStill_nil ?_)
     go_wp2_with (go_at_call 98; refine (rsame_any _ _ hx hy _).mono ?_; rintro e w' ⟨rfl, rfl⟩)
     go_ret
     exact ⟨ret_bool (by rw [hE.out, hstep.out, hF.out, hZ, Bool.false_and]), cln_trans hq.out (by (repeat with_reducible first | exact cR _ | assumption | refine cA ?_ _ | refine cD ?_ | refine cN ?_ _ | refine cS ?_ (by first | omega | (simp <;> omega)) _))⟩
  ·obtain rfl : i = n := by omega
   have t2 : decide ((i : Int) < (i : Int)) = false := decide_eq_false (by omega)
   have hz := Lib.hid (show sameItems (a.list.drop i) (b.list.drop i) = true from by rw [List.drop_of_length_le (by rw [hr.len]; exact Nat.le_refl _), List.drop_of_length_le (by rw [hs.len]; exact Nat.le_refl _)]; rfl)
   go_wp2_with fail
   go_ret
   exact ⟨ret_bool (by rw [hE.out, hH.out, hz.out]), cln_trans hq (by (repeat with_reducible first | exact cR _ | assumption | refine cA ?_ _ | refine cD ?_ | refine cN ?_ _ | refine cS ?_ (by first | omega | (simp <;> omega)) _))⟩
set_option maxHeartbeats 8000000 in
theorem rcheck_list_gen (r : MRec) (k : Nat) (hk : r.kind = (k : Int)) (h1 : 1 ≤ k ∧ k ≤ 9) (A : Option Addr) (n c : Nat) (hn : Hid (r.list.length = n)) (hr : r.real < 18446744073709551616) (hB : bareB r (shapeOf r.kind) = true) (h8 : k = 8 ∨ k = 9) (w : World) (hit : RdItems w A n r.list) :
  Calls Tryz.prog 109 #[recVal r A n c] w fun e w' => e = .returned (.int .i64 (checkRec r : Nat)) ∧ Cln w w' := by
 have hE : Hid (checkRec r = if fproper r.real = false then 4 else if r.cap < 1 ∨ 32 < r.cap then 1 else if r.cap < (n : Int) then 8 else itemsErr (k : Int) none r.list) := by
  have ht : r.text.length = 0 := by
   unfold bareB shapeOf at hB; rw [hk] at hB
   have : ¬ ((k : Int) = 1) := by omega
   simp [this] at hB
   rw [hB.1.1.1.1]; rfl
  have h64 : ¬ 64 < r.text.length := by omega
  have e4 : ¬ ((k : Int) = 4) := by omega
  have e8 : ¬ ((k : Int) < 8) := by omega
  unfold Hid checkRec; rw [if_neg (by omega), if_neg (by rw [hB]; simp), hk, hn.out]
  simp only [h64, e4, e8, if_false, false_and]
 have q1 : ((k : Int) == 1) = false := by rw [beq_eq_false_iff_ne]; omega
 have q4 : ((k : Int) == 4) = false := by rw [beq_eq_false_iff_ne]; omega
 have q8 : decide ((k : Int) < 8) = false := decide_eq_false (by omega)
 have cO : ∀ W : World, Calls Tryz.prog 146 #[.agg #[.int .i64 (k : Int), .int .i64 r.num, .int .i64 r.low, .int .i64 r.high, .float .f64 r.real, .int .i64 r.cap, .string (str r.text), .slice A n c], .string (str (fieldsOf (k : Int)))] W fun e w' => e = .returned (.bool true) ∧ Cln W w' := fun W => by
  have h := only_kind r k hk h1 A n c hn hr W
  rw [hB] at h; unfold recVal at h; rw [hk] at h; exact h
 have cF : ∀ W : World, Calls Tryz.prog 147 #[.int .i64 (k : Int)] W fun e w' => e = .returned (.string (str (fieldsOf (k : Int)))) ∧ Cln W w' := fun W => fields_any k (by omega) W
 have t1 : decide ((k : Int) < 1) = false := decide_eq_false (by omega)
 have t2 : decide (9 < (k : Int)) = false := decide_eq_false (by omega)
 have hb0 := Blk.new w 83 #[.int .i64 (k : Int), .int .i64 r.num, .int .i64 r.low, .int .i64 r.high, .float .f64 r.real, .int .i64 r.cap, .string (str r.text), .slice A n c]
 have hcl : Hid (Cln w (w.alloc (.cells #[.int .i64 (k : Int), .int .i64 r.num, .int .i64 r.low, .int .i64 r.high, .float .f64 r.real, .int .i64 r.cap, .string (str r.text), .slice A n c] 83))) := by unfold Hid; (repeat with_reducible first | exact cR _ | assumption | refine cA ?_ _ | refine cD ?_ | refine cN ?_ _ | refine cS ?_ (by first | omega | (simp <;> omega)) _)
 have hk' := Lib.hid hk
 have h1' := Lib.hid h1
 have h8' := Lib.hid h8
 clear hB hk h1 h8
 unfold recVal
 rw [hk'.out]
 have g0 := hb0.cell 0; have g1 := hb0.cell 1; have g2 := hb0.cell 2; have g3 := hb0.cell 3; have g4 := hb0.cell 4; have g5 := hb0.cell 5; have g6 := hb0.cell 6; have g7 := hb0.cell 7
 go_enter Tryz.func109, Tryz.ntmps109
 go_wp2_with fail
 go_region_held3 (fun W => W.cell? ⟨w.heap.size, 0, none⟩ = some (.int .i64 (k : Int)) ∧ W.cell? ⟨w.heap.size, 1, none⟩ = some (.int .i64 r.num) ∧ W.cell? ⟨w.heap.size, 2, none⟩ = some (.int .i64 r.low) ∧ W.cell? ⟨w.heap.size, 3, none⟩ = some (.int .i64 r.high) ∧ W.cell? ⟨w.heap.size, 4, none⟩ = some (.float .f64 r.real) ∧ W.cell? ⟨w.heap.size, 5, none⟩ = some (.int .i64 r.cap) ∧ W.cell? ⟨w.heap.size, 6, none⟩ = some (.string (str r.text)) ∧ W.cell? ⟨w.heap.size, 7, none⟩ = some (.slice A n c) ∧ Hid (Cln w W))
  (first | exact recKeep hq (by assumption) | exact ⟨g0, g1, g2, g3, g4, g5, g6, g7, Lib.hid (Below.drew hcl.out)⟩)
  (first
   |(go_at_call 147; with_reducible refine (cF _).mono ?_; rintro e w' ⟨rfl, hq⟩)
   |(go_at_call 146; with_reducible refine (cO _).mono ?_; rintro e w' ⟨rfl, hq⟩))
 rename_i W1 hS
 have f0 := hS.1; have f1 := hS.2.1; have f2 := hS.2.2.1; have f3 := hS.2.2.2.1; have f4 := hS.2.2.2.2.1; have f5 := hS.2.2.2.2.2.1; have f6 := hS.2.2.2.2.2.2.1; have f7 := hS.2.2.2.2.2.2.2.1
 have hcl2 := hS.2.2.2.2.2.2.2.2
 have hS' := Lib.hid hS
 clear hS g0 g1 g2 g3 g4 g5 g6 g7 hb0
 cases hP : fproper r.real with
 | false =>
  have hF : Hid (checkRec r = 4) := by unfold Hid; rw [hE.out, if_pos hP]
  clear hE
  go_wp2_with ((go_at_call 108; refine (rproper_any _ hr _).mono ?_; rintro e w' ⟨rfl, rfl⟩))
  go_ret
  exact ⟨ret_int (by rw [hF.out]; rfl), hcl2.out⟩
 | true =>
 by_cases hc1 : r.cap < 1
 ·have hF : Hid (checkRec r = 1) := by unfold Hid; rw [hE.out, if_neg (by rw [hP]; simp), if_pos (.inl hc1)]
  have d1 : decide (r.cap < 1) = true := decide_eq_true hc1
  clear hE hc1
  go_wp2_with ((go_at_call 108; refine (rproper_any _ hr _).mono ?_; rintro e w' ⟨rfl, rfl⟩))
  go_ret
  exact ⟨ret_int (by rw [hF.out]; rfl), hcl2.out⟩
 have d1 : decide (r.cap < 1) = false := decide_eq_false hc1
 by_cases hc2 : 32 < r.cap
 ·have hF : Hid (checkRec r = 1) := by unfold Hid; rw [hE.out, if_neg (by rw [hP]; simp), if_pos (.inr hc2)]
  have d2 : decide (32 < r.cap) = true := decide_eq_true hc2
  clear hE hc1 hc2
  go_wp2_with ((go_at_call 108; refine (rproper_any _ hr _).mono ?_; rintro e w' ⟨rfl, rfl⟩))
  go_ret
  exact ⟨ret_int (by rw [hF.out]; rfl), hcl2.out⟩
 have d2 : decide (32 < r.cap) = false := decide_eq_false hc2
 by_cases hc3 : r.cap < (n : Int)
 ·have hF : Hid (checkRec r = 8) := by unfold Hid; rw [hE.out, if_neg (by rw [hP]; simp), if_neg (by omega), if_pos hc3]
  have d3 : decide (r.cap < (n : Int)) = true := decide_eq_true hc3
  clear hE hc1 hc2 hc3
  go_wp2_with ((go_at_call 108; refine (rproper_any _ hr _).mono ?_; rintro e w' ⟨rfl, rfl⟩))
  go_ret
  exact ⟨ret_int (by rw [hF.out]; rfl), hcl2.out⟩
 have d3 : decide (r.cap < (n : Int)) = false := decide_eq_false hc3
 have hbi : n ≤ 140737488355328 := by omega
 have hF : Hid (checkRec r = itemsErr (k : Int) none r.list) := by unfold Hid; rw [hE.out, if_neg (by rw [hP]; simp), if_neg (by omega), if_neg hc3]
 clear hE hc1 hc2 hc3
 go_wp2_with ((go_at_call 108; refine (rproper_any _ hr _).mono ?_; rintro e w' ⟨rfl, rfl⟩))
 clear f0 f1 f2 f3 f4 f5 f6 f7 hcl2
 go_loopw [4] (fun v wr => ∃ i : Nat, i ≤ n ∧ v = .int .i64 (i : Nat) ∧ Hid (wr.cell? ⟨w.heap.size, 0, none⟩ = some (.int .i64 (k : Int)) ∧ wr.cell? ⟨w.heap.size, 1, none⟩ = some (.int .i64 r.num) ∧ wr.cell? ⟨w.heap.size, 2, none⟩ = some (.int .i64 r.low) ∧ wr.cell? ⟨w.heap.size, 3, none⟩ = some (.int .i64 r.high) ∧ wr.cell? ⟨w.heap.size, 4, none⟩ = some (.float .f64 r.real) ∧ wr.cell? ⟨w.heap.size, 5, none⟩ = some (.int .i64 r.cap) ∧ wr.cell? ⟨w.heap.size, 6, none⟩ = some (.string (str r.text)) ∧ wr.cell? ⟨w.heap.size, 7, none⟩ = some (.slice A n c) ∧ Hid (Cln w wr)) ∧ Hid (checkRec r = itemsErr (k : Int) (prevOf r.list i) (r.list.drop i))) (fun v _ => (n - intOf v).toNat)
 case atStart => exact ⟨0, Nat.zero_le _, rfl, hS', hF⟩
 case round =>
  obtain ⟨i, hi, rfl, hS, hH⟩ := hrel
  clear hS' hF
  have hclR := hS.out.2.2.2.2.2.2.2.2
  have hitr := hit.cln hclR.out
  have f0 := hS.out.1; have f7 := hS.out.2.2.2.2.2.2.2.1
  by_cases hlt : i < n
  ·have hstep := Lib.hid (hH.out.trans (itemsErr_step (k : Int) r.list i (by rw [hn.out]; exact hlt)))
   clear hH
   have cI := item_any (k : Int) r.list A n c i wr hitr hbi hlt
   generalize hq : itemErr (k : Int) (prevOf r.list i) (itAt r.list i) = q at hstep cI
   clear hq
   by_cases hq0 : q = 0
   ·subst hq0
    have hH2 : Hid (checkRec r = itemsErr (k : Int) (prevOf r.list (i + 1)) (r.list.drop (i + 1))) := by unfold Hid; rw [hstep.out, if_pos rfl]
    clear hstep
    go_wp2_with fail
    refine cI.mono ?_; rintro e w2 ⟨rfl, hq⟩
    have hS2 := Lib.hid (recKeep hq hS.out)
    clear cI hq f0 f7 hitr
    go_wp2_with fail
    go_roundw
    case rel => exact ⟨i + 1, hlt, by go_num, hS2, hH2⟩
    case measure => simp [intOf]; omega
   ·have hH2 : Hid (checkRec r = q) := by unfold Hid; rw [hstep.out, if_neg hq0]
    have z1 : (((q : Nat) : Int) == 0) = false := by rw [beq_eq_false_iff_ne]; omega
    have z2 : ¬ ((q : Nat) : Int) = 0 := by omega
    clear hstep
    go_wp2_with fail
    refine cI.mono ?_; rintro e w2 ⟨rfl, hq⟩
    have hS2 := recKeep hq hS.out
    have hcl3 := hS2.2.2.2.2.2.2.2.2
    clear cI hq f0 f7 hitr hS2
    go_wp2_with fail
    go_ret
    exact ⟨ret_int (by rw [hH2.out]), hcl3.out⟩
  ·obtain rfl : i = n := by omega
   have t3 : decide ((i : Int) < (i : Int)) = false := decide_eq_false (by omega)
   have hH2 : Hid (checkRec r = 0) := by unfold Hid; rw [hH.out, List.drop_of_length_le (by rw [hn.out]; exact Nat.le_refl _)]; rfl
   clear hH
   go_wp2_with fail
   go_ret
   exact ⟨ret_int (by rw [hH2.out]; rfl), hclR.out⟩
theorem rcheck_gen (r : MRec) (A : Option Addr) (n c : Nat) (hf : r.WF) (w : World) (hr : RdItems w A n r.list) :
  Calls Tryz.prog 109 #[recVal r A n c] w fun e w' => e = .returned (.int .i64 (checkRec r : Nat)) ∧ Cln w w' := by
 by_cases hk : r.kind < 1 ∨ 9 < r.kind
 ·exact rcheck_bad r A n c hk w
 ·obtain ⟨k, hk2⟩ : ∃ k : Nat, r.kind = (k : Int) := ⟨r.kind.toNat, by omega⟩
  have h1 : 1 ≤ k ∧ k ≤ 9 := by omega
  cases hB : bareB r (shapeOf r.kind) with
  | false => exact rcheck_bare r k hk2 h1 A n c hr.len hf.real hB w
  | true =>
   by_cases h8 : k < 8
   ·exact rcheck_low r k hk2 h1 A n c hr.len hf.real hB h8 w
   ·exact rcheck_list_gen r k hk2 h1 A n c hr.len hf.real hB (by omega) w hr
set_option maxHeartbeats 8000000 in
theorem racheck_gen (a : MAct) (A : Option Addr) (n c : Nat) (hf : a.WF) (w : World) (hit : RdItems w A n a.make.list) :
  Calls Tryz.prog 69 #[actVal a A n c] w fun e w' => e = .returned (.int .i64 (checkAct a : Nat)) ∧ Cln w w' := by
 have hx := hf.x
 have hr := hf.make.real
 have hcl0 : Hid (Cln w (w.alloc (.cells #[.int .i64 a.kind, .string (str a.key), .int .i64 a.n, .float .f64 a.x, .string (str a.s), .int .i64 a.make.kind, .int .i64 a.make.num, .int .i64 a.make.low, .int .i64 a.make.high, .float .f64 a.make.real, .int .i64 a.make.cap, .string (str a.make.text), .slice A n c, .bool a.must] 90))) := by unfold Hid; (repeat with_reducible first | exact cR _ | assumption | refine cA ?_ _ | refine cD ?_ | refine cN ?_ _ | refine cS ?_ (by first | omega | (simp <;> omega)) _)
 have hA0 := Lib.hid (Blk.new w 90 #[.int .i64 a.kind, .string (str a.key), .int .i64 a.n, .float .f64 a.x, .string (str a.s), .int .i64 a.make.kind, .int .i64 a.make.num, .int .i64 a.make.low, .int .i64 a.make.high, .float .f64 a.make.real, .int .i64 a.make.cap, .string (str a.make.text), .slice A n c, .bool a.must])
 have uA := hA0.out.cell; have lA := hA0.out.lt
 replace hit := Lib.hid hit
 replace hf := Lib.hid hf
 have hcur : Hid (Cln (w.alloc (.cells #[.int .i64 a.kind, .string (str a.key), .int .i64 a.n, .float .f64 a.x, .string (str a.s), .int .i64 a.make.kind, .int .i64 a.make.num, .int .i64 a.make.low, .int .i64 a.make.high, .float .f64 a.make.real, .int .i64 a.make.cap, .string (str a.make.text), .slice A n c, .bool a.must] 90)) (w.alloc (.cells #[.int .i64 a.kind, .string (str a.key), .int .i64 a.n, .float .f64 a.x, .string (str a.s), .int .i64 a.make.kind, .int .i64 a.make.num, .int .i64 a.make.low, .int .i64 a.make.high, .float .f64 a.make.real, .int .i64 a.make.cap, .string (str a.make.text), .slice A n c, .bool a.must] 90))) := Below.refl _ _
 have hfin : ∀ (m : Nat) (w' : World), checkAct a = m → Cln w w' → (Ending.returned (.int .i64 (m : Nat)) = .returned (.int .i64 (checkAct a : Nat)) ∧ Cln w w') := fun m w' h h2 => ⟨by rw [h], h2⟩
 unfold actVal
 by_cases h0 : a.kind < 1
 ·have hI : Hid (checkAct a = 5) := by unfold Hid checkAct; rw [if_pos (.inl h0)]
  have t1 : decide (a.kind < 1) = true := decide_eq_true h0
  clear h0
  go_enter Tryz.func69, Tryz.ntmps69
  go_wp2_with fail
  go_ret
  exact hfin 5 _ hI.out (cln_trans hcl0.out hcur.out)
 have t1 : decide (a.kind < 1) = false := decide_eq_false h0
 by_cases h1 : 21 < a.kind
 ·have hI : Hid (checkAct a = 5) := by unfold Hid checkAct; rw [if_pos (.inr h1)]
  have t2 : decide (21 < a.kind) = true := decide_eq_true h1
  clear h0 h1
  go_enter Tryz.func69, Tryz.ntmps69
  go_wp2_with fail
  go_ret
  exact hfin 5 _ hI.out (cln_trans hcl0.out hcur.out)
 have t2 : decide (21 < a.kind) = false := decide_eq_false h1
 by_cases h2 : a.key.length < 1
 ·have hI : Hid (checkAct a = 1) := by unfold Hid checkAct; rw [if_neg (by omega), if_pos (.inl h2)]
  have t3 : decide ((a.key.length : Int) < 1) = true := decide_eq_true (by omega)
  clear h0 h1 h2
  go_enter Tryz.func69, Tryz.ntmps69
  go_wp2_with fail
  go_ret
  exact hfin 1 _ hI.out (cln_trans hcl0.out hcur.out)
 have t3 : decide ((a.key.length : Int) < 1) = false := decide_eq_false (by omega)
 by_cases h3 : 24 < a.key.length
 ·have hI : Hid (checkAct a = 1) := by unfold Hid checkAct; rw [if_neg (by omega), if_pos (.inr h3)]
  have t4 : decide (24 < (a.key.length : Int)) = true := decide_eq_true (by omega)
  clear h0 h1 h2 h3
  go_enter Tryz.func69, Tryz.ntmps69
  go_wp2_with fail
  go_ret
  exact hfin 1 _ hI.out (cln_trans hcl0.out hcur.out)
 have t4 : decide (24 < (a.key.length : Int)) = false := decide_eq_false (by omega)
 have hI2 : Hid (checkAct a = if bareA a = false then 4 else if mostOf a.kind < a.s.length then 3 else if (a.kind = 10 ∨ a.kind = 11) ∧ (a.n < 0 ∨ 2305843009213693952 < a.n) then 1 else if fproper a.x = false then 4 else if a.kind = 1 then checkRec a.make else 0) := by unfold Hid checkAct; rw [if_neg (by omega), if_neg (by omega)]
 have hkr : Hid (1 ≤ a.kind ∧ a.kind ≤ 21) := ⟨by omega, by omega⟩
 clear h0 h1 h2 h3
 have f110 : ∀ W, Calls Tryz.prog 106 #[.int .i64 a.kind, .int .u8 110] W fun e w' => e = .returned (.bool (hasF a.kind 110)) ∧ Cln W w' := fun W => rhas_any a.kind 110 W
 have f120 : ∀ W, Calls Tryz.prog 106 #[.int .i64 a.kind, .int .u8 120] W fun e w' => e = .returned (.bool (hasF a.kind 120)) ∧ Cln W w' := fun W => rhas_any a.kind 120 W
 have f115 : ∀ W, Calls Tryz.prog 106 #[.int .i64 a.kind, .int .u8 115] W fun e w' => e = .returned (.bool (hasF a.kind 115)) ∧ Cln W w' := fun W => rhas_any a.kind 115 W
 have hS : ∀ W, Cln w W → Calls Tryz.prog 99 #[.agg #[.int .i64 a.make.kind, .int .i64 a.make.num, .int .i64 a.make.low, .int .i64 a.make.high, .float .f64 a.make.real, .int .i64 a.make.cap, .string (str a.make.text), .slice A n c], .agg #[.int .i64 0, .int .i64 0, .int .i64 0, .int .i64 0, .float .f64 0, .int .i64 0, .string ⟨#[]⟩, .slice none 0 0]] W fun e w' => e = .returned (.bool (sameRec a.make zeroRec)) ∧ Cln W w' :=
  fun W h => recsame_gen a.make zeroRec A none n c 0 0 W (hit.out.cln h) (RdItems.none_ _) (fun h => by omega) hr (by decide)
 go_enter Tryz.func69, Tryz.ntmps69
 go_wp2_with fail
 rename_i K2 hK2 K1 hK1 K0 hK0
 have hJ : ∀ (s0 s3 s4 s5 s6 s7 s8 s9 s10 s11 s12 s13 s14 s15 s16 s17 s18 s19 s20 s21 s22 s23 s24 s25 s26 s27 s28 s29 s30 s31 s32 s33 s34 s35 s36 s37 s38 s39 s40 s41 s42 s43 s44 s45 s46 s47 s48 s49 s50 s51 s52 s53 s54 s55 s56 s57 s58 s59 s60 s61 s62 s63 s64 s65 s66 s67 s68 s69 s70 s71 s72 s73 s74 s75 s76 s77 s78 s79 s80 s81 s82 s83 s84 s85 s86 s87 s88 s89 s90 s91 s92 s93 s94 s95 s96 s97 s98 s99 s100 s101 s102 s103 s104 s105 s106 s107 s108 s109 s110 s111 s112 : Value) (W : World), ((hasF a.kind 110 || a.n == 0) && (hasF a.kind 120 || fsame a.x 0) && (hasF a.kind 115 || a.s == [])) = true → Cln (w.alloc (.cells #[.int .i64 a.kind, .string (str a.key), .int .i64 a.n, .float .f64 a.x, .string (str a.s), .int .i64 a.make.kind, .int .i64 a.make.num, .int .i64 a.make.low, .int .i64 a.make.high, .float .f64 a.make.real, .int .i64 a.make.cap, .string (str a.make.text), .slice A n c, .bool a.must] 90)) W →
   K2 { tmps := #[s0, .pointer (some ⟨w.heap.size, 0, none⟩), .int .i64 0, s3, s4, s5, s6, s7, s8, s9, s10, s11, s12, s13, s14, s15, s16, s17, s18, s19, s20, s21, s22, s23, s24, s25, s26, s27, s28, s29, s30, s31, s32, s33, s34, s35, s36, s37, s38, s39, s40, s41, s42, s43, s44, s45, s46, s47, s48, s49, s50, s51, s52, s53, s54, s55, s56, s57, s58, s59, s60, s61, s62, s63, s64, s65, s66, s67, s68, s69, s70, s71, s72, s73, s74, s75, s76, s77, s78, s79, s80, s81, s82, s83, s84, s85, s86, s87, s88, s89, s90, s91, s92, s93, s94, s95, s96, s97, s98, s99, s100, s101, s102, s103, s104, s105, s106, s107, s108, s109, s110, s111, s112], defers := [] } W := by
  intro s0 s3 s4 s5 s6 s7 s8 s9 s10 s11 s12 s13 s14 s15 s16 s17 s18 s19 s20 s21 s22 s23 s24 s25 s26 s27 s28 s29 s30 s31 s32 s33 s34 s35 s36 s37 s38 s39 s40 s41 s42 s43 s44 s45 s46 s47 s48 s49 s50 s51 s52 s53 s54 s55 s56 s57 s58 s59 s60 s61 s62 s63 s64 s65 s66 s67 s68 s69 s70 s71 s72 s73 s74 s75 s76 s77 s78 s79 s80 s81 s82 s83 s84 s85 s86 s87 s88 s89 s90 s91 s92 s93 s94 s95 s96 s97 s98 s99 s100 s101 s102 s103 s104 s105 s106 s107 s108 s109 s110 s111 s112 W hp3 hcur
  replace hcur := Lib.hid hcur
  replace hp3 := Lib.hid hp3
  refine hK2 _ _ ?_
  clear hK2 hK1 hK0 f110 f120 f115 uA lA
  have uA := (hA0.out.cln hcur.out).cell; have lA := (hA0.out.cln hcur.out).lt
  have hM : Hid (hasF a.kind 109 = decide (a.kind = 1)) := hasF_kind a.kind hkr.out
  have hJ2 : Hid (bareA a = true) → Hid (checkAct a = if mostOf a.kind < a.s.length then 3 else if (a.kind = 10 ∨ a.kind = 11) ∧ (a.n < 0 ∨ 2305843009213693952 < a.n) then 1 else if fproper a.x = false then 4 else if a.kind = 1 then checkRec a.make else 0) := fun h => by unfold Hid; rw [hI2.out, if_neg (by rw [h.out]; decide)]
  by_cases hk1 : a.kind = 1
  ·have t5 : (a.kind != 1) = false := by rw [hk1]; rfl
   have hB : Hid (bareA a = true) := by unfold Hid bareA; rw [hM.out, hp3.out]; simp [hk1]
   have hI3 := hJ2 hB
   clear hI2 hJ2 hB hM hp3 hk1
   go_wp2_with fail
   refine (ron_any a.kind _).mono ?_; rintro e w' ⟨rfl, hq⟩
   have hcur := Lib.hid (cln_trans hcur.out hq)
   clear hq uA lA
   have uA := (hA0.out.cln hcur.out).cell
   have lA := (hA0.out.cln hcur.out).lt
   by_cases ho : onOf a.kind = 1
   ·have t11 : (((onOf a.kind : Nat) : Int) == 1) = true := by rw [ho]; rfl
    have t12 : (((onOf a.kind : Nat) : Int) != 1) = false := by rw [ho]; rfl
    have hmo : Hid (mostOf a.kind = 64) := by unfold Hid mostOf; rw [if_pos ho]
    by_cases hlen : 64 < a.s.length
    ·have t13 : decide (64 < (a.s.length : Int)) = true := decide_eq_true (by omega)
     have hI : Hid (checkAct a = 3) := by unfold Hid; rw [hI3.out, hmo.out, if_pos hlen]
     clear hI3 ho hlen
     go_wp2_with fail
     go_ret
     exact hfin 3 _ hI.out (cln_trans hcl0.out hcur.out)
    have t13 : decide (64 < (a.s.length : Int)) = false := decide_eq_false (by omega)
    have hI4 : Hid (checkAct a = if (a.kind = 10 ∨ a.kind = 11) ∧ (a.n < 0 ∨ 2305843009213693952 < a.n) then 1 else if fproper a.x = false then 4 else if a.kind = 1 then checkRec a.make else 0) := by unfold Hid; rw [hI3.out, hmo.out, if_neg hlen]
    clear hI3 ho hlen hmo
    go_wp2_with fail
    refine (ron_any a.kind _).mono ?_; rintro e w' ⟨rfl, hq⟩
    have hcur := Lib.hid (cln_trans hcur.out hq)
    clear hq uA lA
    have uA := (hA0.out.cln hcur.out).cell
    have lA := (hA0.out.cln hcur.out).lt
    by_cases hk10 : a.kind = 10
    ·have t6 : (a.kind == 10) = true := by rw [beq_iff_eq]; exact hk10
     have hkk := Lib.hid hk10
     by_cases h5 : a.n < 0
     ·have hI : Hid (checkAct a = 1) := by unfold Hid; rw [hI4.out, if_pos ⟨by omega, .inl h5⟩]
      have t7 : decide (a.n < 0) = true := decide_eq_true h5
      clear hI4 hk10 h5
      go_wp2_with fail
      go_ret
      exact hfin 1 _ hI.out (cln_trans hcl0.out hcur.out)
     have t7 : decide (a.n < 0) = false := decide_eq_false h5
     by_cases h6 : 2305843009213693952 < a.n
     ·have hI : Hid (checkAct a = 1) := by unfold Hid; rw [hI4.out, if_pos ⟨by omega, .inr h6⟩]
      have t8 : decide (2305843009213693952 < a.n) = true := decide_eq_true h6
      clear hI4 hk10 h5 h6
      go_wp2_with fail
      go_ret
      exact hfin 1 _ hI.out (cln_trans hcl0.out hcur.out)
     have t8 : decide (2305843009213693952 < a.n) = false := decide_eq_false h6
     have hI5 : Hid (checkAct a = if fproper a.x = false then 4 else if a.kind = 1 then checkRec a.make else 0) := by unfold Hid; rw [hI4.out, if_neg (by omega)]
     clear hI4 hk10 h5 h6
     go_wp2_with fail
     refine (rproper_any a.x hx _).mono ?_; rintro e w' ⟨rfl, rfl⟩
     cases hP : fproper a.x with
     | false =>
      have hI : Hid (checkAct a = 4) := by unfold Hid; rw [hI5.out, if_pos hP]
      go_wp2_with fail
      go_ret
      exact hfin 4 _ hI.out (cln_trans hcl0.out hcur.out)
     | true =>
      have hI : Hid (checkAct a = 0) := by unfold Hid; rw [hI5.out, if_neg (by rw [hP]; decide), if_neg (by have := hkk.out; omega)]
      have t9 : (a.kind == 1) = false := by rw [beq_eq_false_iff_ne]; have := hkk.out; omega
      go_wp2_with fail
      go_ret
      exact hfin 0 _ hI.out (cln_trans hcl0.out hcur.out)
    by_cases hk11 : a.kind = 11
    ·have t5 : (a.kind == 10) = false := by rw [beq_eq_false_iff_ne]; omega
     have t6 : (a.kind == 11) = true := by rw [beq_iff_eq]; exact hk11
     have hkk := Lib.hid hk11
     by_cases h5 : a.n < 0
     ·have hI : Hid (checkAct a = 1) := by unfold Hid; rw [hI4.out, if_pos ⟨by omega, .inl h5⟩]
      have t7 : decide (a.n < 0) = true := decide_eq_true h5
      clear hI4 hk11 h5
      go_wp2_with fail
      go_ret
      exact hfin 1 _ hI.out (cln_trans hcl0.out hcur.out)
     have t7 : decide (a.n < 0) = false := decide_eq_false h5
     by_cases h6 : 2305843009213693952 < a.n
     ·have hI : Hid (checkAct a = 1) := by unfold Hid; rw [hI4.out, if_pos ⟨by omega, .inr h6⟩]
      have t8 : decide (2305843009213693952 < a.n) = true := decide_eq_true h6
      clear hI4 hk11 h5 h6
      go_wp2_with fail
      go_ret
      exact hfin 1 _ hI.out (cln_trans hcl0.out hcur.out)
     have t8 : decide (2305843009213693952 < a.n) = false := decide_eq_false h6
     have hI5 : Hid (checkAct a = if fproper a.x = false then 4 else if a.kind = 1 then checkRec a.make else 0) := by unfold Hid; rw [hI4.out, if_neg (by omega)]
     clear hI4 hk11 h5 h6
     go_wp2_with fail
     refine (rproper_any a.x hx _).mono ?_; rintro e w' ⟨rfl, rfl⟩
     cases hP : fproper a.x with
     | false =>
      have hI : Hid (checkAct a = 4) := by unfold Hid; rw [hI5.out, if_pos hP]
      go_wp2_with fail
      go_ret
      exact hfin 4 _ hI.out (cln_trans hcl0.out hcur.out)
     | true =>
      have hI : Hid (checkAct a = 0) := by unfold Hid; rw [hI5.out, if_neg (by rw [hP]; decide), if_neg (by have := hkk.out; omega)]
      have t9 : (a.kind == 1) = false := by rw [beq_eq_false_iff_ne]; have := hkk.out; omega
      go_wp2_with fail
      go_ret
      exact hfin 0 _ hI.out (cln_trans hcl0.out hcur.out)
    have t5 : (a.kind == 10) = false := by rw [beq_eq_false_iff_ne]; exact hk10
    have t6 : (a.kind == 11) = false := by rw [beq_eq_false_iff_ne]; exact hk11
    have hI5 : Hid (checkAct a = if fproper a.x = false then 4 else if a.kind = 1 then checkRec a.make else 0) := by unfold Hid; rw [hI4.out, if_neg (by omega)]
    clear hI4 hk10 hk11
    go_wp2_with fail
    refine (rproper_any a.x hx _).mono ?_; rintro e w' ⟨rfl, rfl⟩
    cases hP : fproper a.x with
    | false =>
     have hI : Hid (checkAct a = 4) := by unfold Hid; rw [hI5.out, if_pos hP]
     go_wp2_with fail
     go_ret
     exact hfin 4 _ hI.out (cln_trans hcl0.out hcur.out)
    | true =>
     have hI6 : Hid (checkAct a = if a.kind = 1 then checkRec a.make else 0) := by unfold Hid; rw [hI5.out, if_neg (by rw [hP]; decide)]
     by_cases hk1 : a.kind = 1
     ·have hI : Hid (checkAct a = checkRec a.make) := by unfold Hid; rw [hI6.out, if_pos hk1]
      have t9 : (a.kind == 1) = true := by rw [hk1]; rfl
      clear hI6 hI5 hk1
      go_wp2_with fail
      have cM := rcheck_gen a.make A n c hf.out.make _ (hit.out.cln (cln_trans hcl0.out hcur.out))
      unfold recVal at cM
      refine cM.mono ?_; rintro e w' ⟨rfl, hq⟩
      go_wp2_with fail
      go_ret
      exact hfin _ _ hI.out (cln_trans (cln_trans hcl0.out hcur.out) hq)
     ·have hI : Hid (checkAct a = 0) := by unfold Hid; rw [hI6.out, if_neg hk1]
      have t9 : (a.kind == 1) = false := by rw [beq_eq_false_iff_ne]; exact hk1
      clear hI6 hI5 hk1
      go_wp2_with fail
      go_ret
      exact hfin 0 _ hI.out (cln_trans hcl0.out hcur.out)
   have t11 : (((onOf a.kind : Nat) : Int) == 1) = false := by rw [beq_eq_false_iff_ne]; omega
   have t12 : (((onOf a.kind : Nat) : Int) != 1) = true := by rw [bne_iff_ne]; omega
   have hmo : Hid (mostOf a.kind = 16) := by unfold Hid mostOf; rw [if_neg ho]
   go_wp2_with fail
   refine (ron_any a.kind _).mono ?_; rintro e w' ⟨rfl, hq⟩
   have hcur := Lib.hid (cln_trans hcur.out hq)
   clear hq uA lA
   have uA := (hA0.out.cln hcur.out).cell
   have lA := (hA0.out.cln hcur.out).lt
   by_cases hlen : 16 < a.s.length
   ·have t13 : decide (16 < (a.s.length : Int)) = true := decide_eq_true (by omega)
    have hI : Hid (checkAct a = 3) := by unfold Hid; rw [hI3.out, hmo.out, if_pos hlen]
    clear hI3 ho hlen
    go_wp2_with fail
    go_ret
    exact hfin 3 _ hI.out (cln_trans hcl0.out hcur.out)
   have t13 : decide (16 < (a.s.length : Int)) = false := decide_eq_false (by omega)
   have hI4 : Hid (checkAct a = if (a.kind = 10 ∨ a.kind = 11) ∧ (a.n < 0 ∨ 2305843009213693952 < a.n) then 1 else if fproper a.x = false then 4 else if a.kind = 1 then checkRec a.make else 0) := by unfold Hid; rw [hI3.out, hmo.out, if_neg hlen]
   clear hI3 ho hlen hmo
   by_cases hk10 : a.kind = 10
   ·have t6 : (a.kind == 10) = true := by rw [beq_iff_eq]; exact hk10
    have hkk := Lib.hid hk10
    by_cases h5 : a.n < 0
    ·have hI : Hid (checkAct a = 1) := by unfold Hid; rw [hI4.out, if_pos ⟨by omega, .inl h5⟩]
     have t7 : decide (a.n < 0) = true := decide_eq_true h5
     clear hI4 hk10 h5
     go_wp2_with fail
     go_ret
     exact hfin 1 _ hI.out (cln_trans hcl0.out hcur.out)
    have t7 : decide (a.n < 0) = false := decide_eq_false h5
    by_cases h6 : 2305843009213693952 < a.n
    ·have hI : Hid (checkAct a = 1) := by unfold Hid; rw [hI4.out, if_pos ⟨by omega, .inr h6⟩]
     have t8 : decide (2305843009213693952 < a.n) = true := decide_eq_true h6
     clear hI4 hk10 h5 h6
     go_wp2_with fail
     go_ret
     exact hfin 1 _ hI.out (cln_trans hcl0.out hcur.out)
    have t8 : decide (2305843009213693952 < a.n) = false := decide_eq_false h6
    have hI5 : Hid (checkAct a = if fproper a.x = false then 4 else if a.kind = 1 then checkRec a.make else 0) := by unfold Hid; rw [hI4.out, if_neg (by omega)]
    clear hI4 hk10 h5 h6
    go_wp2_with fail
    refine (rproper_any a.x hx _).mono ?_; rintro e w' ⟨rfl, rfl⟩
    cases hP : fproper a.x with
    | false =>
     have hI : Hid (checkAct a = 4) := by unfold Hid; rw [hI5.out, if_pos hP]
     go_wp2_with fail
     go_ret
     exact hfin 4 _ hI.out (cln_trans hcl0.out hcur.out)
    | true =>
     have hI : Hid (checkAct a = 0) := by unfold Hid; rw [hI5.out, if_neg (by rw [hP]; decide), if_neg (by have := hkk.out; omega)]
     have t9 : (a.kind == 1) = false := by rw [beq_eq_false_iff_ne]; have := hkk.out; omega
     go_wp2_with fail
     go_ret
     exact hfin 0 _ hI.out (cln_trans hcl0.out hcur.out)
   by_cases hk11 : a.kind = 11
   ·have t5 : (a.kind == 10) = false := by rw [beq_eq_false_iff_ne]; omega
    have t6 : (a.kind == 11) = true := by rw [beq_iff_eq]; exact hk11
    have hkk := Lib.hid hk11
    by_cases h5 : a.n < 0
    ·have hI : Hid (checkAct a = 1) := by unfold Hid; rw [hI4.out, if_pos ⟨by omega, .inl h5⟩]
     have t7 : decide (a.n < 0) = true := decide_eq_true h5
     clear hI4 hk11 h5
     go_wp2_with fail
     go_ret
     exact hfin 1 _ hI.out (cln_trans hcl0.out hcur.out)
    have t7 : decide (a.n < 0) = false := decide_eq_false h5
    by_cases h6 : 2305843009213693952 < a.n
    ·have hI : Hid (checkAct a = 1) := by unfold Hid; rw [hI4.out, if_pos ⟨by omega, .inr h6⟩]
     have t8 : decide (2305843009213693952 < a.n) = true := decide_eq_true h6
     clear hI4 hk11 h5 h6
     go_wp2_with fail
     go_ret
     exact hfin 1 _ hI.out (cln_trans hcl0.out hcur.out)
    have t8 : decide (2305843009213693952 < a.n) = false := decide_eq_false h6
    have hI5 : Hid (checkAct a = if fproper a.x = false then 4 else if a.kind = 1 then checkRec a.make else 0) := by unfold Hid; rw [hI4.out, if_neg (by omega)]
    clear hI4 hk11 h5 h6
    go_wp2_with fail
    refine (rproper_any a.x hx _).mono ?_; rintro e w' ⟨rfl, rfl⟩
    cases hP : fproper a.x with
    | false =>
     have hI : Hid (checkAct a = 4) := by unfold Hid; rw [hI5.out, if_pos hP]
     go_wp2_with fail
     go_ret
     exact hfin 4 _ hI.out (cln_trans hcl0.out hcur.out)
    | true =>
     have hI : Hid (checkAct a = 0) := by unfold Hid; rw [hI5.out, if_neg (by rw [hP]; decide), if_neg (by have := hkk.out; omega)]
     have t9 : (a.kind == 1) = false := by rw [beq_eq_false_iff_ne]; have := hkk.out; omega
     go_wp2_with fail
     go_ret
     exact hfin 0 _ hI.out (cln_trans hcl0.out hcur.out)
   have t5 : (a.kind == 10) = false := by rw [beq_eq_false_iff_ne]; exact hk10
   have t6 : (a.kind == 11) = false := by rw [beq_eq_false_iff_ne]; exact hk11
   have hI5 : Hid (checkAct a = if fproper a.x = false then 4 else if a.kind = 1 then checkRec a.make else 0) := by unfold Hid; rw [hI4.out, if_neg (by omega)]
   clear hI4 hk10 hk11
   go_wp2_with fail
   refine (rproper_any a.x hx _).mono ?_; rintro e w' ⟨rfl, rfl⟩
   cases hP : fproper a.x with
   | false =>
    have hI : Hid (checkAct a = 4) := by unfold Hid; rw [hI5.out, if_pos hP]
    go_wp2_with fail
    go_ret
    exact hfin 4 _ hI.out (cln_trans hcl0.out hcur.out)
   | true =>
    have hI6 : Hid (checkAct a = if a.kind = 1 then checkRec a.make else 0) := by unfold Hid; rw [hI5.out, if_neg (by rw [hP]; decide)]
    by_cases hk1 : a.kind = 1
    ·have hI : Hid (checkAct a = checkRec a.make) := by unfold Hid; rw [hI6.out, if_pos hk1]
     have t9 : (a.kind == 1) = true := by rw [hk1]; rfl
     clear hI6 hI5 hk1
     go_wp2_with fail
     have cM := rcheck_gen a.make A n c hf.out.make _ (hit.out.cln (cln_trans hcl0.out hcur.out))
     unfold recVal at cM
     refine cM.mono ?_; rintro e w' ⟨rfl, hq⟩
     go_wp2_with fail
     go_ret
     exact hfin _ _ hI.out (cln_trans (cln_trans hcl0.out hcur.out) hq)
    ·have hI : Hid (checkAct a = 0) := by unfold Hid; rw [hI6.out, if_neg hk1]
     have t9 : (a.kind == 1) = false := by rw [beq_eq_false_iff_ne]; exact hk1
     clear hI6 hI5 hk1
     go_wp2_with fail
     go_ret
     exact hfin 0 _ hI.out (cln_trans hcl0.out hcur.out)
  have t5 : (a.kind != 1) = true := by rw [bne_iff_ne]; exact hk1
  cases hZ : sameRec a.make zeroRec with
  | false =>
   have hI : Hid (checkAct a = 4) := by unfold Hid; rw [hI2.out, if_pos (by unfold bareA; rw [hM.out, hZ]; simp [hk1])]
   clear hI2 hJ2 hM hp3 hk1
   go_wp2_with fail
   refine (hS _ (cln_trans hcl0.out hcur.out)).mono ?_; rintro e w' ⟨rfl, hq⟩; rw [hZ]
   go_wp2_with fail
   go_ret
   exact hfin 4 _ hI.out (cln_trans (cln_trans hcl0.out hcur.out) hq)
  | true =>
   have hB : Hid (bareA a = true) := by unfold Hid bareA; rw [hM.out, hp3.out, hZ]; simp
   have hI3 := hJ2 hB
   clear hI2 hJ2 hB hM hp3 hk1
   go_wp2_with fail
   refine (hS _ (cln_trans hcl0.out hcur.out)).mono ?_; rintro e w' ⟨rfl, hq⟩; rw [hZ]
   have hcur := Lib.hid (cln_trans hcur.out hq)
   clear hq uA lA
   have uA := (hA0.out.cln hcur.out).cell
   have lA := (hA0.out.cln hcur.out).lt
   go_wp2_with fail
   refine (ron_any a.kind _).mono ?_; rintro e w' ⟨rfl, hq⟩
   have hcur := Lib.hid (cln_trans hcur.out hq)
   clear hq uA lA
   have uA := (hA0.out.cln hcur.out).cell
   have lA := (hA0.out.cln hcur.out).lt
   by_cases ho : onOf a.kind = 1
   ·have t11 : (((onOf a.kind : Nat) : Int) == 1) = true := by rw [ho]; rfl
    have t12 : (((onOf a.kind : Nat) : Int) != 1) = false := by rw [ho]; rfl
    have hmo : Hid (mostOf a.kind = 64) := by unfold Hid mostOf; rw [if_pos ho]
    by_cases hlen : 64 < a.s.length
    ·have t13 : decide (64 < (a.s.length : Int)) = true := decide_eq_true (by omega)
     have hI : Hid (checkAct a = 3) := by unfold Hid; rw [hI3.out, hmo.out, if_pos hlen]
     clear hI3 ho hlen
     go_wp2_with fail
     go_ret
     exact hfin 3 _ hI.out (cln_trans hcl0.out hcur.out)
    have t13 : decide (64 < (a.s.length : Int)) = false := decide_eq_false (by omega)
    have hI4 : Hid (checkAct a = if (a.kind = 10 ∨ a.kind = 11) ∧ (a.n < 0 ∨ 2305843009213693952 < a.n) then 1 else if fproper a.x = false then 4 else if a.kind = 1 then checkRec a.make else 0) := by unfold Hid; rw [hI3.out, hmo.out, if_neg hlen]
    clear hI3 ho hlen hmo
    go_wp2_with fail
    refine (ron_any a.kind _).mono ?_; rintro e w' ⟨rfl, hq⟩
    have hcur := Lib.hid (cln_trans hcur.out hq)
    clear hq uA lA
    have uA := (hA0.out.cln hcur.out).cell
    have lA := (hA0.out.cln hcur.out).lt
    by_cases hk10 : a.kind = 10
    ·have t6 : (a.kind == 10) = true := by rw [beq_iff_eq]; exact hk10
     have hkk := Lib.hid hk10
     by_cases h5 : a.n < 0
     ·have hI : Hid (checkAct a = 1) := by unfold Hid; rw [hI4.out, if_pos ⟨by omega, .inl h5⟩]
      have t7 : decide (a.n < 0) = true := decide_eq_true h5
      clear hI4 hk10 h5
      go_wp2_with fail
      go_ret
      exact hfin 1 _ hI.out (cln_trans hcl0.out hcur.out)
     have t7 : decide (a.n < 0) = false := decide_eq_false h5
     by_cases h6 : 2305843009213693952 < a.n
     ·have hI : Hid (checkAct a = 1) := by unfold Hid; rw [hI4.out, if_pos ⟨by omega, .inr h6⟩]
      have t8 : decide (2305843009213693952 < a.n) = true := decide_eq_true h6
      clear hI4 hk10 h5 h6
      go_wp2_with fail
      go_ret
      exact hfin 1 _ hI.out (cln_trans hcl0.out hcur.out)
     have t8 : decide (2305843009213693952 < a.n) = false := decide_eq_false h6
     have hI5 : Hid (checkAct a = if fproper a.x = false then 4 else if a.kind = 1 then checkRec a.make else 0) := by unfold Hid; rw [hI4.out, if_neg (by omega)]
     clear hI4 hk10 h5 h6
     go_wp2_with fail
     refine (rproper_any a.x hx _).mono ?_; rintro e w' ⟨rfl, rfl⟩
     cases hP : fproper a.x with
     | false =>
      have hI : Hid (checkAct a = 4) := by unfold Hid; rw [hI5.out, if_pos hP]
      go_wp2_with fail
      go_ret
      exact hfin 4 _ hI.out (cln_trans hcl0.out hcur.out)
     | true =>
      have hI : Hid (checkAct a = 0) := by unfold Hid; rw [hI5.out, if_neg (by rw [hP]; decide), if_neg (by have := hkk.out; omega)]
      have t9 : (a.kind == 1) = false := by rw [beq_eq_false_iff_ne]; have := hkk.out; omega
      go_wp2_with fail
      go_ret
      exact hfin 0 _ hI.out (cln_trans hcl0.out hcur.out)
    by_cases hk11 : a.kind = 11
    ·have t5 : (a.kind == 10) = false := by rw [beq_eq_false_iff_ne]; omega
     have t6 : (a.kind == 11) = true := by rw [beq_iff_eq]; exact hk11
     have hkk := Lib.hid hk11
     by_cases h5 : a.n < 0
     ·have hI : Hid (checkAct a = 1) := by unfold Hid; rw [hI4.out, if_pos ⟨by omega, .inl h5⟩]
      have t7 : decide (a.n < 0) = true := decide_eq_true h5
      clear hI4 hk11 h5
      go_wp2_with fail
      go_ret
      exact hfin 1 _ hI.out (cln_trans hcl0.out hcur.out)
     have t7 : decide (a.n < 0) = false := decide_eq_false h5
     by_cases h6 : 2305843009213693952 < a.n
     ·have hI : Hid (checkAct a = 1) := by unfold Hid; rw [hI4.out, if_pos ⟨by omega, .inr h6⟩]
      have t8 : decide (2305843009213693952 < a.n) = true := decide_eq_true h6
      clear hI4 hk11 h5 h6
      go_wp2_with fail
      go_ret
      exact hfin 1 _ hI.out (cln_trans hcl0.out hcur.out)
     have t8 : decide (2305843009213693952 < a.n) = false := decide_eq_false h6
     have hI5 : Hid (checkAct a = if fproper a.x = false then 4 else if a.kind = 1 then checkRec a.make else 0) := by unfold Hid; rw [hI4.out, if_neg (by omega)]
     clear hI4 hk11 h5 h6
     go_wp2_with fail
     refine (rproper_any a.x hx _).mono ?_; rintro e w' ⟨rfl, rfl⟩
     cases hP : fproper a.x with
     | false =>
      have hI : Hid (checkAct a = 4) := by unfold Hid; rw [hI5.out, if_pos hP]
      go_wp2_with fail
      go_ret
      exact hfin 4 _ hI.out (cln_trans hcl0.out hcur.out)
     | true =>
      have hI : Hid (checkAct a = 0) := by unfold Hid; rw [hI5.out, if_neg (by rw [hP]; decide), if_neg (by have := hkk.out; omega)]
      have t9 : (a.kind == 1) = false := by rw [beq_eq_false_iff_ne]; have := hkk.out; omega
      go_wp2_with fail
      go_ret
      exact hfin 0 _ hI.out (cln_trans hcl0.out hcur.out)
    have t5 : (a.kind == 10) = false := by rw [beq_eq_false_iff_ne]; exact hk10
    have t6 : (a.kind == 11) = false := by rw [beq_eq_false_iff_ne]; exact hk11
    have hI5 : Hid (checkAct a = if fproper a.x = false then 4 else if a.kind = 1 then checkRec a.make else 0) := by unfold Hid; rw [hI4.out, if_neg (by omega)]
    clear hI4 hk10 hk11
    go_wp2_with fail
    refine (rproper_any a.x hx _).mono ?_; rintro e w' ⟨rfl, rfl⟩
    cases hP : fproper a.x with
    | false =>
     have hI : Hid (checkAct a = 4) := by unfold Hid; rw [hI5.out, if_pos hP]
     go_wp2_with fail
     go_ret
     exact hfin 4 _ hI.out (cln_trans hcl0.out hcur.out)
    | true =>
     have hI6 : Hid (checkAct a = if a.kind = 1 then checkRec a.make else 0) := by unfold Hid; rw [hI5.out, if_neg (by rw [hP]; decide)]
     by_cases hk1 : a.kind = 1
     ·have hI : Hid (checkAct a = checkRec a.make) := by unfold Hid; rw [hI6.out, if_pos hk1]
      have t9 : (a.kind == 1) = true := by rw [hk1]; rfl
      clear hI6 hI5 hk1
      go_wp2_with fail
      have cM := rcheck_gen a.make A n c hf.out.make _ (hit.out.cln (cln_trans hcl0.out hcur.out))
      unfold recVal at cM
      refine cM.mono ?_; rintro e w' ⟨rfl, hq⟩
      go_wp2_with fail
      go_ret
      exact hfin _ _ hI.out (cln_trans (cln_trans hcl0.out hcur.out) hq)
     ·have hI : Hid (checkAct a = 0) := by unfold Hid; rw [hI6.out, if_neg hk1]
      have t9 : (a.kind == 1) = false := by rw [beq_eq_false_iff_ne]; exact hk1
      clear hI6 hI5 hk1
      go_wp2_with fail
      go_ret
      exact hfin 0 _ hI.out (cln_trans hcl0.out hcur.out)
   have t11 : (((onOf a.kind : Nat) : Int) == 1) = false := by rw [beq_eq_false_iff_ne]; omega
   have t12 : (((onOf a.kind : Nat) : Int) != 1) = true := by rw [bne_iff_ne]; omega
   have hmo : Hid (mostOf a.kind = 16) := by unfold Hid mostOf; rw [if_neg ho]
   go_wp2_with fail
   refine (ron_any a.kind _).mono ?_; rintro e w' ⟨rfl, hq⟩
   have hcur := Lib.hid (cln_trans hcur.out hq)
   clear hq uA lA
   have uA := (hA0.out.cln hcur.out).cell
   have lA := (hA0.out.cln hcur.out).lt
   by_cases hlen : 16 < a.s.length
   ·have t13 : decide (16 < (a.s.length : Int)) = true := decide_eq_true (by omega)
    have hI : Hid (checkAct a = 3) := by unfold Hid; rw [hI3.out, hmo.out, if_pos hlen]
    clear hI3 ho hlen
    go_wp2_with fail
    go_ret
    exact hfin 3 _ hI.out (cln_trans hcl0.out hcur.out)
   have t13 : decide (16 < (a.s.length : Int)) = false := decide_eq_false (by omega)
   have hI4 : Hid (checkAct a = if (a.kind = 10 ∨ a.kind = 11) ∧ (a.n < 0 ∨ 2305843009213693952 < a.n) then 1 else if fproper a.x = false then 4 else if a.kind = 1 then checkRec a.make else 0) := by unfold Hid; rw [hI3.out, hmo.out, if_neg hlen]
   clear hI3 ho hlen hmo
   by_cases hk10 : a.kind = 10
   ·have t6 : (a.kind == 10) = true := by rw [beq_iff_eq]; exact hk10
    have hkk := Lib.hid hk10
    by_cases h5 : a.n < 0
    ·have hI : Hid (checkAct a = 1) := by unfold Hid; rw [hI4.out, if_pos ⟨by omega, .inl h5⟩]
     have t7 : decide (a.n < 0) = true := decide_eq_true h5
     clear hI4 hk10 h5
     go_wp2_with fail
     go_ret
     exact hfin 1 _ hI.out (cln_trans hcl0.out hcur.out)
    have t7 : decide (a.n < 0) = false := decide_eq_false h5
    by_cases h6 : 2305843009213693952 < a.n
    ·have hI : Hid (checkAct a = 1) := by unfold Hid; rw [hI4.out, if_pos ⟨by omega, .inr h6⟩]
     have t8 : decide (2305843009213693952 < a.n) = true := decide_eq_true h6
     clear hI4 hk10 h5 h6
     go_wp2_with fail
     go_ret
     exact hfin 1 _ hI.out (cln_trans hcl0.out hcur.out)
    have t8 : decide (2305843009213693952 < a.n) = false := decide_eq_false h6
    have hI5 : Hid (checkAct a = if fproper a.x = false then 4 else if a.kind = 1 then checkRec a.make else 0) := by unfold Hid; rw [hI4.out, if_neg (by omega)]
    clear hI4 hk10 h5 h6
    go_wp2_with fail
    refine (rproper_any a.x hx _).mono ?_; rintro e w' ⟨rfl, rfl⟩
    cases hP : fproper a.x with
    | false =>
     have hI : Hid (checkAct a = 4) := by unfold Hid; rw [hI5.out, if_pos hP]
     go_wp2_with fail
     go_ret
     exact hfin 4 _ hI.out (cln_trans hcl0.out hcur.out)
    | true =>
     have hI : Hid (checkAct a = 0) := by unfold Hid; rw [hI5.out, if_neg (by rw [hP]; decide), if_neg (by have := hkk.out; omega)]
     have t9 : (a.kind == 1) = false := by rw [beq_eq_false_iff_ne]; have := hkk.out; omega
     go_wp2_with fail
     go_ret
     exact hfin 0 _ hI.out (cln_trans hcl0.out hcur.out)
   by_cases hk11 : a.kind = 11
   ·have t5 : (a.kind == 10) = false := by rw [beq_eq_false_iff_ne]; omega
    have t6 : (a.kind == 11) = true := by rw [beq_iff_eq]; exact hk11
    have hkk := Lib.hid hk11
    by_cases h5 : a.n < 0
    ·have hI : Hid (checkAct a = 1) := by unfold Hid; rw [hI4.out, if_pos ⟨by omega, .inl h5⟩]
     have t7 : decide (a.n < 0) = true := decide_eq_true h5
     clear hI4 hk11 h5
     go_wp2_with fail
     go_ret
     exact hfin 1 _ hI.out (cln_trans hcl0.out hcur.out)
    have t7 : decide (a.n < 0) = false := decide_eq_false h5
    by_cases h6 : 2305843009213693952 < a.n
    ·have hI : Hid (checkAct a = 1) := by unfold Hid; rw [hI4.out, if_pos ⟨by omega, .inr h6⟩]
     have t8 : decide (2305843009213693952 < a.n) = true := decide_eq_true h6
     clear hI4 hk11 h5 h6
     go_wp2_with fail
     go_ret
     exact hfin 1 _ hI.out (cln_trans hcl0.out hcur.out)
    have t8 : decide (2305843009213693952 < a.n) = false := decide_eq_false h6
    have hI5 : Hid (checkAct a = if fproper a.x = false then 4 else if a.kind = 1 then checkRec a.make else 0) := by unfold Hid; rw [hI4.out, if_neg (by omega)]
    clear hI4 hk11 h5 h6
    go_wp2_with fail
    refine (rproper_any a.x hx _).mono ?_; rintro e w' ⟨rfl, rfl⟩
    cases hP : fproper a.x with
    | false =>
     have hI : Hid (checkAct a = 4) := by unfold Hid; rw [hI5.out, if_pos hP]
     go_wp2_with fail
     go_ret
     exact hfin 4 _ hI.out (cln_trans hcl0.out hcur.out)
    | true =>
     have hI : Hid (checkAct a = 0) := by unfold Hid; rw [hI5.out, if_neg (by rw [hP]; decide), if_neg (by have := hkk.out; omega)]
     have t9 : (a.kind == 1) = false := by rw [beq_eq_false_iff_ne]; have := hkk.out; omega
     go_wp2_with fail
     go_ret
     exact hfin 0 _ hI.out (cln_trans hcl0.out hcur.out)
   have t5 : (a.kind == 10) = false := by rw [beq_eq_false_iff_ne]; exact hk10
   have t6 : (a.kind == 11) = false := by rw [beq_eq_false_iff_ne]; exact hk11
   have hI5 : Hid (checkAct a = if fproper a.x = false then 4 else if a.kind = 1 then checkRec a.make else 0) := by unfold Hid; rw [hI4.out, if_neg (by omega)]
   clear hI4 hk10 hk11
   go_wp2_with fail
   refine (rproper_any a.x hx _).mono ?_; rintro e w' ⟨rfl, rfl⟩
   cases hP : fproper a.x with
   | false =>
    have hI : Hid (checkAct a = 4) := by unfold Hid; rw [hI5.out, if_pos hP]
    go_wp2_with fail
    go_ret
    exact hfin 4 _ hI.out (cln_trans hcl0.out hcur.out)
   | true =>
    have hI6 : Hid (checkAct a = if a.kind = 1 then checkRec a.make else 0) := by unfold Hid; rw [hI5.out, if_neg (by rw [hP]; decide)]
    by_cases hk1 : a.kind = 1
    ·have hI : Hid (checkAct a = checkRec a.make) := by unfold Hid; rw [hI6.out, if_pos hk1]
     have t9 : (a.kind == 1) = true := by rw [hk1]; rfl
     clear hI6 hI5 hk1
     go_wp2_with fail
     have cM := rcheck_gen a.make A n c hf.out.make _ (hit.out.cln (cln_trans hcl0.out hcur.out))
     unfold recVal at cM
     refine cM.mono ?_; rintro e w' ⟨rfl, hq⟩
     go_wp2_with fail
     go_ret
     exact hfin _ _ hI.out (cln_trans (cln_trans hcl0.out hcur.out) hq)
    ·have hI : Hid (checkAct a = 0) := by unfold Hid; rw [hI6.out, if_neg hk1]
     have t9 : (a.kind == 1) = false := by rw [beq_eq_false_iff_ne]; exact hk1
     clear hI6 hI5 hk1
     go_wp2_with fail
     go_ret
     exact hfin 0 _ hI.out (cln_trans hcl0.out hcur.out)
 clear hK2
 go_wp2_with (first
  |(go_at_call 106; (first | with_reducible refine (f110 _).mono ?_ | with_reducible refine (f120 _).mono ?_ | with_reducible refine (f115 _).mono ?_); rintro e w' ⟨rfl, hq⟩; have hcur := Lib.hid (cln_trans hcur.out hq); clear hq uA lA; have uA := (hA0.out.cln hcur.out).cell; have lA := (hA0.out.cln hcur.out).lt)
  |(go_at_call 98; refine (rsame_any _ _ hx (by omega) _).mono ?_; rintro e w' ⟨rfl, rfl⟩))
 all_goals first
  | exact hJ _ _ _ _ _ _ _ _ _ _ _ _ _ _ _ _ _ _ _ _ _ _ _ _ _ _ _ _ _ _ _ _ _ _ _ _ _ _ _ _ _ _ _ _ _ _ _ _ _ _ _ _ _ _ _ _ _ _ _ _ _ _ _ _ _ _ _ _ _ _ _ _ _ _ _ _ _ _ _ _ _ _ _ _ _ _ _ _ _ _ _ _ _ _ _ _ _ _ _ _ _ _ _ _ _ _ _ _ _ _ _ _ (by clear hJ f110 f120 f115 hS uA lA hA0 hit hf hcl0 hcur hfin hI2; simp_all) hcur.out
  |(go_ret; refine hfin 4 _ ?_ (cln_trans hcl0.out hcur.out); rw [hI2.out, if_pos]; clear hJ f110 f120 f115 hS uA lA hA0 hit hf hcl0 hcur hfin hI2; simp_all [bareA])
end Go.Proofs.YtoeoodiifpoomaaGreatDoor
