/- The walk of the document's Same of records. (Printed by wip/tools/gen_rsame.py.) -/
import Derived.Test.YtoeoodiifpoomaaGreatDoorRecs
import Derived.Test.YtoeoodiifpoomaaGreatDoorChecks2
import Derived.StillTailTactics
set_option linter.unusedSimpArgs false
set_option linter.unusedVariables false
set_option maxRecDepth 20000
namespace Go.Proofs.YtoeoodiifpoomaaGreatDoor
open Go.RowKit Moi
attribute [local go_sem] toList_str str_size less_ltB store_float
set_option maxHeartbeats 8000000 in
theorem recsame_any (a b : MRec) (A B : Option Addr) (n c k d : Nat) (w : World) (hr : RdItems w A n a.list) (hs : RdItems w B k b.list) (hn : n ≤ 140737488355328) (hk : k ≤ 140737488355328)
    (ha : a.real < 18446744073709551616) (hb : b.real < 18446744073709551616) :
    Calls Tryz.prog 99 #[recVal a A n c, recVal b B k d] w fun e w' => e = .returned (.bool (sameRec a b)) ∧ Cln w w' := by
  cases h0 : (a.kind != b.kind) with
  | true =>
    have hF : Hid (sameRec a b = false) := by unfold Hid; have := bne_iff_ne.mp h0; simp [sameRec, this]
    unfold recVal
    go_enter Tryz.func99, Tryz.ntmps99
    go_wp2_with fail
    go_ret
    exact ⟨ret_bool (hF.out.symm), by (repeat (first | (with_reducible exact Below.refl _ _) | (with_reducible assumption) | (with_reducible refine Below.setCell ?_ (by first | omega | (simp; done) | (simp; omega)) _) | (with_reducible refine Below.alloc ?_ (by first | omega | (simp; done) | (simp; omega)) _) | (with_reducible refine Below.drew ?_) | (with_reducible refine below_drewN ?_ _)))⟩
  | false =>
  cases h1 : (a.num != b.num) with
  | true =>
    have hF : Hid (sameRec a b = false) := by unfold Hid; have := bne_iff_ne.mp h1; simp [sameRec, this]
    unfold recVal
    go_enter Tryz.func99, Tryz.ntmps99
    go_wp2_with fail
    go_ret
    exact ⟨ret_bool (hF.out.symm), by (repeat (first | (with_reducible exact Below.refl _ _) | (with_reducible assumption) | (with_reducible refine Below.setCell ?_ (by first | omega | (simp; done) | (simp; omega)) _) | (with_reducible refine Below.alloc ?_ (by first | omega | (simp; done) | (simp; omega)) _) | (with_reducible refine Below.drew ?_) | (with_reducible refine below_drewN ?_ _)))⟩
  | false =>
  cases h2 : (a.low != b.low) with
  | true =>
    have hF : Hid (sameRec a b = false) := by unfold Hid; have := bne_iff_ne.mp h2; simp [sameRec, this]
    unfold recVal
    go_enter Tryz.func99, Tryz.ntmps99
    go_wp2_with fail
    go_ret
    exact ⟨ret_bool (hF.out.symm), by (repeat (first | (with_reducible exact Below.refl _ _) | (with_reducible assumption) | (with_reducible refine Below.setCell ?_ (by first | omega | (simp; done) | (simp; omega)) _) | (with_reducible refine Below.alloc ?_ (by first | omega | (simp; done) | (simp; omega)) _) | (with_reducible refine Below.drew ?_) | (with_reducible refine below_drewN ?_ _)))⟩
  | false =>
  cases h3 : (a.high != b.high) with
  | true =>
    have hF : Hid (sameRec a b = false) := by unfold Hid; have := bne_iff_ne.mp h3; simp [sameRec, this]
    unfold recVal
    go_enter Tryz.func99, Tryz.ntmps99
    go_wp2_with fail
    go_ret
    exact ⟨ret_bool (hF.out.symm), by (repeat (first | (with_reducible exact Below.refl _ _) | (with_reducible assumption) | (with_reducible refine Below.setCell ?_ (by first | omega | (simp; done) | (simp; omega)) _) | (with_reducible refine Below.alloc ?_ (by first | omega | (simp; done) | (simp; omega)) _) | (with_reducible refine Below.drew ?_) | (with_reducible refine below_drewN ?_ _)))⟩
  | false =>
  cases h4 : (a.cap != b.cap) with
  | true =>
    have hF : Hid (sameRec a b = false) := by unfold Hid; have := bne_iff_ne.mp h4; simp [sameRec, this]
    unfold recVal
    go_enter Tryz.func99, Tryz.ntmps99
    go_wp2_with fail
    go_ret
    exact ⟨ret_bool (hF.out.symm), by (repeat (first | (with_reducible exact Below.refl _ _) | (with_reducible assumption) | (with_reducible refine Below.setCell ?_ (by first | omega | (simp; done) | (simp; omega)) _) | (with_reducible refine Below.alloc ?_ (by first | omega | (simp; done) | (simp; omega)) _) | (with_reducible refine Below.drew ?_) | (with_reducible refine below_drewN ?_ _)))⟩
  | false =>
  cases h5 : (a.text == b.text) with
  | false =>
    have hF : Hid (sameRec a b = false) := by unfold Hid; simp [sameRec, h5]
    unfold recVal
    go_enter Tryz.func99, Tryz.ntmps99
    go_wp2_with fail
    go_ret
    exact ⟨ret_bool (hF.out.symm), by (repeat (first | (with_reducible exact Below.refl _ _) | (with_reducible assumption) | (with_reducible refine Below.setCell ?_ (by first | omega | (simp; done) | (simp; omega)) _) | (with_reducible refine Below.alloc ?_ (by first | omega | (simp; done) | (simp; omega)) _) | (with_reducible refine Below.drew ?_) | (with_reducible refine below_drewN ?_ _)))⟩
  | true =>
  have e0 : a.kind = b.kind := by simpa using h0
  have e1 : a.num = b.num := by simpa using h1
  have e2 : a.low = b.low := by simpa using h2
  have e3 : a.high = b.high := by simpa using h3
  have e4 : a.cap = b.cap := by simpa using h4
  have e5 : a.text = b.text := by simpa using h5
  have hE : Hid (sameRec a b = (fsame a.real b.real && sameItems a.list b.list)) := by unfold Hid; simp [sameRec, e0, e1, e2, e3, e4, e5]
  clear e0 e1 e2 e3 e4 e5
  cases hS : fsame a.real b.real with
  | false =>
    have hF : Hid (sameRec a b = false) := by unfold Hid; rw [hE.out, hS]; rfl
    clear hE
    unfold recVal
    go_enter Tryz.func99, Tryz.ntmps99
    go_wp2_with (go_at_call 98; refine (rsame_any _ _ ha hb _).mono ?_; rintro e w' ⟨rfl, rfl⟩)
    go_ret
    exact ⟨ret_bool hF.out.symm, by (repeat (first | (with_reducible exact Below.refl _ _) | (with_reducible assumption) | (with_reducible refine Below.setCell ?_ (by first | omega | (simp; done) | (simp; omega)) _) | (with_reducible refine Below.alloc ?_ (by first | omega | (simp; done) | (simp; omega)) _) | (with_reducible refine Below.drew ?_) | (with_reducible refine below_drewN ?_ _)))⟩
  | true =>
  cases hN : ((n : Int) != (k : Int)) with
  | true =>
    have hF : Hid (sameRec a b = false) := by unfold Hid; rw [hE.out, hS, sameItems_len a.list b.list (by rw [hr.len, hs.len]; have := bne_iff_ne.mp hN; omega)]; rfl
    clear hE
    unfold recVal
    go_enter Tryz.func99, Tryz.ntmps99
    go_wp2_with (go_at_call 98; refine (rsame_any _ _ ha hb _).mono ?_; rintro e w' ⟨rfl, rfl⟩)
    go_ret
    exact ⟨ret_bool hF.out.symm, by (repeat (first | (with_reducible exact Below.refl _ _) | (with_reducible assumption) | (with_reducible refine Below.setCell ?_ (by first | omega | (simp; done) | (simp; omega)) _) | (with_reducible refine Below.alloc ?_ (by first | omega | (simp; done) | (simp; omega)) _) | (with_reducible refine Below.drew ?_) | (with_reducible refine below_drewN ?_ _)))⟩
  | false =>
  obtain rfl : n = k := by have : (n : Int) = k := by simpa using hN
                           omega
  have hE : Hid (sameRec a b = sameItems a.list b.list) := by unfold Hid; rw [hE.out, hS]; rfl
  have hr := hr.cln (w' := (w.alloc (.cells #[.int .i64 a.kind, .int .i64 a.num, .int .i64 a.low, .int .i64 a.high, .float .f64 a.real, .int .i64 a.cap, .string (str a.text), .slice A n c] 83)).alloc (.cells #[.int .i64 b.kind, .int .i64 b.num, .int .i64 b.low, .int .i64 b.high, .float .f64 b.real, .int .i64 b.cap, .string (str b.text), .slice B n d] 83)) (by (repeat (first | (with_reducible exact Below.refl _ _) | (with_reducible assumption) | (with_reducible refine Below.setCell ?_ (by first | omega | (simp; done) | (simp; omega)) _) | (with_reducible refine Below.alloc ?_ (by first | omega | (simp; done) | (simp; omega)) _) | (with_reducible refine Below.drew ?_) | (with_reducible refine below_drewN ?_ _))))
  have hs := hs.cln (w' := (w.alloc (.cells #[.int .i64 a.kind, .int .i64 a.num, .int .i64 a.low, .int .i64 a.high, .float .f64 a.real, .int .i64 a.cap, .string (str a.text), .slice A n c] 83)).alloc (.cells #[.int .i64 b.kind, .int .i64 b.num, .int .i64 b.low, .int .i64 b.high, .float .f64 b.real, .int .i64 b.cap, .string (str b.text), .slice B n d] 83)) (by (repeat (first | (with_reducible exact Below.refl _ _) | (with_reducible assumption) | (with_reducible refine Below.setCell ?_ (by first | omega | (simp; done) | (simp; omega)) _) | (with_reducible refine Below.alloc ?_ (by first | omega | (simp; done) | (simp; omega)) _) | (with_reducible refine Below.drew ?_) | (with_reducible refine below_drewN ?_ _))))
  unfold recVal
  go_enter Tryz.func99, Tryz.ntmps99
  go_wp2_with (go_at_call 98; refine (rsame_any _ _ ha hb _).mono ?_; rintro e w' ⟨rfl, rfl⟩)
  go_loopw [5] (fun v wr => ∃ i : Nat, i ≤ n ∧ v = .int .i64 (i : Nat) ∧ Cln w wr ∧ RdItems wr A n a.list ∧ RdItems wr B n b.list ∧ wr.cell? ⟨w.heap.size, 7, none⟩ = some (.slice A n c) ∧ wr.cell? ⟨w.heap.size + 1, 7, none⟩ = some (.slice B n d) ∧ Hid (sameItems a.list b.list = sameItems (a.list.drop i) (b.list.drop i))) (fun v _ => (n - intOf v).toNat)
  case atStart => exact ⟨0, Nat.zero_le _, rfl, by (repeat (first | (with_reducible exact Below.refl _ _) | (with_reducible assumption) | (with_reducible refine Below.setCell ?_ (by first | omega | (simp; done) | (simp; omega)) _) | (with_reducible refine Below.alloc ?_ (by first | omega | (simp; done) | (simp; omega)) _) | (with_reducible refine Below.drew ?_) | (with_reducible refine below_drewN ?_ _))), hr.cln (by (repeat (first | (with_reducible exact Below.refl _ _) | (with_reducible assumption) | (with_reducible refine Below.setCell ?_ (by first | omega | (simp; done) | (simp; omega)) _) | (with_reducible refine Below.alloc ?_ (by first | omega | (simp; done) | (simp; omega)) _) | (with_reducible refine Below.drew ?_) | (with_reducible refine below_drewN ?_ _)))), hs.cln (by (repeat (first | (with_reducible exact Below.refl _ _) | (with_reducible assumption) | (with_reducible refine Below.setCell ?_ (by first | omega | (simp; done) | (simp; omega)) _) | (with_reducible refine Below.alloc ?_ (by first | omega | (simp; done) | (simp; omega)) _) | (with_reducible refine Below.drew ?_) | (with_reducible refine below_drewN ?_ _)))), by first | rfl | assumption | (simp; done), by first | rfl | assumption | (simp; done), rfl⟩
  case round =>
    clear hr hs h0 h1 h2 h3 h4 h5
    obtain ⟨i, hi, rfl, hq, hr, hs, c7, d7, hH⟩ := hrel
    by_cases hlt : i < n
    · obtain ⟨b1, o, rfl, hblt, hcell⟩ := hr.cells (by omega)
      obtain ⟨b2, o2, rfl, hblt2, hcell2⟩ := hs.cells (by omega)
      obtain ⟨hc0, hc1⟩ := hcell i hlt
      obtain ⟨hd0, hd1⟩ := hcell2 i hlt
      have hstep := Lib.hid (hH.out.trans (sameItems_take a.list b.list i (by rw [hr.len]; exact hlt) (by rw [hs.len]; exact hlt)))
      have hx := hr.wf i
      have hy := hs.wf i
      clear hcell hcell2 hH
      generalize itAt a.list i = x at hc0 hc1 hstep hx
      generalize itAt b.list i = y at hd0 hd1 hstep hy
      have hq := Lib.hid hq
      have hr := Lib.hid hr
      have hs := Lib.hid hs
      cases hX : (x.name == y.name) with
      | false =>
        have hF : Hid (sameItem x y = false) := by unfold Hid; simp [sameItem, hX]
        go_wp2_with fail
        go_quiet (fail)
        go_wp2_with fail
        go_ret
        exact ⟨ret_bool (by rw [hE.out, hstep.out, hF.out, Bool.false_and]), cln_trans hq.out (by (repeat (first | (with_reducible exact Below.refl _ _) | (with_reducible assumption) | (with_reducible refine Below.setCell ?_ (by first | omega | (simp; done) | (simp; omega)) _) | (with_reducible refine Below.alloc ?_ (by first | omega | (simp; done) | (simp; omega)) _) | (with_reducible refine Below.drew ?_) | (with_reducible refine below_drewN ?_ _))))⟩
      | true =>
        have hF : Hid (sameItem x y = fsame x.score y.score) := by
          unfold Hid; have e : x.name = y.name := by simpa using hX
          simp [sameItem, e]
        cases hZ : fsame x.score y.score with
        | true =>
          go_wp2_with fail
          (refine region_tail 26 (by kernel_rfl) (by kernel_rfl) ?_; simp only [List.take_succ_cons, List.take_zero, List.drop_succ_cons, List.drop_zero]; (repeat still_step); refine wpStill_nil ?_)
          go_wp2_with (go_at_call 98; refine (rsame_any _ _ hx hy _).mono ?_; rintro e w' ⟨rfl, rfl⟩)
          go_roundw
          case rel => exact ⟨i + 1, hlt, by go_num, cln_trans hq.out (by (repeat (first | (with_reducible exact Below.refl _ _) | (with_reducible assumption) | (with_reducible refine Below.setCell ?_ (by first | omega | (simp; done) | (simp; omega)) _) | (with_reducible refine Below.alloc ?_ (by first | omega | (simp; done) | (simp; omega)) _) | (with_reducible refine Below.drew ?_) | (with_reducible refine below_drewN ?_ _)))), hr.out.cln (by (repeat (first | (with_reducible exact Below.refl _ _) | (with_reducible assumption) | (with_reducible refine Below.setCell ?_ (by first | omega | (simp; done) | (simp; omega)) _) | (with_reducible refine Below.alloc ?_ (by first | omega | (simp; done) | (simp; omega)) _) | (with_reducible refine Below.drew ?_) | (with_reducible refine below_drewN ?_ _)))), hs.out.cln (by (repeat (first | (with_reducible exact Below.refl _ _) | (with_reducible assumption) | (with_reducible refine Below.setCell ?_ (by first | omega | (simp; done) | (simp; omega)) _) | (with_reducible refine Below.alloc ?_ (by first | omega | (simp; done) | (simp; omega)) _) | (with_reducible refine Below.drew ?_) | (with_reducible refine below_drewN ?_ _)))), by first | rfl | assumption | (simp; done), by first | rfl | assumption | (simp; done), by unfold Hid; rw [hstep.out, hF.out, hZ, Bool.true_and]⟩
          case measure => simp [intOf]; omega
        | false =>
          go_wp2_with fail
          (refine region_tail 26 (by kernel_rfl) (by kernel_rfl) ?_; simp only [List.take_succ_cons, List.take_zero, List.drop_succ_cons, List.drop_zero]; (repeat still_step); refine wpStill_nil ?_)
          go_wp2_with (go_at_call 98; refine (rsame_any _ _ hx hy _).mono ?_; rintro e w' ⟨rfl, rfl⟩)
          go_ret
          exact ⟨ret_bool (by rw [hE.out, hstep.out, hF.out, hZ, Bool.false_and]), cln_trans hq.out (by (repeat (first | (with_reducible exact Below.refl _ _) | (with_reducible assumption) | (with_reducible refine Below.setCell ?_ (by first | omega | (simp; done) | (simp; omega)) _) | (with_reducible refine Below.alloc ?_ (by first | omega | (simp; done) | (simp; omega)) _) | (with_reducible refine Below.drew ?_) | (with_reducible refine below_drewN ?_ _))))⟩
    · obtain rfl : i = n := by omega
      have t2 : decide ((i : Int) < (i : Int)) = false := decide_eq_false (by omega)
      have hz := Lib.hid (show sameItems (a.list.drop i) (b.list.drop i) = true from by rw [List.drop_of_length_le (by rw [hr.len]; exact Nat.le_refl _), List.drop_of_length_le (by rw [hs.len]; exact Nat.le_refl _)]; rfl)
      go_wp2_with fail
      go_ret
      exact ⟨ret_bool (by rw [hE.out, hH.out, hz.out]), cln_trans hq (by (repeat (first | (with_reducible exact Below.refl _ _) | (with_reducible assumption) | (with_reducible refine Below.setCell ?_ (by first | omega | (simp; done) | (simp; omega)) _) | (with_reducible refine Below.alloc ?_ (by first | omega | (simp; done) | (simp; omega)) _) | (with_reducible refine Below.drew ?_) | (with_reducible refine below_drewN ?_ _))))⟩
end Go.Proofs.YtoeoodiifpoomaaGreatDoor
