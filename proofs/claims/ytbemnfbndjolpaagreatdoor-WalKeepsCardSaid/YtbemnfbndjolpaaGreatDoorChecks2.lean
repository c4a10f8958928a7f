import Derived.Test.YtbemnfbndjolpaaGreatDoorRecs
import Derived.Deep.RegionWith
import Derived.StillTailTactics
import Derived.Deep.RegionHeld3
/- The walk of the document's Ahead. -/
set_option linter.unusedSimpArgs false
set_option linter.unusedVariables false
set_option maxRecDepth 20000
namespace Go.Proofs.YtbemnfbndjolpaaGreatDoor
open Go.RowKit Moi
attribute [local go_sem] toList_str str_size less_ltB store_float

theorem ahead_any (a b : MItem) (ha : a.score < 18446744073709551616) (hb : b.score < 18446744073709551616) (w : World) :
  Calls Tryz.prog 121 #[itemVal a, itemVal b] w fun e w' => e = .returned (.bool (better a b)) ∧ Cln w w' := by
 have hsl := Lib.hid (same_less a.score b.score)
 unfold itemVal
 cases h : fless b.score a.score with
 | true =>
  have hbt : Hid (better a b = true) := by unfold Hid better; rw [hsl.out, h]; simp
  go_enter Tryz.func121, Tryz.ntmps121
  go_wp2_with fail
  refine (rless_any _ _ hb ha _).mono ?_; rintro e w' ⟨rfl, rfl⟩
  go_wp2_with fail
  go_ret
  exact ⟨ret_bool hbt.out.symm, by (repeat with_reducible first | exact cR _ | assumption | refine cA ?_ _ | refine cD ?_ | refine cN ?_ _ | refine cS ?_ (by first | omega | (simp <;> omega)) _)⟩
 | false =>
  have hbt : Hid (better a b = (fsame a.score b.score && ltB a.name b.name)) := by
   unfold Hid better; cases fsame a.score b.score <;> simp [h]
  cases h2 : fsame a.score b.score with
  | true =>
   have hbt2 : Hid (better a b = ltB a.name b.name) := by unfold Hid; rw [hbt.out, h2]; rfl
   go_enter Tryz.func121, Tryz.ntmps121
   go_wp2_with fail
   refine (rless_any _ _ hb ha _).mono ?_; rintro e w' ⟨rfl, rfl⟩
   go_wp2_with fail
   refine (rsame_any _ _ ha hb _).mono ?_; rintro e w' ⟨rfl, rfl⟩
   go_wp2_with fail
   go_ret
   exact ⟨ret_bool hbt2.out.symm, by (repeat with_reducible first | exact cR _ | assumption | refine cA ?_ _ | refine cD ?_ | refine cN ?_ _ | refine cS ?_ (by first | omega | (simp <;> omega)) _)⟩
  | false =>
   have hbt2 : Hid (better a b = false) := by unfold Hid; rw [hbt.out, h2]; rfl
   go_enter Tryz.func121, Tryz.ntmps121
   go_wp2_with fail
   refine (rless_any _ _ hb ha _).mono ?_; rintro e w' ⟨rfl, rfl⟩
   go_wp2_with fail
   refine (rsame_any _ _ ha hb _).mono ?_; rintro e w' ⟨rfl, rfl⟩
   go_wp2_with fail
   go_ret
   exact ⟨ret_bool hbt2.out.symm, by (repeat with_reducible first | exact cR _ | assumption | refine cA ?_ _ | refine cD ?_ | refine cN ?_ _ | refine cS ?_ (by first | omega | (simp <;> omega)) _)⟩

set_option maxHeartbeats 4000000 in
theorem item_any (k : Int) (l : List MItem) (A : Option Addr) (n c i : Nat) (w : World) (hr : RdItems w A n l) (hb : n ≤ 140737488355328) (hlt : i < n) :
  Calls Tryz.prog 110 #[.int .i64 k, .slice A n c, .int .i64 (i : Nat)] w fun e w' => e = .returned (.int .i64 (itemErr k (prevOf l i) (itAt l i) : Nat)) ∧ Cln w w' := by
 have hi : i ≤ n := by omega
 obtain ⟨b, o, rfl, hblt, hcell⟩ := hr.cells (by omega)
 obtain ⟨hc0, hc1⟩ := hcell i hlt
 have hx := hr.wf i
 generalize hX : itAt l i = x at hc0 hc1 hx
 clear hX
 have hcell' := Lib.hid hcell; clear hcell
 by_cases hlen : 16 < x.name.length
 ·have hE : Hid (itemErr k (prevOf l i) x = 3) := by unfold Hid itemErr; rw [if_pos hlen]
  have t1 : decide (16 < (x.name.length : Int)) = true := decide_eq_true (by omega)
  clear hlen hcell'
  go_enter Tryz.func110, Tryz.ntmps110
  go_wp2_with fail
  go_ret
  refine ⟨ret_int (by rw [hE.out]; rfl), ?_⟩
  (repeat with_reducible first | exact cR _ | assumption | refine cA ?_ _ | refine cD ?_ | refine cN ?_ _ | refine cS ?_ (by first | omega | (simp <;> omega)) _)
 ·have t1 : decide (16 < (x.name.length : Int)) = false := decide_eq_false (by omega)
  have hlen' := Lib.hid hlen; clear hlen
  by_cases hS : k = 8 ∧ fsame x.score 0 = false
  ·have hE : Hid (itemErr k (prevOf l i) x = 4) := by unfold Hid itemErr; rw [if_neg hlen'.out, if_pos (.inl hS)]
   obtain ⟨hk8, t3⟩ := hS
   have t2 : (k == 8) = true := by rw [beq_iff_eq]; exact hk8
   clear hcell' hk8
   go_enter Tryz.func110, Tryz.ntmps110
   go_wp2_with (first | (go_at_call 120; refine (zero_any _ hx _).mono ?_; rintro e w' ⟨rfl, rfl⟩) | (go_at_call 81; refine (rproper_any _ hx _).mono ?_; rintro e w' ⟨rfl, rfl⟩))
   go_ret
   refine ⟨ret_int (by rw [hE.out]; rfl), ?_⟩
   (repeat with_reducible first | exact cR _ | assumption | refine cA ?_ _ | refine cD ?_ | refine cN ?_ _ | refine cS ?_ (by first | omega | (simp <;> omega)) _)
  ·cases hP : fproper x.score with
   | false =>
    have hE : Hid (itemErr k (prevOf l i) x = 4) := by unfold Hid itemErr; rw [if_neg hlen'.out, if_pos (.inr hP)]
    clear hcell'
    by_cases hk8 : k = 8
    ·have t2 : (k == 8) = true := by rw [beq_iff_eq]; exact hk8
     have t3 : fsame x.score 0 = true := by
      cases h : fsame x.score 0 with
      | true => rfl
      | false => exact absurd ⟨hk8, h⟩ hS
     clear hS hk8
     go_enter Tryz.func110, Tryz.ntmps110
     go_wp2_with (first | (go_at_call 120; refine (zero_any _ hx _).mono ?_; rintro e w' ⟨rfl, rfl⟩) | (go_at_call 81; refine (rproper_any _ hx _).mono ?_; rintro e w' ⟨rfl, rfl⟩))
     go_ret
     refine ⟨ret_int (by rw [hE.out]; rfl), ?_⟩
     (repeat with_reducible first | exact cR _ | assumption | refine cA ?_ _ | refine cD ?_ | refine cN ?_ _ | refine cS ?_ (by first | omega | (simp <;> omega)) _)
    ·have t2 : (k == 8) = false := by rw [beq_eq_false_iff_ne]; exact hk8
     clear hS hk8
     go_enter Tryz.func110, Tryz.ntmps110
     go_wp2_with (first | (go_at_call 120; refine (zero_any _ hx _).mono ?_; rintro e w' ⟨rfl, rfl⟩) | (go_at_call 81; refine (rproper_any _ hx _).mono ?_; rintro e w' ⟨rfl, rfl⟩))
     go_ret
     refine ⟨ret_int (by rw [hE.out]; rfl), ?_⟩
     (repeat with_reducible first | exact cR _ | assumption | refine cA ?_ _ | refine cD ?_ | refine cN ?_ _ | refine cS ?_ (by first | omega | (simp <;> omega)) _)
   | true =>
    have hE0 : Hid (itemErr k (prevOf l i) x = match prevOf l i with
      | none => 0
      | some y => if k = 8 ∧ ltB y.name x.name = false then 4 else if k = 9 ∧ better y x = false then 4 else 0) := by
     unfold Hid itemErr; rw [if_neg hlen'.out, if_neg (by rintro (h | h); exact hS h; rw [hP] at h; cases h)]; cases prevOf l i <;> rfl
    have hbi : (i : Int) + 1 ≤ 9223372036854775807 := by omega
    by_cases hi0 : i = 0
    ·have hE : Hid (itemErr k (prevOf l i) x = 0) := by unfold Hid; rw [hE0.out, hi0]; rfl
     have t4 : decide (0 < (i : Int)) = false := decide_eq_false (by omega)
     have t4' : decide (0 < i) = false := decide_eq_false (by omega)
     clear hE0 hcell'
     by_cases hk8 : k = 8
     ·have t2 : (k == 8) = true := by rw [beq_iff_eq]; exact hk8
      have t3 : fsame x.score 0 = true := by
       cases h : fsame x.score 0 with
       | true => rfl
       | false => exact absurd ⟨hk8, h⟩ hS
      clear hS hk8 hi0
      go_enter Tryz.func110, Tryz.ntmps110
      go_wp2_with (first | (go_at_call 120; refine (zero_any _ hx _).mono ?_; rintro e w' ⟨rfl, rfl⟩) | (go_at_call 81; refine (rproper_any _ hx _).mono ?_; rintro e w' ⟨rfl, rfl⟩))
      go_quiet (fail)
      go_wp2_with fail
      go_quiet (fail)
      go_wp2_with fail
      go_ret
      refine ⟨ret_int (by rw [hE.out]; rfl), ?_⟩
      (repeat with_reducible first | exact cR _ | assumption | refine cA ?_ _ | refine cD ?_ | refine cN ?_ _ | refine cS ?_ (by first | omega | (simp <;> omega)) _)
     ·have t2 : (k == 8) = false := by rw [beq_eq_false_iff_ne]; exact hk8
      clear hS hk8 hi0
      go_enter Tryz.func110, Tryz.ntmps110
      go_wp2_with (first | (go_at_call 120; refine (zero_any _ hx _).mono ?_; rintro e w' ⟨rfl, rfl⟩) | (go_at_call 81; refine (rproper_any _ hx _).mono ?_; rintro e w' ⟨rfl, rfl⟩))
      go_quiet (fail)
      go_wp2_with fail
      go_quiet (fail)
      go_wp2_with fail
      go_ret
      refine ⟨ret_int (by rw [hE.out]; rfl), ?_⟩
      (repeat with_reducible first | exact cR _ | assumption | refine cA ?_ _ | refine cD ?_ | refine cN ?_ _ | refine cS ?_ (by first | omega | (simp <;> omega)) _)
    ·have t4 : decide (0 < (i : Int)) = true := decide_eq_true (by omega)
     have t4' : decide (0 < i) = true := decide_eq_true (by omega)
     obtain ⟨hd0, hd1⟩ := hcell'.out (i - 1) (by omega)
     have hy := hr.wf (i - 1)
     have hprev : Hid (prevOf l i = some (itAt l (i - 1))) := by unfold Hid prevOf; rw [if_neg hi0]
     generalize itAt l (i - 1) = y at hd0 hd1 hy hprev
     have hE1 : Hid (itemErr k (prevOf l i) x = if k = 8 ∧ ltB y.name x.name = false then 4 else if k = 9 ∧ better y x = false then 4 else 0) := by
      unfold Hid; rw [hE0.out, hprev.out]
     clear hE0 hcell'
     have hw1 : IntKind.i64.wrap ((i : Int) - 1) = (i : Int) - 1 := IntWalk.i64_in _ (by omega)
     have hw2 : (0 : Int) ≤ (i : Int) - 1 := by omega
     have hw2' : (1 : Int) ≤ (i : Int) := by omega
     have hw3 : (i : Int) - 1 < (n : Int) := by omega
     have hw4 : ((i : Int) - 1).toNat = i - 1 := by omega
     by_cases hk8 : k = 8
     ·have t2 : (k == 8) = true := by rw [beq_iff_eq]; exact hk8
      have t2' : (k == 9) = false := by rw [beq_eq_false_iff_ne]; omega
      have t3 : fsame x.score 0 = true := by
       cases h : fsame x.score 0 with
       | true => rfl
       | false => exact absurd ⟨hk8, h⟩ hS
      cases hlB : ltB y.name x.name with
      | false =>
       have hE : Hid (itemErr k (prevOf l i) x = 4) := by unfold Hid; rw [hE1.out, if_pos ⟨hk8, hlB⟩]
       clear hS hk8 hi0 hE1
       go_enter Tryz.func110, Tryz.ntmps110
       go_wp2_with (first | (go_at_call 120; refine (zero_any _ hx _).mono ?_; rintro e w' ⟨rfl, rfl⟩) | (go_at_call 81; refine (rproper_any _ hx _).mono ?_; rintro e w' ⟨rfl, rfl⟩))
       go_quiet (fail)
       go_wp2_with fail
       go_ret
       refine ⟨ret_int (by rw [hE.out]; rfl), ?_⟩
       (repeat with_reducible first | exact cR _ | assumption | refine cA ?_ _ | refine cD ?_ | refine cN ?_ _ | refine cS ?_ (by first | omega | (simp <;> omega)) _)
      | true =>
       have hE : Hid (itemErr k (prevOf l i) x = 0) := by unfold Hid; rw [hE1.out, if_neg (by rw [hlB]; simp), if_neg (by omega)]
       clear hS hk8 hi0 hE1
       go_enter Tryz.func110, Tryz.ntmps110
       go_wp2_with (first | (go_at_call 120; refine (zero_any _ hx _).mono ?_; rintro e w' ⟨rfl, rfl⟩) | (go_at_call 81; refine (rproper_any _ hx _).mono ?_; rintro e w' ⟨rfl, rfl⟩))
       go_quiet (fail)
       go_wp2_with fail
       go_quiet (fail)
       go_wp2_with fail
       go_ret
       refine ⟨ret_int (by rw [hE.out]; rfl), ?_⟩
       (repeat with_reducible first | exact cR _ | assumption | refine cA ?_ _ | refine cD ?_ | refine cN ?_ _ | refine cS ?_ (by first | omega | (simp <;> omega)) _)
     ·have t2 : (k == 8) = false := by rw [beq_eq_false_iff_ne]; exact hk8
      by_cases hk9 : k = 9
      ·have t2' : (k == 9) = true := by rw [beq_iff_eq]; exact hk9
       cases hlB : better y x with
       | false =>
        have hE : Hid (itemErr k (prevOf l i) x = 4) := by unfold Hid; rw [hE1.out, if_neg (fun h => hk8 h.1), if_pos ⟨hk9, hlB⟩]
        clear hS hk8 hi0 hE1 hk9
        go_enter Tryz.func110, Tryz.ntmps110
        go_wp2_with (first | (go_at_call 120; refine (zero_any _ hx _).mono ?_; rintro e w' ⟨rfl, rfl⟩) | (go_at_call 81; refine (rproper_any _ hx _).mono ?_; rintro e w' ⟨rfl, rfl⟩))
        go_quiet (fail)
        go_wp2_with fail
        (refine region_tail 13 (by kernel_rfl) (by kernel_rfl) ?_; simp only [List.take_succ_cons, List.take_zero, List.drop_succ_cons, List.drop_zero]; (repeat still_step); refine wpStill_nil ?_)
        go_wp2_with fail
        refine (ahead_any y x hy hx _).mono ?_; rintro e w1 ⟨rfl, hq⟩; rw [hlB]
        go_wp2_with fail
        go_ret
        refine ⟨ret_int (by rw [hE.out]; rfl), ?_⟩
        exact cln_trans (by (repeat with_reducible first | exact cR _ | assumption | refine cA ?_ _ | refine cD ?_ | refine cN ?_ _ | refine cS ?_ (by first | omega | (simp <;> omega)) _)) hq
       | true =>
        have hE : Hid (itemErr k (prevOf l i) x = 0) := by unfold Hid; rw [hE1.out, if_neg (fun h => hk8 h.1), if_neg (by rw [hlB]; simp)]
        clear hS hk8 hi0 hE1 hk9
        go_enter Tryz.func110, Tryz.ntmps110
        go_wp2_with (first | (go_at_call 120; refine (zero_any _ hx _).mono ?_; rintro e w' ⟨rfl, rfl⟩) | (go_at_call 81; refine (rproper_any _ hx _).mono ?_; rintro e w' ⟨rfl, rfl⟩))
        go_quiet (fail)
        go_wp2_with fail
        (refine region_tail 13 (by kernel_rfl) (by kernel_rfl) ?_; simp only [List.take_succ_cons, List.take_zero, List.drop_succ_cons, List.drop_zero]; (repeat still_step); refine wpStill_nil ?_)
        go_wp2_with fail
        refine (ahead_any y x hy hx _).mono ?_; rintro e w1 ⟨rfl, hq⟩; rw [hlB]
        go_wp2_with fail
        go_ret
        refine ⟨ret_int (by rw [hE.out]; rfl), ?_⟩
        exact cln_trans (by (repeat with_reducible first | exact cR _ | assumption | refine cA ?_ _ | refine cD ?_ | refine cN ?_ _ | refine cS ?_ (by first | omega | (simp <;> omega)) _)) hq
      ·have hE : Hid (itemErr k (prevOf l i) x = 0) := by unfold Hid; rw [hE1.out, if_neg (fun h => hk8 h.1), if_neg (fun h => hk9 h.1)]
       have t2' : (k == 9) = false := by rw [beq_eq_false_iff_ne]; exact hk9
       clear hS hk8 hi0 hE1 hk9
       go_enter Tryz.func110, Tryz.ntmps110
       go_wp2_with (first | (go_at_call 120; refine (zero_any _ hx _).mono ?_; rintro e w' ⟨rfl, rfl⟩) | (go_at_call 81; refine (rproper_any _ hx _).mono ?_; rintro e w' ⟨rfl, rfl⟩))
       go_quiet (fail)
       go_wp2_with fail
       go_quiet (fail)
       go_wp2_with fail
       go_ret
       refine ⟨ret_int (by rw [hE.out]; rfl), ?_⟩
       (repeat with_reducible first | exact cR _ | assumption | refine cA ?_ _ | refine cD ?_ | refine cN ?_ _ | refine cS ?_ (by first | omega | (simp <;> omega)) _)

set_option maxHeartbeats 4000000 in
theorem only_t (r : MRec) (A : Option Addr) (n c : Nat) (hn : Hid (r.list.length = n)) (hr : r.real < 18446744073709551616) (w : World) :
  Calls Tryz.prog 108 #[recVal r A n c, .string ⟨#[116]⟩] w fun e w' => e = .returned (.bool (bareB r ⟨true, false, false, false, false⟩)) ∧ Cln w w' := by
 have hl : Hid ((r.list == []) = decide (n = 0)) := by
  unfold Hid; rw [← hn.out]; cases r.list <;> simp
 have hb0 := Blk.new w 62 #[.int .i64 r.kind, .int .i64 r.num, .int .i64 r.low, .int .i64 r.high, .float .f64 r.real, .int .i64 r.cap, .string (str r.text), .slice A n c]
 have hcl : Cln w (w.alloc (.cells #[.int .i64 r.kind, .int .i64 r.num, .int .i64 r.low, .int .i64 r.high, .float .f64 r.real, .int .i64 r.cap, .string (str r.text), .slice A n c] 62)) := by (repeat with_reducible first | exact cR _ | assumption | refine cA ?_ _ | refine cD ?_ | refine cN ?_ _ | refine cS ?_ (by first | omega | (simp <;> omega)) _)
 unfold recVal
 go_enter Tryz.func108, Tryz.ntmps108
 go_wp2_with fail
 go_loopw [5, 6, 7, 8, 9, 10] (fun v5 v6 v7 v8 v9 v10 wr => wr = w.alloc (.cells #[.int .i64 r.kind, .int .i64 r.num, .int .i64 r.low, .int .i64 r.high, .float .f64 r.real, .int .i64 r.cap, .string (str r.text), .slice A n c] 62) ∧ ((v10 = .int .i64 0 ∧ v5 = .bool false ∧ v6 = .bool false ∧ v7 = .bool false ∧ v8 = .bool false ∧ v9 = .bool false) ∨ (v10 = .int .i64 1 ∧ v5 = .bool true ∧ v6 = .bool false ∧ v7 = .bool false ∧ v8 = .bool false ∧ v9 = .bool false))) (fun v5 v6 v7 v8 v9 v10 _ => (1 - intOf v10).toNat)
 case atStart => exact ⟨rfl, .inl ⟨rfl, rfl, rfl, rfl, rfl, rfl⟩⟩
 case round =>
  obtain ⟨rfl, hrel⟩ := hrel
  rcases hrel with ⟨rfl, rfl, rfl, rfl, rfl, rfl⟩ | ⟨rfl, rfl, rfl, rfl, rfl, rfl⟩
  ·go_wp2_with fail
   go_roundw
   case rel => first | exact ⟨rfl, .inr ⟨rfl, rfl, rfl, rfl, rfl, rfl⟩⟩ | (simp; done) | (simp; decide)
   case measure => simp [intOf]
  ·have hc := hb0.cell
   clear hb0
   go_wp2_with (go_at_call 120; refine (zero_any _ hr _).mono ?_; rintro e w' ⟨rfl, rfl⟩)
   all_goals
    go_ret
    refine ⟨ret_bool ?_, by (repeat with_reducible first | exact cR _ | assumption | refine cA ?_ _ | refine cD ?_ | refine cN ?_ _ | refine cS ?_ (by first | omega | (simp <;> omega)) _)⟩
    have hl' := hl.out
    simp_all [bareB]
    try exact beq_cast n 0
set_option maxHeartbeats 4000000 in
theorem only_n (r : MRec) (A : Option Addr) (n c : Nat) (hn : Hid (r.list.length = n)) (hr : r.real < 18446744073709551616) (w : World) :
  Calls Tryz.prog 108 #[recVal r A n c, .string ⟨#[110]⟩] w fun e w' => e = .returned (.bool (bareB r ⟨false, true, false, false, false⟩)) ∧ Cln w w' := by
 have hl : Hid ((r.list == []) = decide (n = 0)) := by
  unfold Hid; rw [← hn.out]; cases r.list <;> simp
 have hb0 := Blk.new w 62 #[.int .i64 r.kind, .int .i64 r.num, .int .i64 r.low, .int .i64 r.high, .float .f64 r.real, .int .i64 r.cap, .string (str r.text), .slice A n c]
 have hcl : Cln w (w.alloc (.cells #[.int .i64 r.kind, .int .i64 r.num, .int .i64 r.low, .int .i64 r.high, .float .f64 r.real, .int .i64 r.cap, .string (str r.text), .slice A n c] 62)) := by (repeat with_reducible first | exact cR _ | assumption | refine cA ?_ _ | refine cD ?_ | refine cN ?_ _ | refine cS ?_ (by first | omega | (simp <;> omega)) _)
 unfold recVal
 go_enter Tryz.func108, Tryz.ntmps108
 go_wp2_with fail
 go_loopw [5, 6, 7, 8, 9, 10] (fun v5 v6 v7 v8 v9 v10 wr => wr = w.alloc (.cells #[.int .i64 r.kind, .int .i64 r.num, .int .i64 r.low, .int .i64 r.high, .float .f64 r.real, .int .i64 r.cap, .string (str r.text), .slice A n c] 62) ∧ ((v10 = .int .i64 0 ∧ v5 = .bool false ∧ v6 = .bool false ∧ v7 = .bool false ∧ v8 = .bool false ∧ v9 = .bool false) ∨ (v10 = .int .i64 1 ∧ v5 = .bool false ∧ v6 = .bool true ∧ v7 = .bool false ∧ v8 = .bool false ∧ v9 = .bool false))) (fun v5 v6 v7 v8 v9 v10 _ => (1 - intOf v10).toNat)
 case atStart => exact ⟨rfl, .inl ⟨rfl, rfl, rfl, rfl, rfl, rfl⟩⟩
 case round =>
  obtain ⟨rfl, hrel⟩ := hrel
  rcases hrel with ⟨rfl, rfl, rfl, rfl, rfl, rfl⟩ | ⟨rfl, rfl, rfl, rfl, rfl, rfl⟩
  ·go_wp2_with fail
   go_roundw
   case rel => first | exact ⟨rfl, .inr ⟨rfl, rfl, rfl, rfl, rfl, rfl⟩⟩ | (simp; done) | (simp; decide)
   case measure => simp [intOf]
  ·have hc := hb0.cell
   clear hb0
   go_wp2_with (go_at_call 120; refine (zero_any _ hr _).mono ?_; rintro e w' ⟨rfl, rfl⟩)
   all_goals
    go_ret
    refine ⟨ret_bool ?_, by (repeat with_reducible first | exact cR _ | assumption | refine cA ?_ _ | refine cD ?_ | refine cN ?_ _ | refine cS ?_ (by first | omega | (simp <;> omega)) _)⟩
    have hl' := hl.out
    simp_all [bareB]
    try exact beq_cast n 0
set_option maxHeartbeats 4000000 in
theorem only_nb (r : MRec) (A : Option Addr) (n c : Nat) (hn : Hid (r.list.length = n)) (hr : r.real < 18446744073709551616) (w : World) :
  Calls Tryz.prog 108 #[recVal r A n c, .string ⟨#[110, 98]⟩] w fun e w' => e = .returned (.bool (bareB r ⟨false, true, true, false, false⟩)) ∧ Cln w w' := by
 have hl : Hid ((r.list == []) = decide (n = 0)) := by
  unfold Hid; rw [← hn.out]; cases r.list <;> simp
 have hb0 := Blk.new w 62 #[.int .i64 r.kind, .int .i64 r.num, .int .i64 r.low, .int .i64 r.high, .float .f64 r.real, .int .i64 r.cap, .string (str r.text), .slice A n c]
 have hcl : Cln w (w.alloc (.cells #[.int .i64 r.kind, .int .i64 r.num, .int .i64 r.low, .int .i64 r.high, .float .f64 r.real, .int .i64 r.cap, .string (str r.text), .slice A n c] 62)) := by (repeat with_reducible first | exact cR _ | assumption | refine cA ?_ _ | refine cD ?_ | refine cN ?_ _ | refine cS ?_ (by first | omega | (simp <;> omega)) _)
 unfold recVal
 go_enter Tryz.func108, Tryz.ntmps108
 go_wp2_with fail
 go_loopw [5, 6, 7, 8, 9, 10] (fun v5 v6 v7 v8 v9 v10 wr => wr = w.alloc (.cells #[.int .i64 r.kind, .int .i64 r.num, .int .i64 r.low, .int .i64 r.high, .float .f64 r.real, .int .i64 r.cap, .string (str r.text), .slice A n c] 62) ∧ ((v10 = .int .i64 0 ∧ v5 = .bool false ∧ v6 = .bool false ∧ v7 = .bool false ∧ v8 = .bool false ∧ v9 = .bool false) ∨ (v10 = .int .i64 1 ∧ v5 = .bool false ∧ v6 = .bool true ∧ v7 = .bool false ∧ v8 = .bool false ∧ v9 = .bool false) ∨ (v10 = .int .i64 2 ∧ v5 = .bool false ∧ v6 = .bool true ∧ v7 = .bool true ∧ v8 = .bool false ∧ v9 = .bool false))) (fun v5 v6 v7 v8 v9 v10 _ => (2 - intOf v10).toNat)
 case atStart => exact ⟨rfl, .inl ⟨rfl, rfl, rfl, rfl, rfl, rfl⟩⟩
 case round =>
  obtain ⟨rfl, hrel⟩ := hrel
  rcases hrel with ⟨rfl, rfl, rfl, rfl, rfl, rfl⟩ | ⟨rfl, rfl, rfl, rfl, rfl, rfl⟩ | ⟨rfl, rfl, rfl, rfl, rfl, rfl⟩
  ·go_wp2_with fail
   go_roundw
   case rel => first | exact ⟨rfl, .inr (.inl ⟨rfl, rfl, rfl, rfl, rfl, rfl⟩)⟩ | (simp; done) | (simp; decide)
   case measure => simp [intOf]
  ·go_wp2_with fail
   go_roundw
   case rel => first | exact ⟨rfl, .inr (.inr ⟨rfl, rfl, rfl, rfl, rfl, rfl⟩)⟩ | (simp; done) | (simp; decide)
   case measure => simp [intOf]
  ·have hc := hb0.cell
   clear hb0
   go_wp2_with (go_at_call 120; refine (zero_any _ hr _).mono ?_; rintro e w' ⟨rfl, rfl⟩)
   all_goals
    go_ret
    refine ⟨ret_bool ?_, by (repeat with_reducible first | exact cR _ | assumption | refine cA ?_ _ | refine cD ?_ | refine cN ?_ _ | refine cS ?_ (by first | omega | (simp <;> omega)) _)⟩
    have hl' := hl.out
    simp_all [bareB]
    try exact beq_cast n 0
set_option maxHeartbeats 4000000 in
theorem only_r (r : MRec) (A : Option Addr) (n c : Nat) (hn : Hid (r.list.length = n)) (hr : r.real < 18446744073709551616) (w : World) :
  Calls Tryz.prog 108 #[recVal r A n c, .string ⟨#[114]⟩] w fun e w' => e = .returned (.bool (bareB r ⟨false, false, false, true, false⟩)) ∧ Cln w w' := by
 have hl : Hid ((r.list == []) = decide (n = 0)) := by
  unfold Hid; rw [← hn.out]; cases r.list <;> simp
 have hb0 := Blk.new w 62 #[.int .i64 r.kind, .int .i64 r.num, .int .i64 r.low, .int .i64 r.high, .float .f64 r.real, .int .i64 r.cap, .string (str r.text), .slice A n c]
 have hcl : Cln w (w.alloc (.cells #[.int .i64 r.kind, .int .i64 r.num, .int .i64 r.low, .int .i64 r.high, .float .f64 r.real, .int .i64 r.cap, .string (str r.text), .slice A n c] 62)) := by (repeat with_reducible first | exact cR _ | assumption | refine cA ?_ _ | refine cD ?_ | refine cN ?_ _ | refine cS ?_ (by first | omega | (simp <;> omega)) _)
 unfold recVal
 go_enter Tryz.func108, Tryz.ntmps108
 go_wp2_with fail
 go_loopw [5, 6, 7, 8, 9, 10] (fun v5 v6 v7 v8 v9 v10 wr => wr = w.alloc (.cells #[.int .i64 r.kind, .int .i64 r.num, .int .i64 r.low, .int .i64 r.high, .float .f64 r.real, .int .i64 r.cap, .string (str r.text), .slice A n c] 62) ∧ ((v10 = .int .i64 0 ∧ v5 = .bool false ∧ v6 = .bool false ∧ v7 = .bool false ∧ v8 = .bool false ∧ v9 = .bool false) ∨ (v10 = .int .i64 1 ∧ v5 = .bool false ∧ v6 = .bool false ∧ v7 = .bool false ∧ v8 = .bool true ∧ v9 = .bool false))) (fun v5 v6 v7 v8 v9 v10 _ => (1 - intOf v10).toNat)
 case atStart => exact ⟨rfl, .inl ⟨rfl, rfl, rfl, rfl, rfl, rfl⟩⟩
 case round =>
  obtain ⟨rfl, hrel⟩ := hrel
  rcases hrel with ⟨rfl, rfl, rfl, rfl, rfl, rfl⟩ | ⟨rfl, rfl, rfl, rfl, rfl, rfl⟩
  ·go_wp2_with fail
   go_roundw
   case rel => first | exact ⟨rfl, .inr ⟨rfl, rfl, rfl, rfl, rfl, rfl⟩⟩ | (simp; done) | (simp; decide)
   case measure => simp [intOf]
  ·have hc := hb0.cell
   clear hb0
   go_wp2_with (go_at_call 120; refine (zero_any _ hr _).mono ?_; rintro e w' ⟨rfl, rfl⟩)
   all_goals
    go_ret
    refine ⟨ret_bool ?_, by (repeat with_reducible first | exact cR _ | assumption | refine cA ?_ _ | refine cD ?_ | refine cN ?_ _ | refine cS ?_ (by first | omega | (simp <;> omega)) _)⟩
    have hl' := hl.out
    simp_all [bareB]
    try exact beq_cast n 0
set_option maxHeartbeats 4000000 in
theorem only_l (r : MRec) (A : Option Addr) (n c : Nat) (hn : Hid (r.list.length = n)) (hr : r.real < 18446744073709551616) (w : World) :
  Calls Tryz.prog 108 #[recVal r A n c, .string ⟨#[108]⟩] w fun e w' => e = .returned (.bool (bareB r ⟨false, false, false, false, true⟩)) ∧ Cln w w' := by
 have hl : Hid ((r.list == []) = decide (n = 0)) := by
  unfold Hid; rw [← hn.out]; cases r.list <;> simp
 have hb0 := Blk.new w 62 #[.int .i64 r.kind, .int .i64 r.num, .int .i64 r.low, .int .i64 r.high, .float .f64 r.real, .int .i64 r.cap, .string (str r.text), .slice A n c]
 have hcl : Cln w (w.alloc (.cells #[.int .i64 r.kind, .int .i64 r.num, .int .i64 r.low, .int .i64 r.high, .float .f64 r.real, .int .i64 r.cap, .string (str r.text), .slice A n c] 62)) := by (repeat with_reducible first | exact cR _ | assumption | refine cA ?_ _ | refine cD ?_ | refine cN ?_ _ | refine cS ?_ (by first | omega | (simp <;> omega)) _)
 unfold recVal
 go_enter Tryz.func108, Tryz.ntmps108
 go_wp2_with fail
 go_loopw [5, 6, 7, 8, 9, 10] (fun v5 v6 v7 v8 v9 v10 wr => wr = w.alloc (.cells #[.int .i64 r.kind, .int .i64 r.num, .int .i64 r.low, .int .i64 r.high, .float .f64 r.real, .int .i64 r.cap, .string (str r.text), .slice A n c] 62) ∧ ((v10 = .int .i64 0 ∧ v5 = .bool false ∧ v6 = .bool false ∧ v7 = .bool false ∧ v8 = .bool false ∧ v9 = .bool false) ∨ (v10 = .int .i64 1 ∧ v5 = .bool false ∧ v6 = .bool false ∧ v7 = .bool false ∧ v8 = .bool false ∧ v9 = .bool true))) (fun v5 v6 v7 v8 v9 v10 _ => (1 - intOf v10).toNat)
 case atStart => exact ⟨rfl, .inl ⟨rfl, rfl, rfl, rfl, rfl, rfl⟩⟩
 case round =>
  obtain ⟨rfl, hrel⟩ := hrel
  rcases hrel with ⟨rfl, rfl, rfl, rfl, rfl, rfl⟩ | ⟨rfl, rfl, rfl, rfl, rfl, rfl⟩
  ·go_wp2_with fail
   go_roundw
   case rel => first | exact ⟨rfl, .inr ⟨rfl, rfl, rfl, rfl, rfl, rfl⟩⟩ | (simp; done) | (simp; decide)
   case measure => simp [intOf]
  ·have hc := hb0.cell
   clear hb0
   go_wp2_with (go_at_call 120; refine (zero_any _ hr _).mono ?_; rintro e w' ⟨rfl, rfl⟩)
   all_goals
    go_ret
    refine ⟨ret_bool ?_, by (repeat with_reducible first | exact cR _ | assumption | refine cA ?_ _ | refine cD ?_ | refine cN ?_ _ | refine cS ?_ (by first | omega | (simp <;> omega)) _)⟩
    have hl' := hl.out
    simp_all [bareB]
    try exact beq_cast n 0

def fieldsOf (k : Int) : List UInt8 := ([[], [116], [110], [110], [110, 98], [114], [114], [114], [108], [108]] : List (List UInt8)).getD k.toNat []
set_option maxHeartbeats 4000000 in
theorem fields_any (k : Int) (hk : 1 ≤ k ∧ k ≤ 9) (w : World) :
  Calls Tryz.prog 109 #[.int .i64 k] w fun e w' => e = .returned (.string (str (fieldsOf k))) ∧ Cln w w' := by
 have hk' : k = 1 ∨ k = 2 ∨ k = 3 ∨ k = 4 ∨ k = 5 ∨ k = 6 ∨ k = 7 ∨ k = 8 ∨ k = 9 := by omega
 clear hk
 rcases hk' with rfl | rfl | rfl | rfl | rfl | rfl | rfl | rfl | rfl
 all_goals
  go_enter Tryz.func109, Tryz.ntmps109
  go_wp2_with fail
  go_ret
  exact ⟨rfl, by (repeat with_reducible first | exact cR _ | assumption | refine cA ?_ _ | refine cD ?_ | refine cN ?_ _ | refine cS ?_ (by first | omega | (simp <;> omega)) _)⟩

theorem only_kind (r : MRec) (k : Nat) (hk : r.kind = (k : Int)) (h1 : 1 ≤ k ∧ k ≤ 9) (A : Option Addr) (n c : Nat) (hn : Hid (r.list.length = n)) (hr : r.real < 18446744073709551616) (w : World) :
  Calls Tryz.prog 108 #[recVal r A n c, .string (str (fieldsOf (k : Int)))] w fun e w' => e = .returned (.bool (bareB r (shapeOf r.kind))) ∧ Cln w w' := by
 rw [hk]
 have hc : k = 1 ∨ k = 2 ∨ k = 3 ∨ k = 4 ∨ k = 5 ∨ k = 6 ∨ k = 7 ∨ k = 8 ∨ k = 9 := by omega
 rcases hc with rfl | rfl | rfl | rfl | rfl | rfl | rfl | rfl | rfl
 ·exact only_t r A n c hn hr w
 ·exact only_n r A n c hn hr w
 ·exact only_n r A n c hn hr w
 ·exact only_nb r A n c hn hr w
 ·exact only_r r A n c hn hr w
 ·exact only_r r A n c hn hr w
 ·exact only_r r A n c hn hr w
 ·exact only_l r A n c hn hr w
 ·exact only_l r A n c hn hr w
theorem recKeep {w W W' : World} {p0 p1 p2 p3 p4 p5 p6 p7 : Addr} {v0 v1 v2 v3 v4 v5 v6 v7 : Value} (hq : Cln W W')
  (h : W.cell? p0 = some v0 ∧ W.cell? p1 = some v1 ∧ W.cell? p2 = some v2 ∧ W.cell? p3 = some v3 ∧ W.cell? p4 = some v4 ∧ W.cell? p5 = some v5 ∧ W.cell? p6 = some v6 ∧ W.cell? p7 = some v7 ∧ Hid (Cln w W)) :
  W'.cell? p0 = some v0 ∧ W'.cell? p1 = some v1 ∧ W'.cell? p2 = some v2 ∧ W'.cell? p3 = some v3 ∧ W'.cell? p4 = some v4 ∧ W'.cell? p5 = some v5 ∧ W'.cell? p6 = some v6 ∧ W'.cell? p7 = some v7 ∧ Hid (Cln w W') := by
 have k := Kept.of_below (S := fun _ => False) hq
 obtain ⟨h0, h1, h2, h3, h4, h5, h6, h7, h8⟩ := h
 exact ⟨k.cell h0 id, k.cell h1 id, k.cell h2 id, k.cell h3 id, k.cell h4 id, k.cell h5 id, k.cell h6 id, k.cell h7 id, Lib.hid (cln_trans h8.out hq)⟩

theorem rcheck_bad (r : MRec) (A : Option Addr) (n c : Nat) (hk : r.kind < 1 ∨ 9 < r.kind) (w : World) :
  Calls Tryz.prog 82 #[recVal r A n c] w fun e w' => e = .returned (.int .i64 (checkRec r : Nat)) ∧ Cln w w' := by
 have hE : Hid (checkRec r = 5) := by unfold Hid checkRec; rw [if_pos hk]
 unfold recVal
 by_cases h1 : r.kind < 1
 ·have t1 : decide (r.kind < 1) = true := decide_eq_true h1
  clear hk h1
  go_enter Tryz.func82, Tryz.ntmps82
  go_wp2_with fail
  go_ret
  exact ⟨ret_int (by rw [hE.out]; rfl), by (repeat with_reducible first | exact cR _ | assumption | refine cA ?_ _ | refine cD ?_ | refine cN ?_ _ | refine cS ?_ (by first | omega | (simp <;> omega)) _)⟩
 ·have t1 : decide (r.kind < 1) = false := decide_eq_false h1
  have t2 : decide (9 < r.kind) = true := decide_eq_true (by omega)
  clear hk h1
  go_enter Tryz.func82, Tryz.ntmps82
  go_wp2_with fail
  go_ret
  exact ⟨ret_int (by rw [hE.out]; rfl), by (repeat with_reducible first | exact cR _ | assumption | refine cA ?_ _ | refine cD ?_ | refine cN ?_ _ | refine cS ?_ (by first | omega | (simp <;> omega)) _)⟩
set_option maxHeartbeats 4000000 in
theorem rcheck_bare (r : MRec) (k : Nat) (hk : r.kind = (k : Int)) (h1 : 1 ≤ k ∧ k ≤ 9) (A : Option Addr) (n c : Nat) (hn : Hid (r.list.length = n)) (hr : r.real < 18446744073709551616) (hB : bareB r (shapeOf r.kind) = false) (w : World) :
  Calls Tryz.prog 82 #[recVal r A n c] w fun e w' => e = .returned (.int .i64 (checkRec r : Nat)) ∧ Cln w w' := by
 have hE : Hid (checkRec r = 4) := by unfold Hid checkRec; rw [if_neg (by omega), if_pos hB]
 have cO : ∀ W : World, Calls Tryz.prog 108 #[.agg #[.int .i64 (k : Int), .int .i64 r.num, .int .i64 r.low, .int .i64 r.high, .float .f64 r.real, .int .i64 r.cap, .string (str r.text), .slice A n c], .string (str (fieldsOf (k : Int)))] W fun e w' => e = .returned (.bool false) ∧ Cln W w' := fun W => by
  have h := only_kind r k hk h1 A n c hn hr W
  rw [hB] at h; unfold recVal at h; rw [hk] at h; exact h
 have cF : ∀ W : World, Calls Tryz.prog 109 #[.int .i64 (k : Int)] W fun e w' => e = .returned (.string (str (fieldsOf (k : Int)))) ∧ Cln W w' := fun W => fields_any k (by omega) W
 have t1 : decide ((k : Int) < 1) = false := decide_eq_false (by omega)
 have t2 : decide (9 < (k : Int)) = false := decide_eq_false (by omega)
 have hb0 := Blk.new w 62 #[.int .i64 (k : Int), .int .i64 r.num, .int .i64 r.low, .int .i64 r.high, .float .f64 r.real, .int .i64 r.cap, .string (str r.text), .slice A n c]
 have hcl : Hid (Cln w (w.alloc (.cells #[.int .i64 (k : Int), .int .i64 r.num, .int .i64 r.low, .int .i64 r.high, .float .f64 r.real, .int .i64 r.cap, .string (str r.text), .slice A n c] 62))) := by unfold Hid; (repeat with_reducible first | exact cR _ | assumption | refine cA ?_ _ | refine cD ?_ | refine cN ?_ _ | refine cS ?_ (by first | omega | (simp <;> omega)) _)
 unfold recVal
 rw [hk]
 clear hB hk h1
 have g0 := hb0.cell 0; have g1 := hb0.cell 1; have g2 := hb0.cell 2; have g3 := hb0.cell 3; have g4 := hb0.cell 4; have g5 := hb0.cell 5; have g6 := hb0.cell 6; have g7 := hb0.cell 7
 go_enter Tryz.func82, Tryz.ntmps82
 go_wp2_with fail
 go_region_held3 (fun W => W.cell? ⟨w.heap.size, 0, none⟩ = some (.int .i64 (k : Int)) ∧ W.cell? ⟨w.heap.size, 1, none⟩ = some (.int .i64 r.num) ∧ W.cell? ⟨w.heap.size, 2, none⟩ = some (.int .i64 r.low) ∧ W.cell? ⟨w.heap.size, 3, none⟩ = some (.int .i64 r.high) ∧ W.cell? ⟨w.heap.size, 4, none⟩ = some (.float .f64 r.real) ∧ W.cell? ⟨w.heap.size, 5, none⟩ = some (.int .i64 r.cap) ∧ W.cell? ⟨w.heap.size, 6, none⟩ = some (.string (str r.text)) ∧ W.cell? ⟨w.heap.size, 7, none⟩ = some (.slice A n c) ∧ Hid (Cln w W))
  (first | exact recKeep hq (by assumption) | exact ⟨g0, g1, g2, g3, g4, g5, g6, g7, Lib.hid (Below.drew hcl.out)⟩)
  (first
   |(go_at_call 109; with_reducible refine (cF _).mono ?_; rintro e w' ⟨rfl, hq⟩)
   |(go_at_call 108; with_reducible refine (cO _).mono ?_; rintro e w' ⟨rfl, hq⟩))
 rename_i hS
 have hcl2 := hS.2.2.2.2.2.2.2.2.out
 clear hS
 go_wp2_with fail
 go_ret
 exact ⟨ret_int (by rw [hE.out]; rfl), hcl2⟩
set_option maxHeartbeats 8000000 in
theorem rcheck_low (r : MRec) (k : Nat) (hk : r.kind = (k : Int)) (h1 : 1 ≤ k ∧ k ≤ 9) (A : Option Addr) (n c : Nat) (hn : Hid (r.list.length = n)) (hr : r.real < 18446744073709551616) (hB : bareB r (shapeOf r.kind) = true) (h8 : k < 8) (w : World) :
  Calls Tryz.prog 82 #[recVal r A n c] w fun e w' => e = .returned (.int .i64 (checkRec r : Nat)) ∧ Cln w w' := by
 have hE : Hid (checkRec r = if k = 1 ∧ 64 < r.text.length then 3 else if k = 4 ∧ (r.low < -2305843009213693952 ∨ 2305843009213693952 < r.high ∨ r.num < r.low ∨ r.high < r.num) then 1 else if fproper r.real = false then 4 else 0) := by
  have ht : ¬ k = 1 → r.text.length = 0 := fun h => by
   unfold bareB shapeOf at hB; rw [hk] at hB
   have : ¬ ((k : Int) = 1) := by omega
   simp [this] at hB
   rw [hB.1.1.1.1]; rfl
  unfold Hid checkRec; rw [if_neg (by omega), if_neg (by rw [hB]; simp), hk]
  by_cases hx : k = 1
  ·subst hx; simp
  ·have := ht hx
   have h64 : ¬ 64 < r.text.length := by omega
   have e4 : ((k : Int) = 4) = (k = 4) := by rw [eq_iff_iff]; omega
   have e8 : ((k : Int) < 8) := by omega
   simp only [h64, hx, e4, e8, if_true, if_false, false_and]
 have cO : ∀ W : World, Calls Tryz.prog 108 #[.agg #[.int .i64 (k : Int), .int .i64 r.num, .int .i64 r.low, .int .i64 r.high, .float .f64 r.real, .int .i64 r.cap, .string (str r.text), .slice A n c], .string (str (fieldsOf (k : Int)))] W fun e w' => e = .returned (.bool true) ∧ Cln W w' := fun W => by
  have h := only_kind r k hk h1 A n c hn hr W
  rw [hB] at h; unfold recVal at h; rw [hk] at h; exact h
 have cF : ∀ W : World, Calls Tryz.prog 109 #[.int .i64 (k : Int)] W fun e w' => e = .returned (.string (str (fieldsOf (k : Int)))) ∧ Cln W w' := fun W => fields_any k (by omega) W
 have t1 : decide ((k : Int) < 1) = false := decide_eq_false (by omega)
 have t2 : decide (9 < (k : Int)) = false := decide_eq_false (by omega)
 have hb0 := Blk.new w 62 #[.int .i64 (k : Int), .int .i64 r.num, .int .i64 r.low, .int .i64 r.high, .float .f64 r.real, .int .i64 r.cap, .string (str r.text), .slice A n c]
 have hcl : Hid (Cln w (w.alloc (.cells #[.int .i64 (k : Int), .int .i64 r.num, .int .i64 r.low, .int .i64 r.high, .float .f64 r.real, .int .i64 r.cap, .string (str r.text), .slice A n c] 62))) := by unfold Hid; (repeat with_reducible first | exact cR _ | assumption | refine cA ?_ _ | refine cD ?_ | refine cN ?_ _ | refine cS ?_ (by first | omega | (simp <;> omega)) _)
 have hk' := Lib.hid hk
 have h1' := Lib.hid h1
 have h8' := Lib.hid h8
 clear hB hk h1
 unfold recVal
 rw [hk'.out]
 have g0 := hb0.cell 0; have g1 := hb0.cell 1; have g2 := hb0.cell 2; have g3 := hb0.cell 3; have g4 := hb0.cell 4; have g5 := hb0.cell 5; have g6 := hb0.cell 6; have g7 := hb0.cell 7
 go_enter Tryz.func82, Tryz.ntmps82
 go_wp2_with fail
 go_region_held3 (fun W => W.cell? ⟨w.heap.size, 0, none⟩ = some (.int .i64 (k : Int)) ∧ W.cell? ⟨w.heap.size, 1, none⟩ = some (.int .i64 r.num) ∧ W.cell? ⟨w.heap.size, 2, none⟩ = some (.int .i64 r.low) ∧ W.cell? ⟨w.heap.size, 3, none⟩ = some (.int .i64 r.high) ∧ W.cell? ⟨w.heap.size, 4, none⟩ = some (.float .f64 r.real) ∧ W.cell? ⟨w.heap.size, 5, none⟩ = some (.int .i64 r.cap) ∧ W.cell? ⟨w.heap.size, 6, none⟩ = some (.string (str r.text)) ∧ W.cell? ⟨w.heap.size, 7, none⟩ = some (.slice A n c) ∧ Hid (Cln w W))
  (first | exact recKeep hq (by assumption) | exact ⟨g0, g1, g2, g3, g4, g5, g6, g7, Lib.hid (Below.drew hcl.out)⟩)
  (first
   |(go_at_call 109; with_reducible refine (cF _).mono ?_; rintro e w' ⟨rfl, hq⟩)
   |(go_at_call 108; with_reducible refine (cO _).mono ?_; rintro e w' ⟨rfl, hq⟩))
 rename_i hS
 have f0 := hS.1; have f1 := hS.2.1; have f2 := hS.2.2.1; have f3 := hS.2.2.2.1; have f4 := hS.2.2.2.2.1; have f5 := hS.2.2.2.2.2.1; have f6 := hS.2.2.2.2.2.2.1; have f7 := hS.2.2.2.2.2.2.2.1
 have hcl2 := hS.2.2.2.2.2.2.2.2
 clear hS g0 g1 g2 g3 g4 g5 g6 g7 hb0
 have hbk : (k : Int) < 8 := by omega
 clear h8
 go_wp2_with ((go_at_call 81; refine (rproper_any _ hr _).mono ?_; rintro e w' ⟨rfl, rfl⟩))
 all_goals
  go_ret
  refine ⟨ret_int ?_, hcl2.out⟩
  rw [hE.out]
  (repeat' split) <;> first | rfl | omega | (simp_all; done) | (exfalso; simp_all; omega)
set_option maxHeartbeats 8000000 in
theorem rcheck_list (r : MRec) (k : Nat) (hk : r.kind = (k : Int)) (h1 : 1 ≤ k ∧ k ≤ 9) (A : Option Addr) (n c : Nat) (hn : Hid (r.list.length = n)) (hr : r.real < 18446744073709551616) (hB : bareB r (shapeOf r.kind) = true) (h8 : k = 8 ∨ k = 9) (hbn : n ≤ 140737488355328) (w : World) (hit : RdItems w A n r.list) :
  Calls Tryz.prog 82 #[recVal r A n c] w fun e w' => e = .returned (.int .i64 (checkRec r : Nat)) ∧ Cln w w' := by
 have hE : Hid (checkRec r = if fproper r.real = false then 4 else if r.cap < 1 ∨ 32 < r.cap then 1 else if r.cap < (n : Int) then 8 else itemsErr (k : Int) none r.list) := by
  have ht : r.text.length = 0 := by
   unfold bareB shapeOf at hB; rw [hk] at hB
   have : ¬ ((k : Int) = 1) := by omega
   simp [this] at hB
   rw [hB.1.1.1.1]; rfl
  have h64 : ¬ 64 < r.text.length := by omega
  have e4 : ¬ ((k : Int) = 4) := by omega
  have e8 : ¬ ((k : Int) < 8) := by omega
  unfold Hid checkRec; rw [if_neg (by omega), if_neg (by rw [hB]; simp), hk, hn.out]
  simp only [h64, e4, e8, if_false, false_and]
 have q1 : ((k : Int) == 1) = false := by rw [beq_eq_false_iff_ne]; omega
 have q4 : ((k : Int) == 4) = false := by rw [beq_eq_false_iff_ne]; omega
 have q8 : decide ((k : Int) < 8) = false := decide_eq_false (by omega)
 have hbi : n ≤ 140737488355328 := hbn
 have cO : ∀ W : World, Calls Tryz.prog 108 #[.agg #[.int .i64 (k : Int), .int .i64 r.num, .int .i64 r.low, .int .i64 r.high, .float .f64 r.real, .int .i64 r.cap, .string (str r.text), .slice A n c], .string (str (fieldsOf (k : Int)))] W fun e w' => e = .returned (.bool true) ∧ Cln W w' := fun W => by
  have h := only_kind r k hk h1 A n c hn hr W
  rw [hB] at h; unfold recVal at h; rw [hk] at h; exact h
 have cF : ∀ W : World, Calls Tryz.prog 109 #[.int .i64 (k : Int)] W fun e w' => e = .returned (.string (str (fieldsOf (k : Int)))) ∧ Cln W w' := fun W => fields_any k (by omega) W
 have t1 : decide ((k : Int) < 1) = false := decide_eq_false (by omega)
 have t2 : decide (9 < (k : Int)) = false := decide_eq_false (by omega)
 have hb0 := Blk.new w 62 #[.int .i64 (k : Int), .int .i64 r.num, .int .i64 r.low, .int .i64 r.high, .float .f64 r.real, .int .i64 r.cap, .string (str r.text), .slice A n c]
 have hcl : Hid (Cln w (w.alloc (.cells #[.int .i64 (k : Int), .int .i64 r.num, .int .i64 r.low, .int .i64 r.high, .float .f64 r.real, .int .i64 r.cap, .string (str r.text), .slice A n c] 62))) := by unfold Hid; (repeat with_reducible first | exact cR _ | assumption | refine cA ?_ _ | refine cD ?_ | refine cN ?_ _ | refine cS ?_ (by first | omega | (simp <;> omega)) _)
 have hk' := Lib.hid hk
 have h1' := Lib.hid h1
 have h8' := Lib.hid h8
 clear hB hk h1 h8 hbn
 unfold recVal
 rw [hk'.out]
 have g0 := hb0.cell 0; have g1 := hb0.cell 1; have g2 := hb0.cell 2; have g3 := hb0.cell 3; have g4 := hb0.cell 4; have g5 := hb0.cell 5; have g6 := hb0.cell 6; have g7 := hb0.cell 7
 go_enter Tryz.func82, Tryz.ntmps82
 go_wp2_with fail
 go_region_held3 (fun W => W.cell? ⟨w.heap.size, 0, none⟩ = some (.int .i64 (k : Int)) ∧ W.cell? ⟨w.heap.size, 1, none⟩ = some (.int .i64 r.num) ∧ W.cell? ⟨w.heap.size, 2, none⟩ = some (.int .i64 r.low) ∧ W.cell? ⟨w.heap.size, 3, none⟩ = some (.int .i64 r.high) ∧ W.cell? ⟨w.heap.size, 4, none⟩ = some (.float .f64 r.real) ∧ W.cell? ⟨w.heap.size, 5, none⟩ = some (.int .i64 r.cap) ∧ W.cell? ⟨w.heap.size, 6, none⟩ = some (.string (str r.text)) ∧ W.cell? ⟨w.heap.size, 7, none⟩ = some (.slice A n c) ∧ Hid (Cln w W))
  (first | exact recKeep hq (by assumption) | exact ⟨g0, g1, g2, g3, g4, g5, g6, g7, Lib.hid (Below.drew hcl.out)⟩)
  (first
   |(go_at_call 109; with_reducible refine (cF _).mono ?_; rintro e w' ⟨rfl, hq⟩)
   |(go_at_call 108; with_reducible refine (cO _).mono ?_; rintro e w' ⟨rfl, hq⟩))
 rename_i W1 hS
 have f0 := hS.1; have f1 := hS.2.1; have f2 := hS.2.2.1; have f3 := hS.2.2.2.1; have f4 := hS.2.2.2.2.1; have f5 := hS.2.2.2.2.2.1; have f6 := hS.2.2.2.2.2.2.1; have f7 := hS.2.2.2.2.2.2.2.1
 have hcl2 := hS.2.2.2.2.2.2.2.2
 have hS' := Lib.hid hS
 clear hS g0 g1 g2 g3 g4 g5 g6 g7 hb0
 cases hP : fproper r.real with
 | false =>
  have hF : Hid (checkRec r = 4) := by unfold Hid; rw [hE.out, if_pos hP]
  clear hE
  go_wp2_with ((go_at_call 81; refine (rproper_any _ hr _).mono ?_; rintro e w' ⟨rfl, rfl⟩))
  go_ret
  exact ⟨ret_int (by rw [hF.out]; rfl), hcl2.out⟩
 | true =>
 by_cases hc1 : r.cap < 1
 ·have hF : Hid (checkRec r = 1) := by unfold Hid; rw [hE.out, if_neg (by rw [hP]; simp), if_pos (.inl hc1)]
  have d1 : decide (r.cap < 1) = true := decide_eq_true hc1
  clear hE hc1
  go_wp2_with ((go_at_call 81; refine (rproper_any _ hr _).mono ?_; rintro e w' ⟨rfl, rfl⟩))
  go_ret
  exact ⟨ret_int (by rw [hF.out]; rfl), hcl2.out⟩
 have d1 : decide (r.cap < 1) = false := decide_eq_false hc1
 by_cases hc2 : 32 < r.cap
 ·have hF : Hid (checkRec r = 1) := by unfold Hid; rw [hE.out, if_neg (by rw [hP]; simp), if_pos (.inr hc2)]
  have d2 : decide (32 < r.cap) = true := decide_eq_true hc2
  clear hE hc1 hc2
  go_wp2_with ((go_at_call 81; refine (rproper_any _ hr _).mono ?_; rintro e w' ⟨rfl, rfl⟩))
  go_ret
  exact ⟨ret_int (by rw [hF.out]; rfl), hcl2.out⟩
 have d2 : decide (32 < r.cap) = false := decide_eq_false hc2
 by_cases hc3 : r.cap < (n : Int)
 ·have hF : Hid (checkRec r = 8) := by unfold Hid; rw [hE.out, if_neg (by rw [hP]; simp), if_neg (by omega), if_pos hc3]
  have d3 : decide (r.cap < (n : Int)) = true := decide_eq_true hc3
  clear hE hc1 hc2 hc3
  go_wp2_with ((go_at_call 81; refine (rproper_any _ hr _).mono ?_; rintro e w' ⟨rfl, rfl⟩))
  go_ret
  exact ⟨ret_int (by rw [hF.out]; rfl), hcl2.out⟩
 have d3 : decide (r.cap < (n : Int)) = false := decide_eq_false hc3
 have hF : Hid (checkRec r = itemsErr (k : Int) none r.list) := by unfold Hid; rw [hE.out, if_neg (by rw [hP]; simp), if_neg (by omega), if_neg hc3]
 clear hE hc1 hc2 hc3
 go_wp2_with ((go_at_call 81; refine (rproper_any _ hr _).mono ?_; rintro e w' ⟨rfl, rfl⟩))
 clear f0 f1 f2 f3 f4 f5 f6 f7 hcl2
 go_loopw [4] (fun v wr => ∃ i : Nat, i ≤ n ∧ v = .int .i64 (i : Nat) ∧ Hid (wr.cell? ⟨w.heap.size, 0, none⟩ = some (.int .i64 (k : Int)) ∧ wr.cell? ⟨w.heap.size, 1, none⟩ = some (.int .i64 r.num) ∧ wr.cell? ⟨w.heap.size, 2, none⟩ = some (.int .i64 r.low) ∧ wr.cell? ⟨w.heap.size, 3, none⟩ = some (.int .i64 r.high) ∧ wr.cell? ⟨w.heap.size, 4, none⟩ = some (.float .f64 r.real) ∧ wr.cell? ⟨w.heap.size, 5, none⟩ = some (.int .i64 r.cap) ∧ wr.cell? ⟨w.heap.size, 6, none⟩ = some (.string (str r.text)) ∧ wr.cell? ⟨w.heap.size, 7, none⟩ = some (.slice A n c) ∧ Hid (Cln w wr)) ∧ Hid (checkRec r = itemsErr (k : Int) (prevOf r.list i) (r.list.drop i))) (fun v _ => (n - intOf v).toNat)
 case atStart => exact ⟨0, Nat.zero_le _, rfl, hS', hF⟩
 case round =>
  obtain ⟨i, hi, rfl, hS, hH⟩ := hrel
  clear hS' hF
  have hclR := hS.out.2.2.2.2.2.2.2.2
  have hitr := hit.cln hclR.out
  have f0 := hS.out.1; have f7 := hS.out.2.2.2.2.2.2.2.1
  by_cases hlt : i < n
  ·have hstep := Lib.hid (hH.out.trans (itemsErr_step (k : Int) r.list i (by rw [hn.out]; exact hlt)))
   clear hH
   have cI := item_any (k : Int) r.list A n c i wr hitr hbi hlt
   generalize hq : itemErr (k : Int) (prevOf r.list i) (itAt r.list i) = q at hstep cI
   clear hq
   by_cases hq0 : q = 0
   ·subst hq0
    have hH2 : Hid (checkRec r = itemsErr (k : Int) (prevOf r.list (i + 1)) (r.list.drop (i + 1))) := by unfold Hid; rw [hstep.out, if_pos rfl]
    clear hstep
    go_wp2_with fail
    refine cI.mono ?_; rintro e w2 ⟨rfl, hq⟩
    have hS2 := Lib.hid (recKeep hq hS.out)
    clear cI hq f0 f7 hitr
    go_wp2_with fail
    go_roundw
    case rel => exact ⟨i + 1, hlt, by go_num, hS2, hH2⟩
    case measure => simp [intOf]; omega
   ·have hH2 : Hid (checkRec r = q) := by unfold Hid; rw [hstep.out, if_neg hq0]
    have z1 : (((q : Nat) : Int) == 0) = false := by rw [beq_eq_false_iff_ne]; omega
    have z2 : ¬ ((q : Nat) : Int) = 0 := by omega
    clear hstep
    go_wp2_with fail
    refine cI.mono ?_; rintro e w2 ⟨rfl, hq⟩
    have hS2 := recKeep hq hS.out
    have hcl3 := hS2.2.2.2.2.2.2.2.2
    clear cI hq f0 f7 hitr hS2
    go_wp2_with fail
    go_ret
    exact ⟨ret_int (by rw [hH2.out]), hcl3.out⟩
  ·obtain rfl : i = n := by omega
   have t3 : decide ((i : Int) < (i : Int)) = false := decide_eq_false (by omega)
   have hH2 : Hid (checkRec r = 0) := by unfold Hid; rw [hH.out, List.drop_of_length_le (by rw [hn.out]; exact Nat.le_refl _)]; rfl
   clear hH
   go_wp2_with fail
   go_ret
   exact ⟨ret_int (by rw [hH2.out]; rfl), hclR.out⟩
theorem rcheck_any (r : MRec) (A : Option Addr) (n c : Nat) (hb : n ≤ 140737488355328) (hf : r.WF) (w : World) (hr : RdItems w A n r.list) :
  Calls Tryz.prog 82 #[recVal r A n c] w fun e w' => e = .returned (.int .i64 (checkRec r : Nat)) ∧ Cln w w' := by
 by_cases hk : r.kind < 1 ∨ 9 < r.kind
 ·exact rcheck_bad r A n c hk w
 ·obtain ⟨k, hk2⟩ : ∃ k : Nat, r.kind = (k : Int) := ⟨r.kind.toNat, by omega⟩
  have h1 : 1 ≤ k ∧ k ≤ 9 := by omega
  cases hB : bareB r (shapeOf r.kind) with
  | false => exact rcheck_bare r k hk2 h1 A n c hr.len hf.real hB w
  | true =>
   by_cases h8 : k < 8
   ·exact rcheck_low r k hk2 h1 A n c hr.len hf.real hB h8 w
   ·exact rcheck_list r k hk2 h1 A n c hr.len hf.real hB (by omega) hb w hr
end Go.Proofs.YtbemnfbndjolpaaGreatDoor
