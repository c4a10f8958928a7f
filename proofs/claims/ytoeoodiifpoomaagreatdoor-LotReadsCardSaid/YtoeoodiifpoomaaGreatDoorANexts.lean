import Derived.Test.YtoeoodiifpoomaaGreatDoorNexts
import Derived.Test.YtoeoodiifpoomaaGreatDoorWRead
import Derived.StillTailTactics
import Derived.BigRegion
import Derived.Test.YtoeoodiifpoomaaGreatDoorWAct6
import Derived.Test.YtoeoodiifpoomaaGreatDoorWAct7
import Derived.Test.YtoeoodiifpoomaaGreatDoorPlain
import Derived.Test.YtoeoodiifpoomaaGreatDoorWActR
/- The document's First and Part, of a yes or no. -/
set_option linter.unusedSimpArgs false
set_option linter.unusedVariables false
set_option maxRecDepth 20000
namespace Go.Proofs.YtoeoodiifpoomaaGreatDoor
open Go.RowKit Moi
attribute [local go_sem] toList_str str_size less_ltB store_float
theorem zfin {w : World} {g : Nat} {t : TypeId} {a0 a1 a2 a3 a4 a5 a6 a7 a8 a9 a10 a11 a12 a13 : Value} (h : Blk w g t #[a0, a1, a2, a3, a4, a5, a6, a7, a8, a9, a10, a11, a12, a13]) : Blk (fill14 w g (.int .i64 0) (.string ⟨#[]⟩) (.int .i64 0) (.float .f64 0) (.string ⟨#[]⟩) (.int .i64 0) (.int .i64 0) (.int .i64 0) (.int .i64 0) (.float .f64 0) (.int .i64 0) (.string ⟨#[]⟩) (.slice none 0 0) (.bool false)) g t #[.int .i64 0, .string ⟨#[]⟩, .int .i64 0, .float .f64 0, .string ⟨#[]⟩, .int .i64 0, .int .i64 0, .int .i64 0, .int .i64 0, .float .f64 0, .int .i64 0, .string ⟨#[]⟩, .slice none 0 0, .bool false] := Blk.store14 h
theorem zres {tmps : Array Value} {W : World} {g : Nat} (hp : tmps.getD 2 undef = .pointer (some ⟨g, 0, none⟩)) (hb : Blk W g 90 #[.int .i64 0, .string ⟨#[]⟩, .int .i64 0, .float .f64 0, .string ⟨#[]⟩, .int .i64 0, .int .i64 0, .int .i64 0, .int .i64 0, .float .f64 0, .int .i64 0, .string ⟨#[]⟩, .slice none 0 0, .bool false]) : (results Tryz.f97 tmps).run Tryz.prog W = .ok (.agg #[.int .i64 0, .string ⟨#[]⟩, .int .i64 0, .float .f64 0, .string ⟨#[]⟩, .int .i64 0, .int .i64 0, .int .i64 0, .int .i64 0, .float .f64 0, .int .i64 0, .string ⟨#[]⟩, .slice none 0 0, .bool false]) W := results_cell_row Tryz.results97 _ _ g 90 #[.int .i64 0, .string ⟨#[]⟩, .int .i64 0, .float .f64 0, .string ⟨#[]⟩, .int .i64 0, .int .i64 0, .int .i64 0, .int .i64 0, .float .f64 0, .int .i64 0, .string ⟨#[]⟩, .slice none 0 0, .bool false] (0, 0) _ hp hb Tryz.underlying90 rfl size_act
theorem hzANexts0 (w : World) : Cln w ((w.alloc (.cells #[.int .i64 0, .string ⟨#[]⟩, .int .i64 0, .float .f64 0, .string ⟨#[]⟩, .int .i64 0, .int .i64 0, .int .i64 0, .int .i64 0, .float .f64 0, .int .i64 0, .string ⟨#[]⟩, .slice none 0 0, .bool false] 90)).alloc (.cells #[.int .i64 0, .string ⟨#[]⟩, .int .i64 0, .float .f64 0, .string ⟨#[]⟩, .int .i64 0, .int .i64 0, .int .i64 0, .int .i64 0, .float .f64 0, .int .i64 0, .string ⟨#[]⟩, .slice none 0 0, .bool false] 90)) := by (repeat with_reducible first | exact cR _ | assumption | refine cA ?_ _ | refine cD ?_ | refine cN ?_ _ | refine cS ?_ (by first | omega | (simp <;> omega)) _)
theorem field_part5 (x0 x1 x2 x3 : Int) (x4 : ByteArray) (x5 : Bool) (W : World) : (Instr.field 132 (.agg #[.int .u8 x0, .int .u64 x1, .int .i64 x2, .int .u64 x3, .string x4, .bool x5]) 5).run Tryz.prog W = .ok (.bool x5) W := by kernel_rfl
set_option maxHeartbeats 8000000 in
theorem first_b (A : Option Addr) (n c : Nat) (bs : List UInt8) (hn : n ≤ 140737488355328) (hc : n ≤ c) (m : Int) (w : World) (hr : RdBytes w A n bs) :
  Calls Tryz.prog 135 #[.slice A n c, .int .u8 98, .int .i64 m] w (FirstPost w (mapR .b (rFlag bs 0))) := by
 have hl := hr.len
 by_cases h0 : n = 0
 ·have t1 : decide ((n : Int) < 1) = true := decide_eq_true (by omega)
  have hI : Hid (rFlag bs 0 = .error (2, n)) := by unfold Hid rFlag rOne; rw [if_neg (by omega)]; rw [h0]
  clear hr hl h0
  go_enter Tryz.func135, Tryz.ntmps135
  go_wp2_with fail
  refine bodyPost_ret (results_ctt Tryz.results135 _ _ w.heap.size 132 #[.int .u8 98, .int .u64 0, .int .i64 0, .int .u64 0, .string ⟨#[]⟩, .bool false] (0, 0) _ rfl ?_ Tryz.underlying132 rfl size_part) rfl ⟨?_, ?_⟩
  ·show Blk _ w.heap.size 132 _
   with_reducible exact (Blk.new w _ _).alloc _
  ·(repeat with_reducible first | exact cR _ | assumption | refine cA ?_ _ | refine cD ?_ | refine cN ?_ _ | refine cS ?_ (by first | omega | (simp <;> omega)) _)
  ·rw [hI.out]; exact ⟨_, _, _, _, _, _, rfl⟩
 ·have t1 : decide ((n : Int) < 1) = false := decide_eq_false (by omega)
  obtain ⟨b, o, rfl, hblt, hcell⟩ := hr.cells (by omega)
  have hc0 := hcell 0 (by omega)
  rw [Nat.add_zero] at hc0
  have hO : rOne bs 0 = .ok (byteAt bs 0, 1) := by unfold rOne; rw [if_pos (by omega)]; rfl
  have hi0 : (0 : Int) < (n : Int) := by omega
  have hi1 : 0 < n := by omega
  have hne0 : ¬ b = w.heap.size := by omega
  have hne1 : ¬ b = w.heap.size + 1 := by omega
  by_cases h1 : 1 < byteAt bs 0
  ·have hI : Hid (rFlag bs 0 = .error (4, 1)) := by unfold Hid rFlag; rw [hO]; simp only []; rw [if_pos h1]
   have t2 : decide (1 < ((byteAt bs 0 : Nat) : Int)) = true := decide_eq_true (by omega)
   have t3 : (((byteAt bs 0 : Nat) : Int) == 1) = false := by rw [beq_eq_false_iff_ne]; omega
   clear hcell hr hO h1
   generalize byteAt bs 0 = x at hc0 t2 t3
   go_enter Tryz.func135, Tryz.ntmps135
   go_wp2_with fail
   refine bodyPost_ret (results_ctt Tryz.results135 _ _ w.heap.size 132 #[.int .u8 98, .int .u64 0, .int .i64 0, .int .u64 0, .string ⟨#[]⟩, .bool false] (0, 0) _ rfl ?_ Tryz.underlying132 rfl size_part) rfl ⟨?_, ?_⟩
   ·show Blk _ w.heap.size 132 _
    with_reducible exact (Blk.new w _ _).alloc _
   ·(repeat with_reducible first | exact cR _ | assumption | refine cA ?_ _ | refine cD ?_ | refine cN ?_ _ | refine cS ?_ (by first | omega | (simp <;> omega)) _)
   ·rw [hI.out]; exact ⟨_, _, _, _, _, _, rfl⟩
  ·have hI : Hid (rFlag bs 0 = .ok (decide (byteAt bs 0 = 1), 1)) := by unfold Hid rFlag; rw [hO]; simp only []; rw [if_neg h1]
   have t2 : decide (1 < ((byteAt bs 0 : Nat) : Int)) = false := decide_eq_false (by omega)
   have t3 : (((byteAt bs 0 : Nat) : Int) == 1) = decide (byteAt bs 0 = 1) := by rw [Bool.eq_iff_iff, beq_iff_eq, decide_eq_true_iff]; omega
   clear hcell hr hO h1
   generalize decide (byteAt bs 0 = 1) = y at hI t3
   generalize byteAt bs 0 = x at hc0 t2 t3
   go_enter Tryz.func135, Tryz.ntmps135
   go_wp2_with fail
   refine bodyPost_ret (results_ctt Tryz.results135 _ _ w.heap.size 132 #[.int .u8 98, .int .u64 0, .int .i64 0, .int .u64 0, .string ⟨#[]⟩, .bool y] (0, 0) _ rfl ?_ Tryz.underlying132 rfl size_part) rfl ⟨?_, ?_⟩
   ·show Blk _ w.heap.size 132 _
    with_reducible exact (Blk.new w _ _).alloc _
   ·(repeat with_reducible first | exact cR _ | assumption | refine cA ?_ _ | refine cD ?_ | refine cN ?_ _ | refine cS ?_ (by first | omega | (simp <;> omega)) _)
   ·rw [hI.out]; rfl
theorem rFlag_sh (b : List UInt8) (s : Nat) : rFlag b s = shR s (rFlag (b.drop s) 0) := by
 unfold rFlag; rw [show rOne b s = _ from rOne_sh b s 0]
 cases h : rOne (b.drop s) 0 with
 | error e => rfl
 | ok x =>
  obtain ⟨x, a⟩ := x
  simp only [shR]
  split <;> rfl
theorem rFlag_pos (b : List UInt8) : posR (rFlag b 0) ≤ b.length := by
 have h := rOne_pos (b := b) (a := 0) (Nat.zero_le _)
 unfold rFlag
 cases e : rOne b 0 with
 | error e' => rw [e] at h; exact h
 | ok x =>
  obtain ⟨x, a⟩ := x
  rw [e] at h
  have h : a ≤ b.length := h
  simp only []
  split <;> exact h
theorem rFlag_nz' {b : List UInt8} {e : RErr} {a : Nat} (h : rFlag b a = .error e) : e.1 ≠ 0 := by
 unfold rFlag at h
 split at h
 ·rename_i h1; exact nz_of h (rOne_nz h1)
 ·split at h
  ·exact nz_of h (by simp)
  ·cases h
theorem part_b (p : Nat) (A : Option Addr) (n c : Nat) (bs : List UInt8) (a : Nat) (w : World) (hE : IsE w p A n c bs a 0) (m : Int) :
  Calls Tryz.prog 96 #[.pointer (some ⟨p, 0, none⟩), .int .u8 98, .int .i64 m] w (PartPost w p A n c bs (mapR .b (rFlag bs a))) := by
 have hl : (bs.drop a).length = n - a := by rw [List.length_drop, hE.rd.len]
 have h := eye_part p A n c bs a 98 m (mapR .b (rFlag (bs.drop a) 0)) (by rw [posR_mapR, ← hl]; exact rFlag_pos _) (fun cd k h => rFlag_nz' (mapR_err h))
  (fun W A' c' hc hr => first_b A' (n - a) c' (bs.drop a) (by have := hE.big; omega) hc m W hr) w hE
 rw [shR_mapR, ← rFlag_sh] at h
 exact h
theorem part_b_st (p : Nat) (A : Option Addr) (n c : Nat) (bs : List UInt8) (a er : Nat) (w : World) (hE : IsE w p A n c bs a er) (m : Int) {x : Bool} {a' er' : Nat} (h : nxt (rFlag bs) false a er = (x, a', er')) : Calls Tryz.prog 96 #[.pointer (some ⟨p, 0, none⟩), .int .u8 98, .int .i64 m] w fun e w' =>
  (∃ (x0 x1 x2 x3 : Int) (x4 : ByteArray), e = .returned (.agg #[.int .u8 x0, .int .u64 x1, .int .i64 x2, .int .u64 x3, .string x4, .bool x])) ∧ IsE w' p A n c bs a' er' ∧ Kept (· = p) w w' := by
 by_cases hz : er = 0
 ·subst hz
  refine (part_b p A n c bs a w hE m).mono ?_
  intro e w' hP
  cases hS : rFlag bs a with
  | error y =>
   obtain ⟨cd, a1⟩ := y
   rw [hS] at hP; obtain ⟨rfl, h1, h2⟩ := hP
   rw [nxt_err hS] at h; injection h with h3 h4; injection h4 with h4 h5; subst h3; subst h4; subst h5
   exact ⟨⟨_, _, _, _, _, rfl⟩, h1, h2⟩
  | ok y =>
   obtain ⟨y, a1⟩ := y
   rw [hS] at hP; obtain ⟨rfl, h1, h2⟩ := hP
   rw [nxt_ok hS] at h; injection h with h3 h4; injection h4 with h4 h5; subst h3; subst h4; subst h5
   exact ⟨⟨_, _, _, _, _, rfl⟩, h1, h2⟩
 ·rw [nxt_old hz] at h; injection h with h3 h4; injection h4 with h4 h5; subst h3; subst h4; subst h5
  refine (eye_failed p A n c bs a er hz 98 m w hE).mono ?_
  rintro e w' ⟨rfl, hq⟩
  exact ⟨⟨_, _, _, _, _, rfl⟩, hE.cln hq, Kept.of_below hq⟩
theorem next_any (p : Nat) (A : Option Addr) (n c : Nat) (bs : List UInt8) (a : Nat) (w : World) (hE : IsE w p A n c bs a 0) (hA : ∀ ad, A = some ad → ad.block < w.heap.size) :
  Calls Tryz.prog 137 #[.pointer (some ⟨p, 0, none⟩)] w (NextPost w p A n c bs (rRec bs a)) := by
 cases h : rUpto 9 bs a with
 | error er => obtain ⟨cd, a1⟩ := er; exact next_err p A n c bs a w hE hA cd a1 h
 | ok x =>
  obtain ⟨k, a1⟩ := x
  have hk := rUpto_le h
  have hcases : k = 0 ∨ k = 1 ∨ k = 2 ∨ k = 3 ∨ k = 4 ∨ k = 5 ∨ k = 6 ∨ k = 7 ∨ k = 8 ∨ k = 9 := by omega
  rcases hcases with h0 | h0 | h0 | h0 | h0 | h0 | h0 | h0 | h0 | h0
  all_goals subst h0
  ·exact next_zero p A n c bs a w hE hA a1 h
  ·exact next_text p A n c bs a w hE hA a1 h
  ·exact next_num2 p A n c bs a w hE hA a1 h
  ·exact next_num3 p A n c bs a w hE hA a1 h
  ·exact next_purse p A n c bs a w hE hA a1 h
  ·exact next_real5 p A n c bs a w hE hA a1 h
  ·exact next_real6 p A n c bs a w hE hA a1 h
  ·exact next_real7 p A n c bs a w hE hA a1 h
  ·exact next_set p A n c bs a w hE hA a1 h
  ·exact next_top p A n c bs a w hE hA a1 h
theorem end_old (p : Nat) (A : Option Addr) (n c : Nat) (bs : List UInt8) (a er : Nat) (hz : er ≠ 0) (w : World) (hE : IsE w p A n c bs a er) :
  Calls Tryz.prog 64 #[.pointer (some ⟨p, 0, none⟩)] w fun e w' => e = .returned (.tuple #[]) ∧ Cln w w' := by
 by_cases ha : a < n
 case neg =>
  obtain rfl : a = n := by have := hE.le; omega
  exact end_full p A a c bs er w hE
 have c0 := hE.blk.cell 0; have c1 := hE.blk.cell 1
 have t1 : decide ((a : Int) < (n : Int)) = true := decide_eq_true (by omega)
 have t1' : decide (a < n) = true := decide_eq_true ha
 have hEH := Lib.hid hE
 clear hE
 go_enter Tryz.func64, Tryz.ntmps64
 go_wp2_with fail
 go_quiet (fail)
 go_wp2_with fail
 refine (fail_old p A n c bs a er hz 3 _ (hEH.out.cln (by (repeat with_reducible first | exact cR _ | assumption | refine cA ?_ _ | refine cD ?_ | refine cN ?_ _ | refine cS ?_ (by first | omega | (simp <;> omega)) _)))).mono ?_
 rintro e w1 ⟨rfl, rfl⟩
 go_wp2_with fail
 go_end0
 exact ⟨rfl, by (repeat with_reducible first | exact cR _ | assumption | refine cA ?_ _ | refine cD ?_ | refine cN ?_ _ | refine cS ?_ (by first | omega | (simp <;> omega)) _)⟩
theorem eStep {α β : Type} {r : Nat → RRes α} {d : α} {cont : α → Nat → RRes β} (hnz : ∀ a e, r a = .error e → e.1 ≠ 0) {a er a' er' : Nat} {x : α} (h : nxt r d a er = (x, a', er')) :
  (if er = 0 then (match r a with | .error e => .error e | .ok (x, a) => cont x a) else .error (er, a)) = (if er' = 0 then cont x a' else (.error (er', a') : RRes β)) := by
 by_cases hz : er = 0
 ·subst hz
  rw [if_pos rfl]
  cases hr : r a with
  | error e =>
   obtain ⟨cd, b⟩ := e
   have hc : cd ≠ 0 := hnz _ _ hr
   rw [nxt_err hr, Prod.mk.injEq, Prod.mk.injEq] at h; obtain ⟨rfl, rfl, rfl⟩ := h
   rw [if_neg hc]
  | ok y =>
   obtain ⟨y, b⟩ := y
   rw [nxt_ok hr, Prod.mk.injEq, Prod.mk.injEq] at h; obtain ⟨rfl, rfl, rfl⟩ := h
   rw [if_pos rfl]
 ·rw [nxt_old hz, Prod.mk.injEq, Prod.mk.injEq] at h; obtain ⟨rfl, rfl, rfl⟩ := h
  rw [if_neg hz, if_neg hz]
set_option maxHeartbeats 4000000 in
theorem next_old (p : Nat) (A : Option Addr) (n c : Nat) (bs : List UInt8) (a er : Nat) (hz : er ≠ 0) (w : World) (hE : IsE w p A n c bs a er) (hA : ∀ ad, A = some ad → ad.block < w.heap.size) :
  Calls Tryz.prog 137 #[.pointer (some ⟨p, 0, none⟩)] w fun e w' => e = .returned (recVal zeroRec none 0 0) ∧ Cln w w' := by
 have hp0 := hE.blk.lt
 have hAne : ∀ ad, A = some ad → ¬ ad.block = w.heap.size + 1 := fun ad e => by have := hA ad e; omega
 have t1 : (((er : Nat) : Int) == 0) = false := by rw [beq_eq_false_iff_ne]; omega
 have t2 : (((er : Nat) : Int) != 0) = true := by rw [bne_iff_ne]; omega
 have hcl0 : Cln w ((w.alloc (.cells #[.int .i64 0, .int .i64 0, .int .i64 0, .int .i64 0, .float .f64 0, .int .i64 0, .string ⟨#[]⟩, .slice none 0 0] 83)).alloc (.cells #[.int .i64 0, .int .i64 0, .int .i64 0, .int .i64 0, .float .f64 0, .int .i64 0, .string ⟨#[]⟩, .slice none 0 0] 83)) := by (repeat with_reducible first | exact cR _ | assumption | refine cA ?_ _ | refine cD ?_ | refine cN ?_ _ | refine cS ?_ (by first | omega | (simp <;> omega)) _)
 have hb2 := (Blk.new w 83 #[.int .i64 0, .int .i64 0, .int .i64 0, .int .i64 0, .float .f64 0, .int .i64 0, .string ⟨#[]⟩, .slice none 0 0]).alloc (.cells #[.int .i64 0, .int .i64 0, .int .i64 0, .int .i64 0, .float .f64 0, .int .i64 0, .string ⟨#[]⟩, .slice none 0 0] 83)
 have hb3 := Blk.new (w.alloc (.cells #[.int .i64 0, .int .i64 0, .int .i64 0, .int .i64 0, .float .f64 0, .int .i64 0, .string ⟨#[]⟩, .slice none 0 0] 83)) 83 #[.int .i64 0, .int .i64 0, .int .i64 0, .int .i64 0, .float .f64 0, .int .i64 0, .string ⟨#[]⟩, .slice none 0 0]
 rw [World.size_alloc] at hb3
 go_enter Tryz.func137, Tryz.ntmps137
 go_wp2_with fail
 refine (upto_old p A n c bs a er hz 9 _ (hE.cln hcl0)).mono ?_
 rintro e w1 ⟨rfl, hq⟩
 have hcl1 := Lib.hid (cln_trans hcl0 hq)
 have hE1 := Lib.hid (hE.cln hcl1.out)
 have hb2w := Lib.hid (hb2.cln hq); have hb3w := Lib.hid (hb3.cln hq)
 have c3 := hb3w.out.cell; have f3 := hb3w.out.frozen; have l3 := hb3w.out.lt
 have hne3 : ¬ p = w.heap.size + 1 := by omega
 have hne2 : ¬ p = w.heap.size := by omega
 clear hE hq hb2 hb3 hcl0
 go_wp2_with fail
 have hEs : IsE (w1.setCell ⟨w.heap.size + 1, 0, none⟩ (.int .i64 0)) p A n c bs a er := hE1.out.kept (keptSet w1 (w.heap.size + 1) 0 (.int .i64 0)) (by omega) (fun ad e h2 => hAne ad e h2)
 refine (fail_old p A n c bs a er hz 5 _ hEs).mono ?_
 rintro e w2 ⟨rfl, rfl⟩
 have cE := hE1.out.blk.cell 2
 have k30 := hb3w.out.cell 0
 have c2 := hb2w.out.cell; have f2 := hb2w.out.frozen; have l2 := hb2w.out.lt
 have hn23 : ¬ w.heap.size = w.heap.size + 1 := by omega
 clear hEs c3 f3
 go_wp2_with fail
 refine bodyPost_ret (v := .agg #[.int .i64 0, .int .i64 0, .int .i64 0, .int .i64 0, .float .f64 0, .int .i64 0, .string ⟨#[]⟩, .slice none 0 0]) ?_ rfl ?_
 ·refine results_cell_row Tryz.results137 _ _ w.heap.size 83 #[.int .i64 0, .int .i64 0, .int .i64 0, .int .i64 0, .float .f64 0, .int .i64 0, .string ⟨#[]⟩, .slice none 0 0] (0, 0) _ ?_ ?_ Tryz.underlying83 ?_ ?_
  ·rfl
  ·show Blk _ w.heap.size 83 _
   with_reducible refine Blk.store8 (a0 := .int .i64 0) (a1 := .int .i64 0) (a2 := .int .i64 0) (a3 := .int .i64 0) (a4 := .float .f64 0) (a5 := .int .i64 0) (a6 := .string ⟨#[]⟩) (a7 := .slice none 0 0) ?_
   repeat (first | with_reducible refine Blk.far ?_ (by dsimp only; omega) _ | with_reducible exact hb2w.out)
  ·rfl
  ·exact size_rec
 ·have hcl2 := hcl1.out
  exact ⟨rfl, by (repeat with_reducible first | exact cR _ | assumption | refine cA ?_ _ | refine cD ?_ | refine cN ?_ _ | refine cS ?_ (by first | omega | (simp <;> omega)) _)⟩
def ANextPost (w : World) (p : Nat) (A : Option Addr) (n c : Nat) (bs : List UInt8) (res : RRes MAct) (e : Ending) (w' : World) : Prop :=
 match res with
 | .ok (r, a) => ∃ AL nL cL, e = .returned (actVal r AL nL cL) ∧ RdItems w' AL nL r.make.list ∧ nL ≤ 32 ∧ (∀ ad, AL = some ad → w.heap.size ≤ ad.block) ∧ IsE w' p A n c bs a 0 ∧ Kept (· = p) w w'
 | .error (cd, a) => e = .returned (actVal zeroAct none 0 0) ∧ IsE w' p A n c bs a cd ∧ Kept (· = p) w w'
structure AEy (w0 : World) (p : Nat) (A : Option Addr) (n c : Nat) (bs : List UInt8) (cs1 : Array Value) (wk : World) (a er : Nat) : Prop where
 e : IsE wk p A n c bs a er
 K : Kept (· = p) w0 wk
 b0 : Blk wk w0.heap.size 90 #[.int .i64 0, .string ⟨#[]⟩, .int .i64 0, .float .f64 0, .string ⟨#[]⟩, .int .i64 0, .int .i64 0, .int .i64 0, .int .i64 0, .float .f64 0, .int .i64 0, .string ⟨#[]⟩, .slice none 0 0, .bool false]
 b1 : Blk wk (w0.heap.size + 1) 90 cs1
 Bp : p < w0.heap.size
 BA : ∀ ad, A = some ad → ad.block < w0.heap.size
section
variable {w0 : World} {p : Nat} {A : Option Addr} {n c : Nat} {bs : List UInt8} {cs1 : Array Value} {wk w' : World} {a er a' er' : Nat}
theorem AEy.step (h : AEy w0 p A n c bs cs1 wk a er) (hr : IsE w' p A n c bs a' er') (hk : Kept (· = p) wk w') : AEy w0 p A n c bs cs1 w' a' er' :=
 ⟨hr, h.K.then_ hk (fun i _ h => h), h.b0.kept hk (fun e => by have := h.Bp; omega), h.b1.kept hk (fun e => by have := h.Bp; omega), h.Bp, h.BA⟩
theorem AEy.cln (h : AEy w0 p A n c bs cs1 wk a er) (hk : Cln wk w') : AEy w0 p A n c bs cs1 w' a er := h.step (h.e.cln hk) (Kept.of_below hk)
theorem AEy.store (h : AEy w0 p A n c bs cs1 wk a er) (i : Nat) (v : Value) {cs1' : Array Value} (e : cs1.setIfInBounds i v = cs1') : AEy w0 p A n c bs cs1' (wk.setCell ⟨w0.heap.size + 1, i, none⟩ v) a er :=
 ⟨h.e.other (by have := h.Bp; dsimp only; omega) (fun ad e => by have := h.BA ad e; dsimp only; omega) v, h.K.setCell (p := ⟨w0.heap.size + 1, i, none⟩) (fun hl => by exfalso; dsimp only at hl; omega) v,
  h.b0.far (by dsimp only; omega) v, Blk.store1 h.b1 i v e, h.Bp, h.BA⟩
end
theorem nxt_nz {α : Type} {f : Nat → RRes α} {d x : α} {a er a' er' : Nat} (hz : ¬ er = 0) (h : nxt f d a er = (x, a', er')) : ¬ er' = 0 := by
 rw [nxt_old hz, Prod.mk.injEq, Prod.mk.injEq] at h; obtain ⟨_, _, rfl⟩ := h; exact hz
theorem stepMust {k : Nat} {bs : List UInt8} {a er a' er' : Nat} {x : Bool} (h : nxt (rFlag bs) false a er = (x, a', er')) :
  (if er = 0 then aMust k bs a else .error (er, a)) = (if er' = 0 then aKey k x bs a' else .error (er', a')) := by
 by_cases hz : er = 0
 ·subst hz
  rw [if_pos rfl]
  unfold aMust
  cases hr : rFlag bs a with
  | error e =>
   obtain ⟨cd, b⟩ := e
   have hc : cd ≠ 0 := rFlag_nz' hr
   rw [nxt_err hr, Prod.mk.injEq, Prod.mk.injEq] at h; obtain ⟨rfl, rfl, rfl⟩ := h
   rw [if_neg hc]
  | ok y =>
   obtain ⟨y, b⟩ := y
   rw [nxt_ok hr, Prod.mk.injEq, Prod.mk.injEq] at h; obtain ⟨rfl, rfl, rfl⟩ := h
   rw [if_pos rfl]
 ·rw [nxt_old hz, Prod.mk.injEq, Prod.mk.injEq] at h; obtain ⟨rfl, rfl, rfl⟩ := h
  rw [if_neg hz, if_neg hz]
theorem stepKey {k : Nat} {must : Bool} {bs : List UInt8} {a er a' er' : Nat} {x : List UInt8} (h : nxt (rS 24 bs) [] a er = (x, a', er')) :
  (if er = 0 then aKey k must bs a else .error (er, a)) = (if er' = 0 then aN k must x bs a' else .error (er', a')) := by
 by_cases hz : er = 0
 ·subst hz
  rw [if_pos rfl]
  unfold aKey
  cases hr : rS 24 bs a with
  | error e =>
   obtain ⟨cd, b⟩ := e
   have hc : cd ≠ 0 := rS_nz hr
   rw [nxt_err hr, Prod.mk.injEq, Prod.mk.injEq] at h; obtain ⟨rfl, rfl, rfl⟩ := h
   rw [if_neg hc]
  | ok y =>
   obtain ⟨y, b⟩ := y
   rw [nxt_ok hr, Prod.mk.injEq, Prod.mk.injEq] at h; obtain ⟨rfl, rfl, rfl⟩ := h
   rw [if_pos rfl]
 ·rw [nxt_old hz, Prod.mk.injEq, Prod.mk.injEq] at h; obtain ⟨rfl, rfl, rfl⟩ := h
  rw [if_neg hz, if_neg hz]
theorem stepN {k : Nat} {must : Bool} {key bs : List UInt8} {a er a' er' : Nat} {x : Int} (hh : hasF k 110 = true) (h : nxt (rI bs) 0 a er = (x, a', er')) :
  (if er = 0 then aN k must key bs a else .error (er, a)) = (if er' = 0 then aX k must key x bs a' else .error (er', a')) := by
 by_cases hz : er = 0
 ·subst hz
  rw [if_pos rfl]
  unfold aN
  rw [hh]
  cases hr : rI bs a with
  | error e =>
   obtain ⟨cd, b⟩ := e
   have hc : cd ≠ 0 := rI_nz hr
   rw [nxt_err hr, Prod.mk.injEq, Prod.mk.injEq] at h; obtain ⟨rfl, rfl, rfl⟩ := h
   rw [if_neg hc]; simp only [if_true, hr]
  | ok y =>
   obtain ⟨y, b⟩ := y
   rw [nxt_ok hr, Prod.mk.injEq, Prod.mk.injEq] at h; obtain ⟨rfl, rfl, rfl⟩ := h
   rw [if_pos rfl]; simp only [if_true, hr]
 ·rw [nxt_old hz, Prod.mk.injEq, Prod.mk.injEq] at h; obtain ⟨rfl, rfl, rfl⟩ := h
  rw [if_neg hz, if_neg hz]
theorem stepX {k : Nat} {must : Bool} {key bs : List UInt8} {n : Int} {a er a' er' : Nat} {x : Nat} (hh : hasF k 120 = true) (h : nxt (rF bs) (funkey 0) a er = (x, a', er')) :
  (if er = 0 then aX k must key n bs a else .error (er, a)) = (if er' = 0 then aS k must key n x bs a' else .error (er', a')) := by
 by_cases hz : er = 0
 ·subst hz
  rw [if_pos rfl]
  unfold aX
  rw [hh]
  cases hr : rF bs a with
  | error e =>
   obtain ⟨cd, b⟩ := e
   have hc : cd ≠ 0 := rF_nz hr
   rw [nxt_err hr, Prod.mk.injEq, Prod.mk.injEq] at h; obtain ⟨rfl, rfl, rfl⟩ := h
   rw [if_neg hc]; simp only [if_true, hr]
  | ok y =>
   obtain ⟨y, b⟩ := y
   rw [nxt_ok hr, Prod.mk.injEq, Prod.mk.injEq] at h; obtain ⟨rfl, rfl, rfl⟩ := h
   rw [if_pos rfl]; simp only [if_true, hr]
 ·rw [nxt_old hz, Prod.mk.injEq, Prod.mk.injEq] at h; obtain ⟨rfl, rfl, rfl⟩ := h
  rw [if_neg hz, if_neg hz]
theorem stepS {k : Nat} {must : Bool} {key bs : List UInt8} {n : Int} {xx : Nat} {a er a' er' : Nat} {x : List UInt8} (hh : hasF k 115 = true) (h : nxt (rS (mostOf k) bs) [] a er = (x, a', er')) :
  (if er = 0 then aS k must key n xx bs a else .error (er, a)) = (if er' = 0 then aM k must key n xx x bs a' else .error (er', a')) := by
 by_cases hz : er = 0
 ·subst hz
  rw [if_pos rfl]
  unfold aS
  rw [hh]
  cases hr : rS (mostOf k) bs a with
  | error e =>
   obtain ⟨cd, b⟩ := e
   have hc : cd ≠ 0 := rS_nz hr
   rw [nxt_err hr, Prod.mk.injEq, Prod.mk.injEq] at h; obtain ⟨rfl, rfl, rfl⟩ := h
   rw [if_neg hc]; simp only [if_true, hr]
  | ok y =>
   obtain ⟨y, b⟩ := y
   rw [nxt_ok hr, Prod.mk.injEq, Prod.mk.injEq] at h; obtain ⟨rfl, rfl, rfl⟩ := h
   rw [if_pos rfl]; simp only [if_true, hr]
 ·rw [nxt_old hz, Prod.mk.injEq, Prod.mk.injEq] at h; obtain ⟨rfl, rfl, rfl⟩ := h
  rw [if_neg hz, if_neg hz]
theorem aN_no {k : Nat} {must : Bool} {key bs : List UInt8} {a : Nat} (h : hasF k 110 = false) : aN k must key bs a = aX k must key 0 bs a := by unfold aN; rw [h]; rfl
theorem aX_no {k : Nat} {must : Bool} {key bs : List UInt8} {n : Int} {a : Nat} (h : hasF k 120 = false) : aX k must key n bs a = aS k must key n 0 bs a := by unfold aX; rw [h]; rfl
theorem aS_no {k : Nat} {must : Bool} {key bs : List UInt8} {n : Int} {x a : Nat} (h : hasF k 115 = false) : aS k must key n x bs a = aM k must key n x [] bs a := by unfold aS; rw [h]; rfl
theorem aM_yes {k : Nat} {must : Bool} {key s bs : List UInt8} {n : Int} {x a : Nat} (h : hasF k 109 = true) : aM k must key n x s bs a = (match rRec bs a with | .error e => .error e | .ok (m, a) => aDone ⟨k, key, n, x, s, m, must⟩ a) := by unfold aM; rw [h]; rfl
theorem aM_no {k : Nat} {must : Bool} {key s bs : List UInt8} {n : Int} {x a : Nat} (h : hasF k 109 = false) : aM k must key n x s bs a = aDone ⟨k, key, n, x, s, zeroRec, must⟩ a := by unfold aM; rw [h]; rfl
set_option maxHeartbeats 8000000 in
theorem anext_none (p : Nat) (A : Option Addr) (n c : Nat) (bs : List UInt8) (a : Nat) (w : World) (hE : IsE w p A n c bs a 0) (hA : ∀ ad, A = some ad → ad.block < w.heap.size) (k a1 : Nat) (hk1 : 1 ≤ k ∧ k ≤ 21) (hU : rUpto 21 bs a = .ok (k, a1))
  (hN : hasF (k : Int) 110 = false) (hX : hasF (k : Int) 120 = false) (hS : hasF (k : Int) 115 = false) (hM : hasF (k : Int) 109 = false) (he : k ≠ 1) :
  Calls Tryz.prog 97 #[.pointer (some ⟨p, 0, none⟩)] w (ANextPost w p A n c bs (rAct bs a)) := by
 have hsp1 : Hid (rAct bs a = aMust k bs a1) := by unfold Hid rAct; simp only [hU]; rw [if_neg (by omega)]
 have hp0 := hE.blk.lt
 have t0 : ((k : Int) == 0) = false := by rw [beq_eq_false_iff_ne]; omega
 have tk1 : ((k : Int) == 1) = false := by rw [beq_eq_false_iff_ne]; omega
 have hkW : Hid (-9223372036854775808 ≤ (k : Int) ∧ (k : Int) < 9223372036854775808) := ⟨by omega, by omega⟩
 have f110 : ∀ W, Calls Tryz.prog 106 #[.int .i64 (k : Int), .int .u8 110] W fun e w' => e = .returned (.bool false) ∧ Cln W w' := fun W => hN ▸ rhas_any k 110 W
 have f120 : ∀ W, Calls Tryz.prog 106 #[.int .i64 (k : Int), .int .u8 120] W fun e w' => e = .returned (.bool false) ∧ Cln W w' := fun W => hX ▸ rhas_any k 120 W
 have f115 : ∀ W, Calls Tryz.prog 106 #[.int .i64 (k : Int), .int .u8 115] W fun e w' => e = .returned (.bool false) ∧ Cln W w' := fun W => hS ▸ rhas_any k 115 W
 have fon : ∀ W, Calls Tryz.prog 107 #[.int .i64 (k : Int)] W fun e w' => e = .returned (.int .i64 (onOf k : Nat)) ∧ Cln W w' := fun W => ron_any k W
 have hcl0 := hzANexts0 w
 have hb2 := (Blk.new w 90 #[.int .i64 0, .string ⟨#[]⟩, .int .i64 0, .float .f64 0, .string ⟨#[]⟩, .int .i64 0, .int .i64 0, .int .i64 0, .int .i64 0, .float .f64 0, .int .i64 0, .string ⟨#[]⟩, .slice none 0 0, .bool false]).alloc (.cells #[.int .i64 0, .string ⟨#[]⟩, .int .i64 0, .float .f64 0, .string ⟨#[]⟩, .int .i64 0, .int .i64 0, .int .i64 0, .int .i64 0, .float .f64 0, .int .i64 0, .string ⟨#[]⟩, .slice none 0 0, .bool false] 90)
 have hb3 := Blk.new (w.alloc (.cells #[.int .i64 0, .string ⟨#[]⟩, .int .i64 0, .float .f64 0, .string ⟨#[]⟩, .int .i64 0, .int .i64 0, .int .i64 0, .int .i64 0, .float .f64 0, .int .i64 0, .string ⟨#[]⟩, .slice none 0 0, .bool false] 90)) 90 #[.int .i64 0, .string ⟨#[]⟩, .int .i64 0, .float .f64 0, .string ⟨#[]⟩, .int .i64 0, .int .i64 0, .int .i64 0, .int .i64 0, .float .f64 0, .int .i64 0, .string ⟨#[]⟩, .slice none 0 0, .bool false]
 rw [World.size_alloc] at hb3
 go_enter Tryz.func97, Tryz.ntmps97
 go_wp2_with fail
 refine (upto_new p A n c bs a 21 (by decide) _ (hE.cln hcl0)).mono ?_
 intro e w1 hP
 rw [hU] at hP
 obtain ⟨rfl, hE1, hk⟩ := hP
 have st0 : AEy w p A n c bs #[.int .i64 0, .string ⟨#[]⟩, .int .i64 0, .float .f64 0, .string ⟨#[]⟩, .int .i64 0, .int .i64 0, .int .i64 0, .int .i64 0, .float .f64 0, .int .i64 0, .string ⟨#[]⟩, .slice none 0 0, .bool false] w1 a1 0 := ⟨hE1, (Kept.of_below (S := fun i => i = p) hcl0).then_ hk (fun i _ h => h), hb2.kept hk (by omega), hb3.kept hk (by omega), hp0, hA⟩
 have st1 := Lib.hid (st0.store (cs1' := #[.int .i64 (k : Int), .string ⟨#[]⟩, .int .i64 0, .float .f64 0, .string ⟨#[]⟩, .int .i64 0, .int .i64 0, .int .i64 0, .int .i64 0, .float .f64 0, .int .i64 0, .string ⟨#[]⟩, .slice none 0 0, .bool false]) 0 (.int .i64 (k : Int)) rfl)
 have c1 := st0.b1.cell 0; have d1 := st0.b1.frozen 0; have l1 := st0.b1.lt
 replace he := Lib.hid he; replace hk1 := Lib.hid hk1
 replace hN := Lib.hid hN; replace hX := Lib.hid hX; replace hS := Lib.hid hS; replace hM := Lib.hid hM
 clear hE hE1 hk hb2 hb3 hcl0 st0
 go_wp2_with fail
 clear c1 d1 l1
 rcases hn1 : nxt (rFlag bs) false a1 0 with ⟨must, a2, e2⟩
 have hsp2 : Hid (rAct bs a = if e2 = 0 then aKey k must bs a2 else .error (e2, a2)) := by
  exact hsp1.out.trans ((if_pos rfl).symm.trans (stepMust hn1))
 refine (part_b_st p A n c bs a1 0 _ st1.out.e 0 hn1).mono ?_
 rintro e v2 ⟨⟨_, _, _, _, _, rfl⟩, hE2, hk2⟩
 have sm2 := st1.out.step hE2 hk2
 clear hE2 hk2 hn1 
 have c2 := sm2.b1.cell; have d2 := sm2.b1.frozen; have l2 := sm2.b1.lt
 have st2 := Lib.hid (sm2.store (cs1' := #[.int .i64 (k : Int), .string ⟨#[]⟩, .int .i64 0, .float .f64 0, .string ⟨#[]⟩, .int .i64 0, .int .i64 0, .int .i64 0, .int .i64 0, .float .f64 0, .int .i64 0, .string ⟨#[]⟩, .slice none 0 0, .bool must]) 13 (.bool must) rfl)
 clear sm2 st1
 go_wp2_with (simp only [field_part5])
 clear c2 d2 l2
 rcases hn2 : nxt (rS 24 bs) [] a2 e2 with ⟨key, a3, e3⟩
 have hsp3 : Hid (rAct bs a = if e3 = 0 then aN k must key bs a3 else .error (e3, a3)) := by
  exact hsp2.out.trans (stepKey hn2)
 refine (part_s_st p A n c bs a2 e2 _ st2.out.e 24 (by decide) hn2).mono ?_
 rintro e v3 ⟨⟨_, _, _, _, _, rfl⟩, hE2, hk2⟩
 have sm3 := st2.out.step hE2 hk2
 clear hE2 hk2 hn2 
 have c3 := sm3.b1.cell; have d3 := sm3.b1.frozen; have l3 := sm3.b1.lt
 have st3 := Lib.hid (sm3.store (cs1' := #[.int .i64 (k : Int), .string (str key), .int .i64 0, .float .f64 0, .string ⟨#[]⟩, .int .i64 0, .int .i64 0, .int .i64 0, .int .i64 0, .float .f64 0, .int .i64 0, .string ⟨#[]⟩, .slice none 0 0, .bool must]) 1 (.string (str key)) rfl)
 clear sm3 st2
 go_wp2_with (simp only [field_part4])
 clear c3 d3 l3
 refine (f110 _).mono ?_; rintro e v4 ⟨rfl, hq⟩
 have st4 := Lib.hid (st3.out.cln hq)
 clear hq st3
 have c4 := st4.out.b1.cell; have d4 := st4.out.b1.frozen; have l4 := st4.out.b1.lt
 go_wp2_with fail
 clear c4 d4 l4
 have hsp4 : Hid (rAct bs a = if e3 = 0 then aX k must key 0 bs a3 else .error (e3, a3)) := by unfold Hid; rw [hsp3.out, aN_no hN.out]
 refine (f120 _).mono ?_; rintro e v5 ⟨rfl, hq⟩
 have st5 := Lib.hid (st4.out.cln hq)
 clear hq st4
 have c5 := st5.out.b1.cell; have d5 := st5.out.b1.frozen; have l5 := st5.out.b1.lt
 go_wp2_with fail
 clear c5 d5 l5
 have hsp5 : Hid (rAct bs a = if e3 = 0 then aS k must key 0 0 bs a3 else .error (e3, a3)) := by unfold Hid; rw [hsp4.out, aX_no hX.out]
 refine (f115 _).mono ?_; rintro e v6 ⟨rfl, hq⟩
 have st6 := Lib.hid (st5.out.cln hq)
 clear hq st5
 have hsp6 : Hid (rAct bs a = if e3 = 0 then aM k must key 0 0 [] bs a3 else .error (e3, a3)) := by unfold Hid; rw [hsp5.out, aS_no hS.out]
 have hsp7 : Hid (rAct bs a = if e3 = 0 then aDone ⟨(k : Int), key, 0, 0, [], zeroRec, must⟩ a3 else .error (e3, a3)) := by unfold Hid; rw [hsp6.out, aM_no hM.out]
 by_cases hz : e3 = 0
 case neg =>
  have hJ : Hid (rAct bs a = .error (e3, a3)) := by unfold Hid; rw [hsp7.out, if_neg hz]
  have t3 : (((e3 : Nat) : Int) == 0) = false := by rw [beq_eq_false_iff_ne]; omega
  have t4 : (((e3 : Nat) : Int) != 0) = true := by rw [bne_iff_ne]; omega
  have stF := st6.out
  have cE := stF.e.blk.cell 2; have hlp := stF.e.blk.lt; have hm := stF.b0.frozen; have hl0 := stF.b0.lt; have hc0 := stF.b0.cell; have hpn : ¬ p = w.heap.size := by have := stF.Bp; omega
  have c9 := stF.b1.cell; have d9 := stF.b1.frozen; have l9 := stF.b1.lt; have hn01 : ¬ p = w.heap.size + 1 := by have := stF.Bp; omega
  have hfk := fill14_kept v6 w.heap.size (.int .i64 0) (.string ⟨#[]⟩) (.int .i64 0) (.float .f64 0) (.string ⟨#[]⟩) (.int .i64 0) (.int .i64 0) (.int .i64 0) (.int .i64 0) (.float .f64 0) (.int .i64 0) (.string ⟨#[]⟩) (.slice none 0 0) (.bool false)
  have hfin := Lib.hid (zfin stF.b0)
  have hEe := Lib.hid (stF.e.kept hfk (fun e => by have := stF.Bp; omega) (fun ad e h2 => by have := stF.BA ad e; omega))
  have hKw := Lib.hid (stF.K.then_ hfk (fun i hi h2 => by exfalso; omega))
  clear hfk stF st6
  go_wp2_with fail
  refine bodyPost_ret (zres rfl hfin.out) rfl ?_
  ·rw [hJ.out]
   exact ⟨rfl, hEe.out, hKw.out⟩
 case pos =>
  have hdone : Hid (rAct bs a = aDone ⟨(k : Int), key, 0, 0, [], zeroRec, must⟩ a3) := by unfold Hid; rw [hsp7.out, if_pos hz]
  have hE0 : Hid (AEy w p A n c bs #[.int .i64 (k : Int), .string (str key), .int .i64 0, .float .f64 0, .string ⟨#[]⟩, .int .i64 0, .int .i64 0, .int .i64 0, .int .i64 0, .float .f64 0, .int .i64 0, .string ⟨#[]⟩, .slice none 0 0, .bool must] v6 a3 0) := by have := st6.out; rw [hz] at this; exact this
  have hwfA : Hid ((⟨(k : Int), key, 0, 0, [], zeroRec, must⟩ : MAct).WF) := ⟨hkW.out, z64, zF, zeroRec_wf_⟩
  have stF := hE0.out
  have cE := stF.e.blk.cell 2; have hlp := stF.e.blk.lt; have hc9 := stF.b1.cell; have hd9 := stF.b1.frozen; have hl9 := stF.b1.lt; have hn01 : ¬ p = w.heap.size + 1 := by have := stF.Bp; omega
  subst hz
  clear stF st6
  go_wp2_with fail
  have cC := racheck_any ⟨(k : Int), key, 0, 0, [], zeroRec, must⟩ none 0 0 (by omega) hwfA.out v6 (RdItems.none_ _)
  unfold actVal at cC
  refine cC.mono ?_; rintro e w9 ⟨rfl, hq⟩
  clear cC
  have st9 := Lib.hid (hE0.out.cln hq)
  have hL10 : Hid (RdItems w9 none 0 zeroRec.list) := RdItems.none_ _
  clear hq cE hlp hc9 hd9 hl9 hE0
  generalize hC : checkAct ⟨(k : Int), key, 0, 0, [], zeroRec, must⟩ = cd
  replace hC := Lib.hid hC
  go_wp2_with fail
  refine (fail_new p A n c bs a3 cd _ st9.out.e).mono ?_
  rintro e w10 ⟨rfl, hE5, hk5⟩
  have hL11 : Hid (RdItems w10 none 0 zeroRec.list) := RdItems.none_ _
  have stF := st9.out.step hE5 hk5
  have cE := stF.e.blk.cell 2; have hlp := stF.e.blk.lt; have hm := stF.b0.frozen; have hl0 := stF.b0.lt; have hc0 := stF.b0.cell; have hpn : ¬ p = w.heap.size := by have := stF.Bp; omega
  have hc1 := stF.b1.cell; have hl1 := stF.b1.lt
  clear st9 hE5 hk5 hL10
  by_cases hz : cd = 0
  ·subst hz
   have hJ : Hid (rAct bs a = .ok (⟨(k : Int), key, 0, 0, [], zeroRec, must⟩, a3)) := by unfold Hid; rw [hdone.out]; unfold aDone; rw [if_pos hC.out]
   have hfk := fill14_kept w10 w.heap.size (.int .i64 (k : Int)) (.string (str key)) (.int .i64 0) (.float .f64 0) (.string ⟨#[]⟩) (.int .i64 0) (.int .i64 0) (.int .i64 0) (.int .i64 0) (.float .f64 0) (.int .i64 0) (.string ⟨#[]⟩) (.slice none 0 0) (.bool must)
   have hfin := Lib.hid (Blk.store14 stF.b0 (v0 := .int .i64 (k : Int)) (v1 := .string (str key)) (v2 := .int .i64 0) (v3 := .float .f64 0) (v4 := .string ⟨#[]⟩) (v5 := .int .i64 0) (v6 := .int .i64 0) (v7 := .int .i64 0) (v8 := .int .i64 0) (v9 := .float .f64 0) (v10 := .int .i64 0) (v11 := .string ⟨#[]⟩) (v12 := .slice none 0 0) (v13 := .bool must))
   have hEe := Lib.hid (stF.e.kept hfk (fun e => by have := stF.Bp; omega) (fun ad e h2 => by have := stF.BA ad e; omega))
   have hKw := Lib.hid (stF.K.then_ hfk (fun i hi h2 => by exfalso; omega))
   have hLL := Lib.hid (hL11.out.kept hfk (fun ad e _ h2 => by cases e))
   clear hfk stF hL11
   go_wp2_with fail
   refine bodyPost_ret (v := .agg #[.int .i64 (k : Int), .string (str key), .int .i64 0, .float .f64 0, .string ⟨#[]⟩, .int .i64 0, .int .i64 0, .int .i64 0, .int .i64 0, .float .f64 0, .int .i64 0, .string ⟨#[]⟩, .slice none 0 0, .bool must]) ?_ rfl ?_
   ·exact results_cell_row Tryz.results97 _ _ w.heap.size 90 #[.int .i64 (k : Int), .string (str key), .int .i64 0, .float .f64 0, .string ⟨#[]⟩, .int .i64 0, .int .i64 0, .int .i64 0, .int .i64 0, .float .f64 0, .int .i64 0, .string ⟨#[]⟩, .slice none 0 0, .bool must] (0, 0) _ rfl hfin.out Tryz.underlying90 rfl size_act
   ·rw [hJ.out]
    exact ⟨none, 0, 0, rfl, hLL.out, by omega, (fun ad e => by cases e), hEe.out, hKw.out⟩
  ·have hJ : Hid (rAct bs a = .error (cd, a3)) := by unfold Hid; rw [hdone.out]; unfold aDone; rw [if_neg (by rw [hC.out]; exact hz), hC.out]
   have t4 : (((cd : Nat) : Int) != 0) = true := by rw [bne_iff_ne]; omega
   have hfk := fill14_kept w10 w.heap.size (.int .i64 0) (.string ⟨#[]⟩) (.int .i64 0) (.float .f64 0) (.string ⟨#[]⟩) (.int .i64 0) (.int .i64 0) (.int .i64 0) (.int .i64 0) (.float .f64 0) (.int .i64 0) (.string ⟨#[]⟩) (.slice none 0 0) (.bool false)
   have hfin := Lib.hid (zfin stF.b0)
   have hEe := Lib.hid (stF.e.kept hfk (fun e => by have := stF.Bp; omega) (fun ad e h2 => by have := stF.BA ad e; omega))
   have hKw := Lib.hid (stF.K.then_ hfk (fun i hi h2 => by exfalso; omega))
   clear hfk stF hL11
   go_wp2_with fail
   refine bodyPost_ret (zres rfl hfin.out) rfl ?_
   ·rw [hJ.out]
    exact ⟨rfl, hEe.out, hKw.out⟩
set_option maxHeartbeats 8000000 in
theorem anext_num (p : Nat) (A : Option Addr) (n c : Nat) (bs : List UInt8) (a : Nat) (w : World) (hE : IsE w p A n c bs a 0) (hA : ∀ ad, A = some ad → ad.block < w.heap.size) (k a1 : Nat) (hk1 : 1 ≤ k ∧ k ≤ 21) (hU : rUpto 21 bs a = .ok (k, a1))
  (hN : hasF (k : Int) 110 = true) (hX : hasF (k : Int) 120 = false) (hS : hasF (k : Int) 115 = false) (hM : hasF (k : Int) 109 = false) (he : k ≠ 1) :
  Calls Tryz.prog 97 #[.pointer (some ⟨p, 0, none⟩)] w (ANextPost w p A n c bs (rAct bs a)) := by
 have hsp1 : Hid (rAct bs a = aMust k bs a1) := by unfold Hid rAct; simp only [hU]; rw [if_neg (by omega)]
 have hp0 := hE.blk.lt
 have t0 : ((k : Int) == 0) = false := by rw [beq_eq_false_iff_ne]; omega
 have tk1 : ((k : Int) == 1) = false := by rw [beq_eq_false_iff_ne]; omega
 have hkW : Hid (-9223372036854775808 ≤ (k : Int) ∧ (k : Int) < 9223372036854775808) := ⟨by omega, by omega⟩
 have f110 : ∀ W, Calls Tryz.prog 106 #[.int .i64 (k : Int), .int .u8 110] W fun e w' => e = .returned (.bool true) ∧ Cln W w' := fun W => hN ▸ rhas_any k 110 W
 have f120 : ∀ W, Calls Tryz.prog 106 #[.int .i64 (k : Int), .int .u8 120] W fun e w' => e = .returned (.bool false) ∧ Cln W w' := fun W => hX ▸ rhas_any k 120 W
 have f115 : ∀ W, Calls Tryz.prog 106 #[.int .i64 (k : Int), .int .u8 115] W fun e w' => e = .returned (.bool false) ∧ Cln W w' := fun W => hS ▸ rhas_any k 115 W
 have fon : ∀ W, Calls Tryz.prog 107 #[.int .i64 (k : Int)] W fun e w' => e = .returned (.int .i64 (onOf k : Nat)) ∧ Cln W w' := fun W => ron_any k W
 have hcl0 := hzANexts0 w
 have hb2 := (Blk.new w 90 #[.int .i64 0, .string ⟨#[]⟩, .int .i64 0, .float .f64 0, .string ⟨#[]⟩, .int .i64 0, .int .i64 0, .int .i64 0, .int .i64 0, .float .f64 0, .int .i64 0, .string ⟨#[]⟩, .slice none 0 0, .bool false]).alloc (.cells #[.int .i64 0, .string ⟨#[]⟩, .int .i64 0, .float .f64 0, .string ⟨#[]⟩, .int .i64 0, .int .i64 0, .int .i64 0, .int .i64 0, .float .f64 0, .int .i64 0, .string ⟨#[]⟩, .slice none 0 0, .bool false] 90)
 have hb3 := Blk.new (w.alloc (.cells #[.int .i64 0, .string ⟨#[]⟩, .int .i64 0, .float .f64 0, .string ⟨#[]⟩, .int .i64 0, .int .i64 0, .int .i64 0, .int .i64 0, .float .f64 0, .int .i64 0, .string ⟨#[]⟩, .slice none 0 0, .bool false] 90)) 90 #[.int .i64 0, .string ⟨#[]⟩, .int .i64 0, .float .f64 0, .string ⟨#[]⟩, .int .i64 0, .int .i64 0, .int .i64 0, .int .i64 0, .float .f64 0, .int .i64 0, .string ⟨#[]⟩, .slice none 0 0, .bool false]
 rw [World.size_alloc] at hb3
 go_enter Tryz.func97, Tryz.ntmps97
 go_wp2_with fail
 refine (upto_new p A n c bs a 21 (by decide) _ (hE.cln hcl0)).mono ?_
 intro e w1 hP
 rw [hU] at hP
 obtain ⟨rfl, hE1, hk⟩ := hP
 have st0 : AEy w p A n c bs #[.int .i64 0, .string ⟨#[]⟩, .int .i64 0, .float .f64 0, .string ⟨#[]⟩, .int .i64 0, .int .i64 0, .int .i64 0, .int .i64 0, .float .f64 0, .int .i64 0, .string ⟨#[]⟩, .slice none 0 0, .bool false] w1 a1 0 := ⟨hE1, (Kept.of_below (S := fun i => i = p) hcl0).then_ hk (fun i _ h => h), hb2.kept hk (by omega), hb3.kept hk (by omega), hp0, hA⟩
 have st1 := Lib.hid (st0.store (cs1' := #[.int .i64 (k : Int), .string ⟨#[]⟩, .int .i64 0, .float .f64 0, .string ⟨#[]⟩, .int .i64 0, .int .i64 0, .int .i64 0, .int .i64 0, .float .f64 0, .int .i64 0, .string ⟨#[]⟩, .slice none 0 0, .bool false]) 0 (.int .i64 (k : Int)) rfl)
 have c1 := st0.b1.cell 0; have d1 := st0.b1.frozen 0; have l1 := st0.b1.lt
 replace he := Lib.hid he; replace hk1 := Lib.hid hk1
 replace hN := Lib.hid hN; replace hX := Lib.hid hX; replace hS := Lib.hid hS; replace hM := Lib.hid hM
 clear hE hE1 hk hb2 hb3 hcl0 st0
 go_wp2_with fail
 clear c1 d1 l1
 rcases hn1 : nxt (rFlag bs) false a1 0 with ⟨must, a2, e2⟩
 have hsp2 : Hid (rAct bs a = if e2 = 0 then aKey k must bs a2 else .error (e2, a2)) := by
  exact hsp1.out.trans ((if_pos rfl).symm.trans (stepMust hn1))
 refine (part_b_st p A n c bs a1 0 _ st1.out.e 0 hn1).mono ?_
 rintro e v2 ⟨⟨_, _, _, _, _, rfl⟩, hE2, hk2⟩
 have sm2 := st1.out.step hE2 hk2
 clear hE2 hk2 hn1 
 have c2 := sm2.b1.cell; have d2 := sm2.b1.frozen; have l2 := sm2.b1.lt
 have st2 := Lib.hid (sm2.store (cs1' := #[.int .i64 (k : Int), .string ⟨#[]⟩, .int .i64 0, .float .f64 0, .string ⟨#[]⟩, .int .i64 0, .int .i64 0, .int .i64 0, .int .i64 0, .float .f64 0, .int .i64 0, .string ⟨#[]⟩, .slice none 0 0, .bool must]) 13 (.bool must) rfl)
 clear sm2 st1
 go_wp2_with (simp only [field_part5])
 clear c2 d2 l2
 rcases hn2 : nxt (rS 24 bs) [] a2 e2 with ⟨key, a3, e3⟩
 have hsp3 : Hid (rAct bs a = if e3 = 0 then aN k must key bs a3 else .error (e3, a3)) := by
  exact hsp2.out.trans (stepKey hn2)
 refine (part_s_st p A n c bs a2 e2 _ st2.out.e 24 (by decide) hn2).mono ?_
 rintro e v3 ⟨⟨_, _, _, _, _, rfl⟩, hE2, hk2⟩
 have sm3 := st2.out.step hE2 hk2
 clear hE2 hk2 hn2 
 have c3 := sm3.b1.cell; have d3 := sm3.b1.frozen; have l3 := sm3.b1.lt
 have st3 := Lib.hid (sm3.store (cs1' := #[.int .i64 (k : Int), .string (str key), .int .i64 0, .float .f64 0, .string ⟨#[]⟩, .int .i64 0, .int .i64 0, .int .i64 0, .int .i64 0, .float .f64 0, .int .i64 0, .string ⟨#[]⟩, .slice none 0 0, .bool must]) 1 (.string (str key)) rfl)
 clear sm3 st2
 go_wp2_with (simp only [field_part4])
 clear c3 d3 l3
 refine (f110 _).mono ?_; rintro e v4 ⟨rfl, hq⟩
 have st4 := Lib.hid (st3.out.cln hq)
 clear hq st3
 have c4 := st4.out.b1.cell; have d4 := st4.out.b1.frozen; have l4 := st4.out.b1.lt
 go_wp2_with fail
 clear c4 d4 l4
 rcases hn4 : nxt (rI bs) 0 a3 e3 with ⟨nn, a5, e5⟩
 have hsp4 : Hid (rAct bs a = if e5 = 0 then aX k must key nn bs a5 else .error (e5, a5)) := by
  exact hsp3.out.trans (stepN hN.out hn4)
 have hnW := Lib.hid (nxt_all (fun x : Int => -9223372036854775808 ≤ x ∧ x < 9223372036854775808) (by decide) (fun x a' h => rI_lt h) hn4)
 refine (part_i_st p A n c bs a3 e3 _ st4.out.e 0 hn4).mono ?_
 rintro e v5 ⟨⟨_, _, _, _, _, rfl⟩, hE2, hk2⟩
 have sm5 := st4.out.step hE2 hk2
 clear hE2 hk2 hn4 
 have c5 := sm5.b1.cell; have d5 := sm5.b1.frozen; have l5 := sm5.b1.lt
 have st5 := Lib.hid (sm5.store (cs1' := #[.int .i64 (k : Int), .string (str key), .int .i64 nn, .float .f64 0, .string ⟨#[]⟩, .int .i64 0, .int .i64 0, .int .i64 0, .int .i64 0, .float .f64 0, .int .i64 0, .string ⟨#[]⟩, .slice none 0 0, .bool must]) 2 (.int .i64 nn) rfl)
 clear sm5 st4
 go_wp2_with (simp only [field_part2])
 clear c5 d5 l5
 refine (f120 _).mono ?_; rintro e v6 ⟨rfl, hq⟩
 have st6 := Lib.hid (st5.out.cln hq)
 clear hq st5
 have c6 := st6.out.b1.cell; have d6 := st6.out.b1.frozen; have l6 := st6.out.b1.lt
 go_wp2_with fail
 clear c6 d6 l6
 have hsp5 : Hid (rAct bs a = if e5 = 0 then aS k must key nn 0 bs a5 else .error (e5, a5)) := by unfold Hid; rw [hsp4.out, aX_no hX.out]
 refine (f115 _).mono ?_; rintro e v7 ⟨rfl, hq⟩
 have st7 := Lib.hid (st6.out.cln hq)
 clear hq st6
 have hsp6 : Hid (rAct bs a = if e5 = 0 then aM k must key nn 0 [] bs a5 else .error (e5, a5)) := by unfold Hid; rw [hsp5.out, aS_no hS.out]
 have hsp7 : Hid (rAct bs a = if e5 = 0 then aDone ⟨(k : Int), key, nn, 0, [], zeroRec, must⟩ a5 else .error (e5, a5)) := by unfold Hid; rw [hsp6.out, aM_no hM.out]
 by_cases hz : e5 = 0
 case neg =>
  have hJ : Hid (rAct bs a = .error (e5, a5)) := by unfold Hid; rw [hsp7.out, if_neg hz]
  have t3 : (((e5 : Nat) : Int) == 0) = false := by rw [beq_eq_false_iff_ne]; omega
  have t4 : (((e5 : Nat) : Int) != 0) = true := by rw [bne_iff_ne]; omega
  have stF := st7.out
  have cE := stF.e.blk.cell 2; have hlp := stF.e.blk.lt; have hm := stF.b0.frozen; have hl0 := stF.b0.lt; have hc0 := stF.b0.cell; have hpn : ¬ p = w.heap.size := by have := stF.Bp; omega
  have c9 := stF.b1.cell; have d9 := stF.b1.frozen; have l9 := stF.b1.lt; have hn01 : ¬ p = w.heap.size + 1 := by have := stF.Bp; omega
  have hfk := fill14_kept v7 w.heap.size (.int .i64 0) (.string ⟨#[]⟩) (.int .i64 0) (.float .f64 0) (.string ⟨#[]⟩) (.int .i64 0) (.int .i64 0) (.int .i64 0) (.int .i64 0) (.float .f64 0) (.int .i64 0) (.string ⟨#[]⟩) (.slice none 0 0) (.bool false)
  have hfin := Lib.hid (zfin stF.b0)
  have hEe := Lib.hid (stF.e.kept hfk (fun e => by have := stF.Bp; omega) (fun ad e h2 => by have := stF.BA ad e; omega))
  have hKw := Lib.hid (stF.K.then_ hfk (fun i hi h2 => by exfalso; omega))
  clear hfk stF st7
  go_wp2_with fail
  refine bodyPost_ret (zres rfl hfin.out) rfl ?_
  ·rw [hJ.out]
   exact ⟨rfl, hEe.out, hKw.out⟩
 case pos =>
  have hdone : Hid (rAct bs a = aDone ⟨(k : Int), key, nn, 0, [], zeroRec, must⟩ a5) := by unfold Hid; rw [hsp7.out, if_pos hz]
  have hE0 : Hid (AEy w p A n c bs #[.int .i64 (k : Int), .string (str key), .int .i64 nn, .float .f64 0, .string ⟨#[]⟩, .int .i64 0, .int .i64 0, .int .i64 0, .int .i64 0, .float .f64 0, .int .i64 0, .string ⟨#[]⟩, .slice none 0 0, .bool must] v7 a5 0) := by have := st7.out; rw [hz] at this; exact this
  have hwfA : Hid ((⟨(k : Int), key, nn, 0, [], zeroRec, must⟩ : MAct).WF) := ⟨hkW.out, hnW.out, zF, zeroRec_wf_⟩
  have stF := hE0.out
  have cE := stF.e.blk.cell 2; have hlp := stF.e.blk.lt; have hc9 := stF.b1.cell; have hd9 := stF.b1.frozen; have hl9 := stF.b1.lt; have hn01 : ¬ p = w.heap.size + 1 := by have := stF.Bp; omega
  subst hz
  clear stF st7
  go_wp2_with fail
  have cC := racheck_any ⟨(k : Int), key, nn, 0, [], zeroRec, must⟩ none 0 0 (by omega) hwfA.out v7 (RdItems.none_ _)
  unfold actVal at cC
  refine cC.mono ?_; rintro e w9 ⟨rfl, hq⟩
  clear cC
  have st9 := Lib.hid (hE0.out.cln hq)
  have hL10 : Hid (RdItems w9 none 0 zeroRec.list) := RdItems.none_ _
  clear hq cE hlp hc9 hd9 hl9 hE0
  generalize hC : checkAct ⟨(k : Int), key, nn, 0, [], zeroRec, must⟩ = cd
  replace hC := Lib.hid hC
  go_wp2_with fail
  refine (fail_new p A n c bs a5 cd _ st9.out.e).mono ?_
  rintro e w10 ⟨rfl, hE5, hk5⟩
  have hL11 : Hid (RdItems w10 none 0 zeroRec.list) := RdItems.none_ _
  have stF := st9.out.step hE5 hk5
  have cE := stF.e.blk.cell 2; have hlp := stF.e.blk.lt; have hm := stF.b0.frozen; have hl0 := stF.b0.lt; have hc0 := stF.b0.cell; have hpn : ¬ p = w.heap.size := by have := stF.Bp; omega
  have hc1 := stF.b1.cell; have hl1 := stF.b1.lt
  clear st9 hE5 hk5 hL10
  by_cases hz : cd = 0
  ·subst hz
   have hJ : Hid (rAct bs a = .ok (⟨(k : Int), key, nn, 0, [], zeroRec, must⟩, a5)) := by unfold Hid; rw [hdone.out]; unfold aDone; rw [if_pos hC.out]
   have hfk := fill14_kept w10 w.heap.size (.int .i64 (k : Int)) (.string (str key)) (.int .i64 nn) (.float .f64 0) (.string ⟨#[]⟩) (.int .i64 0) (.int .i64 0) (.int .i64 0) (.int .i64 0) (.float .f64 0) (.int .i64 0) (.string ⟨#[]⟩) (.slice none 0 0) (.bool must)
   have hfin := Lib.hid (Blk.store14 stF.b0 (v0 := .int .i64 (k : Int)) (v1 := .string (str key)) (v2 := .int .i64 nn) (v3 := .float .f64 0) (v4 := .string ⟨#[]⟩) (v5 := .int .i64 0) (v6 := .int .i64 0) (v7 := .int .i64 0) (v8 := .int .i64 0) (v9 := .float .f64 0) (v10 := .int .i64 0) (v11 := .string ⟨#[]⟩) (v12 := .slice none 0 0) (v13 := .bool must))
   have hEe := Lib.hid (stF.e.kept hfk (fun e => by have := stF.Bp; omega) (fun ad e h2 => by have := stF.BA ad e; omega))
   have hKw := Lib.hid (stF.K.then_ hfk (fun i hi h2 => by exfalso; omega))
   have hLL := Lib.hid (hL11.out.kept hfk (fun ad e _ h2 => by cases e))
   clear hfk stF hL11
   go_wp2_with fail
   refine bodyPost_ret (v := .agg #[.int .i64 (k : Int), .string (str key), .int .i64 nn, .float .f64 0, .string ⟨#[]⟩, .int .i64 0, .int .i64 0, .int .i64 0, .int .i64 0, .float .f64 0, .int .i64 0, .string ⟨#[]⟩, .slice none 0 0, .bool must]) ?_ rfl ?_
   ·exact results_cell_row Tryz.results97 _ _ w.heap.size 90 #[.int .i64 (k : Int), .string (str key), .int .i64 nn, .float .f64 0, .string ⟨#[]⟩, .int .i64 0, .int .i64 0, .int .i64 0, .int .i64 0, .float .f64 0, .int .i64 0, .string ⟨#[]⟩, .slice none 0 0, .bool must] (0, 0) _ rfl hfin.out Tryz.underlying90 rfl size_act
   ·rw [hJ.out]
    exact ⟨none, 0, 0, rfl, hLL.out, by omega, (fun ad e => by cases e), hEe.out, hKw.out⟩
  ·have hJ : Hid (rAct bs a = .error (cd, a5)) := by unfold Hid; rw [hdone.out]; unfold aDone; rw [if_neg (by rw [hC.out]; exact hz), hC.out]
   have t4 : (((cd : Nat) : Int) != 0) = true := by rw [bne_iff_ne]; omega
   have hfk := fill14_kept w10 w.heap.size (.int .i64 0) (.string ⟨#[]⟩) (.int .i64 0) (.float .f64 0) (.string ⟨#[]⟩) (.int .i64 0) (.int .i64 0) (.int .i64 0) (.int .i64 0) (.float .f64 0) (.int .i64 0) (.string ⟨#[]⟩) (.slice none 0 0) (.bool false)
   have hfin := Lib.hid (zfin stF.b0)
   have hEe := Lib.hid (stF.e.kept hfk (fun e => by have := stF.Bp; omega) (fun ad e h2 => by have := stF.BA ad e; omega))
   have hKw := Lib.hid (stF.K.then_ hfk (fun i hi h2 => by exfalso; omega))
   clear hfk stF hL11
   go_wp2_with fail
   refine bodyPost_ret (zres rfl hfin.out) rfl ?_
   ·rw [hJ.out]
    exact ⟨rfl, hEe.out, hKw.out⟩
set_option maxHeartbeats 8000000 in
theorem anext_text (p : Nat) (A : Option Addr) (n c : Nat) (bs : List UInt8) (a : Nat) (w : World) (hE : IsE w p A n c bs a 0) (hA : ∀ ad, A = some ad → ad.block < w.heap.size) (k a1 : Nat) (hk1 : 1 ≤ k ∧ k ≤ 21) (hU : rUpto 21 bs a = .ok (k, a1))
  (hN : hasF (k : Int) 110 = false) (hX : hasF (k : Int) 120 = false) (hS : hasF (k : Int) 115 = true) (hM : hasF (k : Int) 109 = false) (he : k ≠ 1) :
  Calls Tryz.prog 97 #[.pointer (some ⟨p, 0, none⟩)] w (ANextPost w p A n c bs (rAct bs a)) := by
 have hsp1 : Hid (rAct bs a = aMust k bs a1) := by unfold Hid rAct; simp only [hU]; rw [if_neg (by omega)]
 have hp0 := hE.blk.lt
 have t0 : ((k : Int) == 0) = false := by rw [beq_eq_false_iff_ne]; omega
 have tk1 : ((k : Int) == 1) = false := by rw [beq_eq_false_iff_ne]; omega
 have hkW : Hid (-9223372036854775808 ≤ (k : Int) ∧ (k : Int) < 9223372036854775808) := ⟨by omega, by omega⟩
 have f110 : ∀ W, Calls Tryz.prog 106 #[.int .i64 (k : Int), .int .u8 110] W fun e w' => e = .returned (.bool false) ∧ Cln W w' := fun W => hN ▸ rhas_any k 110 W
 have f120 : ∀ W, Calls Tryz.prog 106 #[.int .i64 (k : Int), .int .u8 120] W fun e w' => e = .returned (.bool false) ∧ Cln W w' := fun W => hX ▸ rhas_any k 120 W
 have f115 : ∀ W, Calls Tryz.prog 106 #[.int .i64 (k : Int), .int .u8 115] W fun e w' => e = .returned (.bool true) ∧ Cln W w' := fun W => hS ▸ rhas_any k 115 W
 have fon : ∀ W, Calls Tryz.prog 107 #[.int .i64 (k : Int)] W fun e w' => e = .returned (.int .i64 (onOf k : Nat)) ∧ Cln W w' := fun W => ron_any k W
 have hcl0 := hzANexts0 w
 have hb2 := (Blk.new w 90 #[.int .i64 0, .string ⟨#[]⟩, .int .i64 0, .float .f64 0, .string ⟨#[]⟩, .int .i64 0, .int .i64 0, .int .i64 0, .int .i64 0, .float .f64 0, .int .i64 0, .string ⟨#[]⟩, .slice none 0 0, .bool false]).alloc (.cells #[.int .i64 0, .string ⟨#[]⟩, .int .i64 0, .float .f64 0, .string ⟨#[]⟩, .int .i64 0, .int .i64 0, .int .i64 0, .int .i64 0, .float .f64 0, .int .i64 0, .string ⟨#[]⟩, .slice none 0 0, .bool false] 90)
 have hb3 := Blk.new (w.alloc (.cells #[.int .i64 0, .string ⟨#[]⟩, .int .i64 0, .float .f64 0, .string ⟨#[]⟩, .int .i64 0, .int .i64 0, .int .i64 0, .int .i64 0, .float .f64 0, .int .i64 0, .string ⟨#[]⟩, .slice none 0 0, .bool false] 90)) 90 #[.int .i64 0, .string ⟨#[]⟩, .int .i64 0, .float .f64 0, .string ⟨#[]⟩, .int .i64 0, .int .i64 0, .int .i64 0, .int .i64 0, .float .f64 0, .int .i64 0, .string ⟨#[]⟩, .slice none 0 0, .bool false]
 rw [World.size_alloc] at hb3
 go_enter Tryz.func97, Tryz.ntmps97
 go_wp2_with fail
 refine (upto_new p A n c bs a 21 (by decide) _ (hE.cln hcl0)).mono ?_
 intro e w1 hP
 rw [hU] at hP
 obtain ⟨rfl, hE1, hk⟩ := hP
 have st0 : AEy w p A n c bs #[.int .i64 0, .string ⟨#[]⟩, .int .i64 0, .float .f64 0, .string ⟨#[]⟩, .int .i64 0, .int .i64 0, .int .i64 0, .int .i64 0, .float .f64 0, .int .i64 0, .string ⟨#[]⟩, .slice none 0 0, .bool false] w1 a1 0 := ⟨hE1, (Kept.of_below (S := fun i => i = p) hcl0).then_ hk (fun i _ h => h), hb2.kept hk (by omega), hb3.kept hk (by omega), hp0, hA⟩
 have st1 := Lib.hid (st0.store (cs1' := #[.int .i64 (k : Int), .string ⟨#[]⟩, .int .i64 0, .float .f64 0, .string ⟨#[]⟩, .int .i64 0, .int .i64 0, .int .i64 0, .int .i64 0, .float .f64 0, .int .i64 0, .string ⟨#[]⟩, .slice none 0 0, .bool false]) 0 (.int .i64 (k : Int)) rfl)
 have c1 := st0.b1.cell 0; have d1 := st0.b1.frozen 0; have l1 := st0.b1.lt
 replace he := Lib.hid he; replace hk1 := Lib.hid hk1
 replace hN := Lib.hid hN; replace hX := Lib.hid hX; replace hS := Lib.hid hS; replace hM := Lib.hid hM
 clear hE hE1 hk hb2 hb3 hcl0 st0
 go_wp2_with fail
 clear c1 d1 l1
 rcases hn1 : nxt (rFlag bs) false a1 0 with ⟨must, a2, e2⟩
 have hsp2 : Hid (rAct bs a = if e2 = 0 then aKey k must bs a2 else .error (e2, a2)) := by
  exact hsp1.out.trans ((if_pos rfl).symm.trans (stepMust hn1))
 refine (part_b_st p A n c bs a1 0 _ st1.out.e 0 hn1).mono ?_
 rintro e v2 ⟨⟨_, _, _, _, _, rfl⟩, hE2, hk2⟩
 have sm2 := st1.out.step hE2 hk2
 clear hE2 hk2 hn1 
 have c2 := sm2.b1.cell; have d2 := sm2.b1.frozen; have l2 := sm2.b1.lt
 have st2 := Lib.hid (sm2.store (cs1' := #[.int .i64 (k : Int), .string ⟨#[]⟩, .int .i64 0, .float .f64 0, .string ⟨#[]⟩, .int .i64 0, .int .i64 0, .int .i64 0, .int .i64 0, .float .f64 0, .int .i64 0, .string ⟨#[]⟩, .slice none 0 0, .bool must]) 13 (.bool must) rfl)
 clear sm2 st1
 go_wp2_with (simp only [field_part5])
 clear c2 d2 l2
 rcases hn2 : nxt (rS 24 bs) [] a2 e2 with ⟨key, a3, e3⟩
 have hsp3 : Hid (rAct bs a = if e3 = 0 then aN k must key bs a3 else .error (e3, a3)) := by
  exact hsp2.out.trans (stepKey hn2)
 refine (part_s_st p A n c bs a2 e2 _ st2.out.e 24 (by decide) hn2).mono ?_
 rintro e v3 ⟨⟨_, _, _, _, _, rfl⟩, hE2, hk2⟩
 have sm3 := st2.out.step hE2 hk2
 clear hE2 hk2 hn2 
 have c3 := sm3.b1.cell; have d3 := sm3.b1.frozen; have l3 := sm3.b1.lt
 have st3 := Lib.hid (sm3.store (cs1' := #[.int .i64 (k : Int), .string (str key), .int .i64 0, .float .f64 0, .string ⟨#[]⟩, .int .i64 0, .int .i64 0, .int .i64 0, .int .i64 0, .float .f64 0, .int .i64 0, .string ⟨#[]⟩, .slice none 0 0, .bool must]) 1 (.string (str key)) rfl)
 clear sm3 st2
 go_wp2_with (simp only [field_part4])
 clear c3 d3 l3
 refine (f110 _).mono ?_; rintro e v4 ⟨rfl, hq⟩
 have st4 := Lib.hid (st3.out.cln hq)
 clear hq st3
 have c4 := st4.out.b1.cell; have d4 := st4.out.b1.frozen; have l4 := st4.out.b1.lt
 go_wp2_with fail
 clear c4 d4 l4
 have hsp4 : Hid (rAct bs a = if e3 = 0 then aX k must key 0 bs a3 else .error (e3, a3)) := by unfold Hid; rw [hsp3.out, aN_no hN.out]
 refine (f120 _).mono ?_; rintro e v5 ⟨rfl, hq⟩
 have st5 := Lib.hid (st4.out.cln hq)
 clear hq st4
 have c5 := st5.out.b1.cell; have d5 := st5.out.b1.frozen; have l5 := st5.out.b1.lt
 go_wp2_with fail
 clear c5 d5 l5
 have hsp5 : Hid (rAct bs a = if e3 = 0 then aS k must key 0 0 bs a3 else .error (e3, a3)) := by unfold Hid; rw [hsp4.out, aX_no hX.out]
 refine (f115 _).mono ?_; rintro e v6 ⟨rfl, hq⟩
 have st6 := Lib.hid (st5.out.cln hq)
 clear hq st5
 have c6 := st6.out.b1.cell; have d6 := st6.out.b1.frozen; have l6 := st6.out.b1.lt
 go_wp2_with fail
 clear c6 d6 l6
 refine (fon _).mono ?_; rintro e v7 ⟨rfl, hq⟩
 have st7 := Lib.hid (st6.out.cln hq)
 clear hq st6
 by_cases ho : onOf (k : Int) = 1
 case pos =>
  have t11 : (((onOf (k : Int) : Nat) : Int) == 1) = true := by rw [ho]; rfl
  have hmo : mostOf (k : Int) = 64 := by unfold mostOf; rw [if_pos ho]
  rcases hn7 : nxt (rS (mostOf (k : Int)) bs) [] a3 e3 with ⟨ss, a8, e8⟩
  have hsp6 : Hid (rAct bs a = if e8 = 0 then aM k must key 0 0 ss bs a8 else .error (e8, a8)) := hsp5.out.trans (stepS hS.out hn7)
  rw [hmo] at hn7
  replace hn7 := Lib.hid hn7; replace ho := Lib.hid ho; replace hmo := Lib.hid hmo
  have c7 := st7.out.b1.cell; have d7 := st7.out.b1.frozen; have l7 := st7.out.b1.lt
  go_wp2_with fail
  refine (part_s_st p A n c bs a3 e3 _ st7.out.e 64 (by decide) hn7.out).mono ?_
  rintro e v8 ⟨⟨_, _, _, _, _, rfl⟩, hE2, hk2⟩
  have sm8 := st7.out.step hE2 hk2
  have st8 := Lib.hid (sm8.store (cs1' := #[.int .i64 (k : Int), .string (str key), .int .i64 0, .float .f64 0, .string (str ss), .int .i64 0, .int .i64 0, .int .i64 0, .int .i64 0, .float .f64 0, .int .i64 0, .string ⟨#[]⟩, .slice none 0 0, .bool must]) 4 (.string (str ss)) rfl)
  skip
  clear hE2 hk2 hn7 c7 d7 l7 st7
  have hsp7 : Hid (rAct bs a = if e8 = 0 then aDone ⟨(k : Int), key, 0, 0, ss, zeroRec, must⟩ a8 else .error (e8, a8)) := by unfold Hid; rw [hsp6.out, aM_no hM.out]
  by_cases hz : e8 = 0
  case neg =>
   have hJ : Hid (rAct bs a = .error (e8, a8)) := by unfold Hid; rw [hsp7.out, if_neg hz]
   have t3 : (((e8 : Nat) : Int) == 0) = false := by rw [beq_eq_false_iff_ne]; omega
   have t4 : (((e8 : Nat) : Int) != 0) = true := by rw [bne_iff_ne]; omega
   have stF := st8.out
   have cE := sm8.e.blk.cell 2; have hlp := sm8.e.blk.lt; have hm := sm8.b0.frozen; have hl0 := sm8.b0.lt; have hc0 := sm8.b0.cell; have hpn : ¬ p = w.heap.size := by have := stF.Bp; omega
   have c9 := sm8.b1.cell; have d9 := sm8.b1.frozen; have l9 := sm8.b1.lt; have hn01 : ¬ p = w.heap.size + 1 := by have := stF.Bp; omega
   have hfk := fill14_kept (v8.setCell ⟨w.heap.size + 1, 4, none⟩ (.string (str ss))) w.heap.size (.int .i64 0) (.string ⟨#[]⟩) (.int .i64 0) (.float .f64 0) (.string ⟨#[]⟩) (.int .i64 0) (.int .i64 0) (.int .i64 0) (.int .i64 0) (.float .f64 0) (.int .i64 0) (.string ⟨#[]⟩) (.slice none 0 0) (.bool false)
   have hfin := Lib.hid (zfin stF.b0)
   have hEe := Lib.hid (stF.e.kept hfk (fun e => by have := stF.Bp; omega) (fun ad e h2 => by have := stF.BA ad e; omega))
   have hKw := Lib.hid (stF.K.then_ hfk (fun i hi h2 => by exfalso; omega))
   clear hfk stF st8 sm8
   go_wp2_with (simp only [field_part4])
   refine bodyPost_ret (zres rfl hfin.out) rfl ?_
   ·rw [hJ.out]
    exact ⟨rfl, hEe.out, hKw.out⟩
  case pos =>
   have hdone : Hid (rAct bs a = aDone ⟨(k : Int), key, 0, 0, ss, zeroRec, must⟩ a8) := by unfold Hid; rw [hsp7.out, if_pos hz]
   have hE0 : Hid (AEy w p A n c bs #[.int .i64 (k : Int), .string (str key), .int .i64 0, .float .f64 0, .string (str ss), .int .i64 0, .int .i64 0, .int .i64 0, .int .i64 0, .float .f64 0, .int .i64 0, .string ⟨#[]⟩, .slice none 0 0, .bool must] (v8.setCell ⟨w.heap.size + 1, 4, none⟩ (.string (str ss))) a8 0) := by have := st8.out; rw [hz] at this; exact this
   have hwfA : Hid ((⟨(k : Int), key, 0, 0, ss, zeroRec, must⟩ : MAct).WF) := ⟨hkW.out, z64, zF, zeroRec_wf_⟩
   have stF := hE0.out
   have cE := sm8.e.blk.cell 2; have hlp := sm8.e.blk.lt; have hc9 := sm8.b1.cell; have hd9 := sm8.b1.frozen; have hl9 := sm8.b1.lt; have hn01 : ¬ p = w.heap.size + 1 := by have := stF.Bp; omega
   subst hz
   clear stF st8 sm8
   go_wp2_with (simp only [field_part4])
   have cC := racheck_any ⟨(k : Int), key, 0, 0, ss, zeroRec, must⟩ none 0 0 (by omega) hwfA.out (v8.setCell ⟨w.heap.size + 1, 4, none⟩ (.string (str ss))) (RdItems.none_ _)
   unfold actVal at cC
   refine cC.mono ?_; rintro e w9 ⟨rfl, hq⟩
   clear cC
   have st9 := Lib.hid (hE0.out.cln hq)
   have hL10 : Hid (RdItems w9 none 0 zeroRec.list) := RdItems.none_ _
   clear hq cE hlp hc9 hd9 hl9 hE0
   generalize hC : checkAct ⟨(k : Int), key, 0, 0, ss, zeroRec, must⟩ = cd
   replace hC := Lib.hid hC
   go_wp2_with fail
   refine (fail_new p A n c bs a8 cd _ st9.out.e).mono ?_
   rintro e w10 ⟨rfl, hE5, hk5⟩
   have hL11 : Hid (RdItems w10 none 0 zeroRec.list) := RdItems.none_ _
   have stF := st9.out.step hE5 hk5
   have cE := stF.e.blk.cell 2; have hlp := stF.e.blk.lt; have hm := stF.b0.frozen; have hl0 := stF.b0.lt; have hc0 := stF.b0.cell; have hpn : ¬ p = w.heap.size := by have := stF.Bp; omega
   have hc1 := stF.b1.cell; have hl1 := stF.b1.lt
   clear st9 hE5 hk5 hL10
   by_cases hz : cd = 0
   ·subst hz
    have hJ : Hid (rAct bs a = .ok (⟨(k : Int), key, 0, 0, ss, zeroRec, must⟩, a8)) := by unfold Hid; rw [hdone.out]; unfold aDone; rw [if_pos hC.out]
    have hfk := fill14_kept w10 w.heap.size (.int .i64 (k : Int)) (.string (str key)) (.int .i64 0) (.float .f64 0) (.string (str ss)) (.int .i64 0) (.int .i64 0) (.int .i64 0) (.int .i64 0) (.float .f64 0) (.int .i64 0) (.string ⟨#[]⟩) (.slice none 0 0) (.bool must)
    have hfin := Lib.hid (Blk.store14 stF.b0 (v0 := .int .i64 (k : Int)) (v1 := .string (str key)) (v2 := .int .i64 0) (v3 := .float .f64 0) (v4 := .string (str ss)) (v5 := .int .i64 0) (v6 := .int .i64 0) (v7 := .int .i64 0) (v8 := .int .i64 0) (v9 := .float .f64 0) (v10 := .int .i64 0) (v11 := .string ⟨#[]⟩) (v12 := .slice none 0 0) (v13 := .bool must))
    have hEe := Lib.hid (stF.e.kept hfk (fun e => by have := stF.Bp; omega) (fun ad e h2 => by have := stF.BA ad e; omega))
    have hKw := Lib.hid (stF.K.then_ hfk (fun i hi h2 => by exfalso; omega))
    have hLL := Lib.hid (hL11.out.kept hfk (fun ad e _ h2 => by cases e))
    clear hfk stF hL11
    go_wp2_with fail
    refine bodyPost_ret (v := .agg #[.int .i64 (k : Int), .string (str key), .int .i64 0, .float .f64 0, .string (str ss), .int .i64 0, .int .i64 0, .int .i64 0, .int .i64 0, .float .f64 0, .int .i64 0, .string ⟨#[]⟩, .slice none 0 0, .bool must]) ?_ rfl ?_
    ·exact results_cell_row Tryz.results97 _ _ w.heap.size 90 #[.int .i64 (k : Int), .string (str key), .int .i64 0, .float .f64 0, .string (str ss), .int .i64 0, .int .i64 0, .int .i64 0, .int .i64 0, .float .f64 0, .int .i64 0, .string ⟨#[]⟩, .slice none 0 0, .bool must] (0, 0) _ rfl hfin.out Tryz.underlying90 rfl size_act
    ·rw [hJ.out]
     exact ⟨none, 0, 0, rfl, hLL.out, by omega, (fun ad e => by cases e), hEe.out, hKw.out⟩
   ·have hJ : Hid (rAct bs a = .error (cd, a8)) := by unfold Hid; rw [hdone.out]; unfold aDone; rw [if_neg (by rw [hC.out]; exact hz), hC.out]
    have t4 : (((cd : Nat) : Int) != 0) = true := by rw [bne_iff_ne]; omega
    have hfk := fill14_kept w10 w.heap.size (.int .i64 0) (.string ⟨#[]⟩) (.int .i64 0) (.float .f64 0) (.string ⟨#[]⟩) (.int .i64 0) (.int .i64 0) (.int .i64 0) (.int .i64 0) (.float .f64 0) (.int .i64 0) (.string ⟨#[]⟩) (.slice none 0 0) (.bool false)
    have hfin := Lib.hid (zfin stF.b0)
    have hEe := Lib.hid (stF.e.kept hfk (fun e => by have := stF.Bp; omega) (fun ad e h2 => by have := stF.BA ad e; omega))
    have hKw := Lib.hid (stF.K.then_ hfk (fun i hi h2 => by exfalso; omega))
    clear hfk stF hL11
    go_wp2_with fail
    refine bodyPost_ret (zres rfl hfin.out) rfl ?_
    ·rw [hJ.out]
     exact ⟨rfl, hEe.out, hKw.out⟩
 case neg =>
  have t11 : (((onOf (k : Int) : Nat) : Int) == 1) = false := by rw [beq_eq_false_iff_ne]; omega
  have hmo : mostOf (k : Int) = 16 := by unfold mostOf; rw [if_neg ho]
  rcases hn7 : nxt (rS (mostOf (k : Int)) bs) [] a3 e3 with ⟨ss, a8, e8⟩
  have hsp6 : Hid (rAct bs a = if e8 = 0 then aM k must key 0 0 ss bs a8 else .error (e8, a8)) := hsp5.out.trans (stepS hS.out hn7)
  rw [hmo] at hn7
  replace hn7 := Lib.hid hn7; replace ho := Lib.hid ho; replace hmo := Lib.hid hmo
  have c7 := st7.out.b1.cell; have d7 := st7.out.b1.frozen; have l7 := st7.out.b1.lt
  go_wp2_with fail
  refine (part_s_st p A n c bs a3 e3 _ st7.out.e 16 (by decide) hn7.out).mono ?_
  rintro e v8 ⟨⟨_, _, _, _, _, rfl⟩, hE2, hk2⟩
  have sm8 := st7.out.step hE2 hk2
  have st8 := Lib.hid (sm8.store (cs1' := #[.int .i64 (k : Int), .string (str key), .int .i64 0, .float .f64 0, .string (str ss), .int .i64 0, .int .i64 0, .int .i64 0, .int .i64 0, .float .f64 0, .int .i64 0, .string ⟨#[]⟩, .slice none 0 0, .bool must]) 4 (.string (str ss)) rfl)
  skip
  clear hE2 hk2 hn7 c7 d7 l7 st7
  have hsp7 : Hid (rAct bs a = if e8 = 0 then aDone ⟨(k : Int), key, 0, 0, ss, zeroRec, must⟩ a8 else .error (e8, a8)) := by unfold Hid; rw [hsp6.out, aM_no hM.out]
  by_cases hz : e8 = 0
  case neg =>
   have hJ : Hid (rAct bs a = .error (e8, a8)) := by unfold Hid; rw [hsp7.out, if_neg hz]
   have t3 : (((e8 : Nat) : Int) == 0) = false := by rw [beq_eq_false_iff_ne]; omega
   have t4 : (((e8 : Nat) : Int) != 0) = true := by rw [bne_iff_ne]; omega
   have stF := st8.out
   have cE := sm8.e.blk.cell 2; have hlp := sm8.e.blk.lt; have hm := sm8.b0.frozen; have hl0 := sm8.b0.lt; have hc0 := sm8.b0.cell; have hpn : ¬ p = w.heap.size := by have := stF.Bp; omega
   have c9 := sm8.b1.cell; have d9 := sm8.b1.frozen; have l9 := sm8.b1.lt; have hn01 : ¬ p = w.heap.size + 1 := by have := stF.Bp; omega
   have hfk := fill14_kept (v8.setCell ⟨w.heap.size + 1, 4, none⟩ (.string (str ss))) w.heap.size (.int .i64 0) (.string ⟨#[]⟩) (.int .i64 0) (.float .f64 0) (.string ⟨#[]⟩) (.int .i64 0) (.int .i64 0) (.int .i64 0) (.int .i64 0) (.float .f64 0) (.int .i64 0) (.string ⟨#[]⟩) (.slice none 0 0) (.bool false)
   have hfin := Lib.hid (zfin stF.b0)
   have hEe := Lib.hid (stF.e.kept hfk (fun e => by have := stF.Bp; omega) (fun ad e h2 => by have := stF.BA ad e; omega))
   have hKw := Lib.hid (stF.K.then_ hfk (fun i hi h2 => by exfalso; omega))
   clear hfk stF st8 sm8
   go_wp2_with (simp only [field_part4])
   refine bodyPost_ret (zres rfl hfin.out) rfl ?_
   ·rw [hJ.out]
    exact ⟨rfl, hEe.out, hKw.out⟩
  case pos =>
   have hdone : Hid (rAct bs a = aDone ⟨(k : Int), key, 0, 0, ss, zeroRec, must⟩ a8) := by unfold Hid; rw [hsp7.out, if_pos hz]
   have hE0 : Hid (AEy w p A n c bs #[.int .i64 (k : Int), .string (str key), .int .i64 0, .float .f64 0, .string (str ss), .int .i64 0, .int .i64 0, .int .i64 0, .int .i64 0, .float .f64 0, .int .i64 0, .string ⟨#[]⟩, .slice none 0 0, .bool must] (v8.setCell ⟨w.heap.size + 1, 4, none⟩ (.string (str ss))) a8 0) := by have := st8.out; rw [hz] at this; exact this
   have hwfA : Hid ((⟨(k : Int), key, 0, 0, ss, zeroRec, must⟩ : MAct).WF) := ⟨hkW.out, z64, zF, zeroRec_wf_⟩
   have stF := hE0.out
   have cE := sm8.e.blk.cell 2; have hlp := sm8.e.blk.lt; have hc9 := sm8.b1.cell; have hd9 := sm8.b1.frozen; have hl9 := sm8.b1.lt; have hn01 : ¬ p = w.heap.size + 1 := by have := stF.Bp; omega
   subst hz
   clear stF st8 sm8
   go_wp2_with (simp only [field_part4])
   have cC := racheck_any ⟨(k : Int), key, 0, 0, ss, zeroRec, must⟩ none 0 0 (by omega) hwfA.out (v8.setCell ⟨w.heap.size + 1, 4, none⟩ (.string (str ss))) (RdItems.none_ _)
   unfold actVal at cC
   refine cC.mono ?_; rintro e w9 ⟨rfl, hq⟩
   clear cC
   have st9 := Lib.hid (hE0.out.cln hq)
   have hL10 : Hid (RdItems w9 none 0 zeroRec.list) := RdItems.none_ _
   clear hq cE hlp hc9 hd9 hl9 hE0
   generalize hC : checkAct ⟨(k : Int), key, 0, 0, ss, zeroRec, must⟩ = cd
   replace hC := Lib.hid hC
   go_wp2_with fail
   refine (fail_new p A n c bs a8 cd _ st9.out.e).mono ?_
   rintro e w10 ⟨rfl, hE5, hk5⟩
   have hL11 : Hid (RdItems w10 none 0 zeroRec.list) := RdItems.none_ _
   have stF := st9.out.step hE5 hk5
   have cE := stF.e.blk.cell 2; have hlp := stF.e.blk.lt; have hm := stF.b0.frozen; have hl0 := stF.b0.lt; have hc0 := stF.b0.cell; have hpn : ¬ p = w.heap.size := by have := stF.Bp; omega
   have hc1 := stF.b1.cell; have hl1 := stF.b1.lt
   clear st9 hE5 hk5 hL10
   by_cases hz : cd = 0
   ·subst hz
    have hJ : Hid (rAct bs a = .ok (⟨(k : Int), key, 0, 0, ss, zeroRec, must⟩, a8)) := by unfold Hid; rw [hdone.out]; unfold aDone; rw [if_pos hC.out]
    have hfk := fill14_kept w10 w.heap.size (.int .i64 (k : Int)) (.string (str key)) (.int .i64 0) (.float .f64 0) (.string (str ss)) (.int .i64 0) (.int .i64 0) (.int .i64 0) (.int .i64 0) (.float .f64 0) (.int .i64 0) (.string ⟨#[]⟩) (.slice none 0 0) (.bool must)
    have hfin := Lib.hid (Blk.store14 stF.b0 (v0 := .int .i64 (k : Int)) (v1 := .string (str key)) (v2 := .int .i64 0) (v3 := .float .f64 0) (v4 := .string (str ss)) (v5 := .int .i64 0) (v6 := .int .i64 0) (v7 := .int .i64 0) (v8 := .int .i64 0) (v9 := .float .f64 0) (v10 := .int .i64 0) (v11 := .string ⟨#[]⟩) (v12 := .slice none 0 0) (v13 := .bool must))
    have hEe := Lib.hid (stF.e.kept hfk (fun e => by have := stF.Bp; omega) (fun ad e h2 => by have := stF.BA ad e; omega))
    have hKw := Lib.hid (stF.K.then_ hfk (fun i hi h2 => by exfalso; omega))
    have hLL := Lib.hid (hL11.out.kept hfk (fun ad e _ h2 => by cases e))
    clear hfk stF hL11
    go_wp2_with fail
    refine bodyPost_ret (v := .agg #[.int .i64 (k : Int), .string (str key), .int .i64 0, .float .f64 0, .string (str ss), .int .i64 0, .int .i64 0, .int .i64 0, .int .i64 0, .float .f64 0, .int .i64 0, .string ⟨#[]⟩, .slice none 0 0, .bool must]) ?_ rfl ?_
    ·exact results_cell_row Tryz.results97 _ _ w.heap.size 90 #[.int .i64 (k : Int), .string (str key), .int .i64 0, .float .f64 0, .string (str ss), .int .i64 0, .int .i64 0, .int .i64 0, .int .i64 0, .float .f64 0, .int .i64 0, .string ⟨#[]⟩, .slice none 0 0, .bool must] (0, 0) _ rfl hfin.out Tryz.underlying90 rfl size_act
    ·rw [hJ.out]
     exact ⟨none, 0, 0, rfl, hLL.out, by omega, (fun ad e => by cases e), hEe.out, hKw.out⟩
   ·have hJ : Hid (rAct bs a = .error (cd, a8)) := by unfold Hid; rw [hdone.out]; unfold aDone; rw [if_neg (by rw [hC.out]; exact hz), hC.out]
    have t4 : (((cd : Nat) : Int) != 0) = true := by rw [bne_iff_ne]; omega
    have hfk := fill14_kept w10 w.heap.size (.int .i64 0) (.string ⟨#[]⟩) (.int .i64 0) (.float .f64 0) (.string ⟨#[]⟩) (.int .i64 0) (.int .i64 0) (.int .i64 0) (.int .i64 0) (.float .f64 0) (.int .i64 0) (.string ⟨#[]⟩) (.slice none 0 0) (.bool false)
    have hfin := Lib.hid (zfin stF.b0)
    have hEe := Lib.hid (stF.e.kept hfk (fun e => by have := stF.Bp; omega) (fun ad e h2 => by have := stF.BA ad e; omega))
    have hKw := Lib.hid (stF.K.then_ hfk (fun i hi h2 => by exfalso; omega))
    clear hfk stF hL11
    go_wp2_with fail
    refine bodyPost_ret (zres rfl hfin.out) rfl ?_
    ·rw [hJ.out]
     exact ⟨rfl, hEe.out, hKw.out⟩
set_option maxHeartbeats 8000000 in
theorem anext_real (p : Nat) (A : Option Addr) (n c : Nat) (bs : List UInt8) (a : Nat) (w : World) (hE : IsE w p A n c bs a 0) (hA : ∀ ad, A = some ad → ad.block < w.heap.size) (k a1 : Nat) (hk1 : 1 ≤ k ∧ k ≤ 21) (hU : rUpto 21 bs a = .ok (k, a1))
  (hN : hasF (k : Int) 110 = false) (hX : hasF (k : Int) 120 = true) (hS : hasF (k : Int) 115 = false) (hM : hasF (k : Int) 109 = false) (he : k ≠ 1) :
  Calls Tryz.prog 97 #[.pointer (some ⟨p, 0, none⟩)] w (ANextPost w p A n c bs (rAct bs a)) := by
 have hsp1 : Hid (rAct bs a = aMust k bs a1) := by unfold Hid rAct; simp only [hU]; rw [if_neg (by omega)]
 have hp0 := hE.blk.lt
 have t0 : ((k : Int) == 0) = false := by rw [beq_eq_false_iff_ne]; omega
 have tk1 : ((k : Int) == 1) = false := by rw [beq_eq_false_iff_ne]; omega
 have hkW : Hid (-9223372036854775808 ≤ (k : Int) ∧ (k : Int) < 9223372036854775808) := ⟨by omega, by omega⟩
 have f110 : ∀ W, Calls Tryz.prog 106 #[.int .i64 (k : Int), .int .u8 110] W fun e w' => e = .returned (.bool false) ∧ Cln W w' := fun W => hN ▸ rhas_any k 110 W
 have f120 : ∀ W, Calls Tryz.prog 106 #[.int .i64 (k : Int), .int .u8 120] W fun e w' => e = .returned (.bool true) ∧ Cln W w' := fun W => hX ▸ rhas_any k 120 W
 have f115 : ∀ W, Calls Tryz.prog 106 #[.int .i64 (k : Int), .int .u8 115] W fun e w' => e = .returned (.bool false) ∧ Cln W w' := fun W => hS ▸ rhas_any k 115 W
 have fon : ∀ W, Calls Tryz.prog 107 #[.int .i64 (k : Int)] W fun e w' => e = .returned (.int .i64 (onOf k : Nat)) ∧ Cln W w' := fun W => ron_any k W
 have hcl0 := hzANexts0 w
 have hb2 := (Blk.new w 90 #[.int .i64 0, .string ⟨#[]⟩, .int .i64 0, .float .f64 0, .string ⟨#[]⟩, .int .i64 0, .int .i64 0, .int .i64 0, .int .i64 0, .float .f64 0, .int .i64 0, .string ⟨#[]⟩, .slice none 0 0, .bool false]).alloc (.cells #[.int .i64 0, .string ⟨#[]⟩, .int .i64 0, .float .f64 0, .string ⟨#[]⟩, .int .i64 0, .int .i64 0, .int .i64 0, .int .i64 0, .float .f64 0, .int .i64 0, .string ⟨#[]⟩, .slice none 0 0, .bool false] 90)
 have hb3 := Blk.new (w.alloc (.cells #[.int .i64 0, .string ⟨#[]⟩, .int .i64 0, .float .f64 0, .string ⟨#[]⟩, .int .i64 0, .int .i64 0, .int .i64 0, .int .i64 0, .float .f64 0, .int .i64 0, .string ⟨#[]⟩, .slice none 0 0, .bool false] 90)) 90 #[.int .i64 0, .string ⟨#[]⟩, .int .i64 0, .float .f64 0, .string ⟨#[]⟩, .int .i64 0, .int .i64 0, .int .i64 0, .int .i64 0, .float .f64 0, .int .i64 0, .string ⟨#[]⟩, .slice none 0 0, .bool false]
 rw [World.size_alloc] at hb3
 go_enter Tryz.func97, Tryz.ntmps97
 go_wp2_with fail
 refine (upto_new p A n c bs a 21 (by decide) _ (hE.cln hcl0)).mono ?_
 intro e w1 hP
 rw [hU] at hP
 obtain ⟨rfl, hE1, hk⟩ := hP
 have st0 : AEy w p A n c bs #[.int .i64 0, .string ⟨#[]⟩, .int .i64 0, .float .f64 0, .string ⟨#[]⟩, .int .i64 0, .int .i64 0, .int .i64 0, .int .i64 0, .float .f64 0, .int .i64 0, .string ⟨#[]⟩, .slice none 0 0, .bool false] w1 a1 0 := ⟨hE1, (Kept.of_below (S := fun i => i = p) hcl0).then_ hk (fun i _ h => h), hb2.kept hk (by omega), hb3.kept hk (by omega), hp0, hA⟩
 have st1 := Lib.hid (st0.store (cs1' := #[.int .i64 (k : Int), .string ⟨#[]⟩, .int .i64 0, .float .f64 0, .string ⟨#[]⟩, .int .i64 0, .int .i64 0, .int .i64 0, .int .i64 0, .float .f64 0, .int .i64 0, .string ⟨#[]⟩, .slice none 0 0, .bool false]) 0 (.int .i64 (k : Int)) rfl)
 have c1 := st0.b1.cell 0; have d1 := st0.b1.frozen 0; have l1 := st0.b1.lt
 replace he := Lib.hid he; replace hk1 := Lib.hid hk1
 replace hN := Lib.hid hN; replace hX := Lib.hid hX; replace hS := Lib.hid hS; replace hM := Lib.hid hM
 clear hE hE1 hk hb2 hb3 hcl0 st0
 go_wp2_with fail
 clear c1 d1 l1
 rcases hn1 : nxt (rFlag bs) false a1 0 with ⟨must, a2, e2⟩
 have hsp2 : Hid (rAct bs a = if e2 = 0 then aKey k must bs a2 else .error (e2, a2)) := by
  exact hsp1.out.trans ((if_pos rfl).symm.trans (stepMust hn1))
 refine (part_b_st p A n c bs a1 0 _ st1.out.e 0 hn1).mono ?_
 rintro e v2 ⟨⟨_, _, _, _, _, rfl⟩, hE2, hk2⟩
 have sm2 := st1.out.step hE2 hk2
 clear hE2 hk2 hn1 
 have c2 := sm2.b1.cell; have d2 := sm2.b1.frozen; have l2 := sm2.b1.lt
 have st2 := Lib.hid (sm2.store (cs1' := #[.int .i64 (k : Int), .string ⟨#[]⟩, .int .i64 0, .float .f64 0, .string ⟨#[]⟩, .int .i64 0, .int .i64 0, .int .i64 0, .int .i64 0, .float .f64 0, .int .i64 0, .string ⟨#[]⟩, .slice none 0 0, .bool must]) 13 (.bool must) rfl)
 clear sm2 st1
 go_wp2_with (simp only [field_part5])
 clear c2 d2 l2
 rcases hn2 : nxt (rS 24 bs) [] a2 e2 with ⟨key, a3, e3⟩
 have hsp3 : Hid (rAct bs a = if e3 = 0 then aN k must key bs a3 else .error (e3, a3)) := by
  exact hsp2.out.trans (stepKey hn2)
 refine (part_s_st p A n c bs a2 e2 _ st2.out.e 24 (by decide) hn2).mono ?_
 rintro e v3 ⟨⟨_, _, _, _, _, rfl⟩, hE2, hk2⟩
 have sm3 := st2.out.step hE2 hk2
 clear hE2 hk2 hn2 
 have c3 := sm3.b1.cell; have d3 := sm3.b1.frozen; have l3 := sm3.b1.lt
 have st3 := Lib.hid (sm3.store (cs1' := #[.int .i64 (k : Int), .string (str key), .int .i64 0, .float .f64 0, .string ⟨#[]⟩, .int .i64 0, .int .i64 0, .int .i64 0, .int .i64 0, .float .f64 0, .int .i64 0, .string ⟨#[]⟩, .slice none 0 0, .bool must]) 1 (.string (str key)) rfl)
 clear sm3 st2
 go_wp2_with (simp only [field_part4])
 clear c3 d3 l3
 refine (f110 _).mono ?_; rintro e v4 ⟨rfl, hq⟩
 have st4 := Lib.hid (st3.out.cln hq)
 clear hq st3
 have c4 := st4.out.b1.cell; have d4 := st4.out.b1.frozen; have l4 := st4.out.b1.lt
 go_wp2_with fail
 clear c4 d4 l4
 have hsp4 : Hid (rAct bs a = if e3 = 0 then aX k must key 0 bs a3 else .error (e3, a3)) := by unfold Hid; rw [hsp3.out, aN_no hN.out]
 refine (f120 _).mono ?_; rintro e v5 ⟨rfl, hq⟩
 have st5 := Lib.hid (st4.out.cln hq)
 clear hq st4
 have c5 := st5.out.b1.cell; have d5 := st5.out.b1.frozen; have l5 := st5.out.b1.lt
 go_wp2_with fail
 clear c5 d5 l5
 rcases hn5 : nxt (rF bs) (funkey 0) a3 e3 with ⟨xx, a6, e6⟩
 have hsp5 : Hid (rAct bs a = if e6 = 0 then aS k must key 0 xx bs a6 else .error (e6, a6)) := hsp4.out.trans (stepX hX.out hn5)
 have hxW : Hid (xx < 18446744073709551616) := nxt_all (fun x : Nat => x < 18446744073709551616) funkey_lt0 (fun x a' h => rF_lt h) hn5
 refine (part_f_st p A n c bs a3 e3 _ st5.out.e 0 hn5).mono ?_
 rintro e v6 ⟨⟨x0, x1, x2, K, x4, x5, rfl, hK1, hK2⟩, hE2, hk2⟩
 have sm6 := st5.out.step hE2 hk2
 have hx := Blk.new v6 132 #[.int .u8 x0, .int .u64 x1, .int .i64 x2, .int .u64 (K : Nat), .string x4, .bool x5]
 have sx6 := sm6.cln (show Cln v6 (v6.alloc (.cells #[.int .u8 x0, .int .u64 x1, .int .i64 x2, .int .u64 (K : Nat), .string x4, .bool x5] 132)) from by (repeat with_reducible first | exact cR _ | assumption | refine cA ?_ _ | refine cD ?_ | refine cN ?_ _ | refine cS ?_ (by first | omega | (simp <;> omega)) _))
 have hsv : w.heap.size + 1 < v6.heap.size := sm6.b1.lt
 have hpv : ¬ p = v6.heap.size := by omega
 have hn1v : ¬ w.heap.size + 1 = v6.heap.size := by omega
 have cE := sm6.e.blk.cell 2; have hlp := sm6.e.blk.lt
 have c6 := sm6.b1.cell; have d6 := sm6.b1.frozen; have l6 := sm6.b1.lt
 have xc := hx.cell 3; have xl := hx.lt
 replace hK2 := Lib.hid hK2
 clear hE2 hk2 hn5 st5
 by_cases hz : e6 = 0
 case neg =>
  have te : (((e6 : Nat) : Int) == 0) = false := by rw [beq_eq_false_iff_ne]; omega
  have st6 := Lib.hid sx6
  clear sx6 hx sm6
  replace hz := Lib.hid hz
  go_wp2_with fail
  clear cE hlp c6 d6 l6 xc xl te
  replace hz := hz.out
  refine (f115 _).mono ?_; rintro e v7 ⟨rfl, hq⟩
  have st7 := Lib.hid (st6.out.cln hq)
  clear hq st6
  have hsp6 : Hid (rAct bs a = if e6 = 0 then aM k must key 0 xx [] bs a6 else .error (e6, a6)) := by unfold Hid; rw [hsp5.out, aS_no hS.out]
  have hsp7 : Hid (rAct bs a = if e6 = 0 then aDone ⟨(k : Int), key, 0, xx, [], zeroRec, must⟩ a6 else .error (e6, a6)) := by unfold Hid; rw [hsp6.out, aM_no hM.out]
  have hJ : Hid (rAct bs a = .error (e6, a6)) := by unfold Hid; rw [hsp7.out, if_neg hz]
  have t3 : (((e6 : Nat) : Int) == 0) = false := by rw [beq_eq_false_iff_ne]; omega
  have t4 : (((e6 : Nat) : Int) != 0) = true := by rw [bne_iff_ne]; omega
  have stF := st7.out
  have cE := stF.e.blk.cell 2; have hlp := stF.e.blk.lt; have hm := stF.b0.frozen; have hl0 := stF.b0.lt; have hc0 := stF.b0.cell; have hpn : ¬ p = w.heap.size := by have := stF.Bp; omega
  have c9 := stF.b1.cell; have d9 := stF.b1.frozen; have l9 := stF.b1.lt; have hn01 : ¬ p = w.heap.size + 1 := by have := stF.Bp; omega
  have hfk := fill14_kept v7 w.heap.size (.int .i64 0) (.string ⟨#[]⟩) (.int .i64 0) (.float .f64 0) (.string ⟨#[]⟩) (.int .i64 0) (.int .i64 0) (.int .i64 0) (.int .i64 0) (.float .f64 0) (.int .i64 0) (.string ⟨#[]⟩) (.slice none 0 0) (.bool false)
  have hfin := Lib.hid (zfin stF.b0)
  have hEe := Lib.hid (stF.e.kept hfk (fun e => by have := stF.Bp; omega) (fun ad e h2 => by have := stF.BA ad e; omega))
  have hKw := Lib.hid (stF.K.then_ hfk (fun i hi h2 => by exfalso; omega))
  clear hfk stF st7
  go_wp2_with fail
  refine bodyPost_ret (zres rfl hfin.out) rfl ?_
  ·rw [hJ.out]
   exact ⟨rfl, hEe.out, hKw.out⟩
 case pos =>
  have te : (((e6 : Nat) : Int) == 0) = true := by rw [hz]; rfl
  have st6 := Lib.hid ((sm6.store (cs1' := #[.int .i64 (k : Int), .string (str key), .int .i64 0, .float .f64 xx, .string ⟨#[]⟩, .int .i64 0, .int .i64 0, .int .i64 0, .int .i64 0, .float .f64 0, .int .i64 0, .string ⟨#[]⟩, .slice none 0 0, .bool must]) 3 (.float .f64 xx) rfl).cln (show Cln _ ((v6.setCell ⟨w.heap.size + 1, 3, none⟩ (.float .f64 xx)).alloc (.cells #[.int .u8 x0, .int .u64 x1, .int .i64 x2, .int .u64 (K : Nat), .string x4, .bool x5] 132)) from by (repeat with_reducible first | exact cR _ | assumption | refine cA ?_ _ | refine cD ?_ | refine cN ?_ _ | refine cS ?_ (by first | omega | (simp <;> omega)) _)))
  clear sx6 hx sm6
  replace hz := Lib.hid hz
  go_wp2_with fail
  refine (number_any K hK1 _).mono ?_; rintro e w8 ⟨rfl, rfl⟩
  rw [hK2.out]
  go_wp2_with fail
  clear cE hlp c6 d6 l6 xc xl te hz
  refine (f115 _).mono ?_; rintro e v7 ⟨rfl, hq⟩
  have st7 := Lib.hid (st6.out.cln hq)
  clear hq st6
  have hsp6 : Hid (rAct bs a = if e6 = 0 then aM k must key 0 xx [] bs a6 else .error (e6, a6)) := by unfold Hid; rw [hsp5.out, aS_no hS.out]
  have hsp7 : Hid (rAct bs a = if e6 = 0 then aDone ⟨(k : Int), key, 0, xx, [], zeroRec, must⟩ a6 else .error (e6, a6)) := by unfold Hid; rw [hsp6.out, aM_no hM.out]
  by_cases hz : e6 = 0
  case neg =>
   have hJ : Hid (rAct bs a = .error (e6, a6)) := by unfold Hid; rw [hsp7.out, if_neg hz]
   have t3 : (((e6 : Nat) : Int) == 0) = false := by rw [beq_eq_false_iff_ne]; omega
   have t4 : (((e6 : Nat) : Int) != 0) = true := by rw [bne_iff_ne]; omega
   have stF := st7.out
   have cE := stF.e.blk.cell 2; have hlp := stF.e.blk.lt; have hm := stF.b0.frozen; have hl0 := stF.b0.lt; have hc0 := stF.b0.cell; have hpn : ¬ p = w.heap.size := by have := stF.Bp; omega
   have c9 := stF.b1.cell; have d9 := stF.b1.frozen; have l9 := stF.b1.lt; have hn01 : ¬ p = w.heap.size + 1 := by have := stF.Bp; omega
   have hfk := fill14_kept v7 w.heap.size (.int .i64 0) (.string ⟨#[]⟩) (.int .i64 0) (.float .f64 0) (.string ⟨#[]⟩) (.int .i64 0) (.int .i64 0) (.int .i64 0) (.int .i64 0) (.float .f64 0) (.int .i64 0) (.string ⟨#[]⟩) (.slice none 0 0) (.bool false)
   have hfin := Lib.hid (zfin stF.b0)
   have hEe := Lib.hid (stF.e.kept hfk (fun e => by have := stF.Bp; omega) (fun ad e h2 => by have := stF.BA ad e; omega))
   have hKw := Lib.hid (stF.K.then_ hfk (fun i hi h2 => by exfalso; omega))
   clear hfk stF st7
   go_wp2_with fail
   refine bodyPost_ret (zres rfl hfin.out) rfl ?_
   ·rw [hJ.out]
    exact ⟨rfl, hEe.out, hKw.out⟩
  case pos =>
   have hdone : Hid (rAct bs a = aDone ⟨(k : Int), key, 0, xx, [], zeroRec, must⟩ a6) := by unfold Hid; rw [hsp7.out, if_pos hz]
   have hE0 : Hid (AEy w p A n c bs #[.int .i64 (k : Int), .string (str key), .int .i64 0, .float .f64 xx, .string ⟨#[]⟩, .int .i64 0, .int .i64 0, .int .i64 0, .int .i64 0, .float .f64 0, .int .i64 0, .string ⟨#[]⟩, .slice none 0 0, .bool must] v7 a6 0) := by have := st7.out; rw [hz] at this; exact this
   have hwfA : Hid ((⟨(k : Int), key, 0, xx, [], zeroRec, must⟩ : MAct).WF) := ⟨hkW.out, z64, hxW.out, zeroRec_wf_⟩
   have stF := hE0.out
   have cE := stF.e.blk.cell 2; have hlp := stF.e.blk.lt; have hc9 := stF.b1.cell; have hd9 := stF.b1.frozen; have hl9 := stF.b1.lt; have hn01 : ¬ p = w.heap.size + 1 := by have := stF.Bp; omega
   subst hz
   clear stF st7
   go_wp2_with fail
   have cC := racheck_any ⟨(k : Int), key, 0, xx, [], zeroRec, must⟩ none 0 0 (by omega) hwfA.out v7 (RdItems.none_ _)
   unfold actVal at cC
   refine cC.mono ?_; rintro e w9 ⟨rfl, hq⟩
   clear cC
   have st9 := Lib.hid (hE0.out.cln hq)
   have hL10 : Hid (RdItems w9 none 0 zeroRec.list) := RdItems.none_ _
   clear hq cE hlp hc9 hd9 hl9 hE0
   generalize hC : checkAct ⟨(k : Int), key, 0, xx, [], zeroRec, must⟩ = cd
   replace hC := Lib.hid hC
   go_wp2_with fail
   refine (fail_new p A n c bs a6 cd _ st9.out.e).mono ?_
   rintro e w10 ⟨rfl, hE5, hk5⟩
   have hL11 : Hid (RdItems w10 none 0 zeroRec.list) := RdItems.none_ _
   have stF := st9.out.step hE5 hk5
   have cE := stF.e.blk.cell 2; have hlp := stF.e.blk.lt; have hm := stF.b0.frozen; have hl0 := stF.b0.lt; have hc0 := stF.b0.cell; have hpn : ¬ p = w.heap.size := by have := stF.Bp; omega
   have hc1 := stF.b1.cell; have hl1 := stF.b1.lt
   clear st9 hE5 hk5 hL10
   by_cases hz : cd = 0
   ·subst hz
    have hJ : Hid (rAct bs a = .ok (⟨(k : Int), key, 0, xx, [], zeroRec, must⟩, a6)) := by unfold Hid; rw [hdone.out]; unfold aDone; rw [if_pos hC.out]
    have hfk := fill14_kept w10 w.heap.size (.int .i64 (k : Int)) (.string (str key)) (.int .i64 0) (.float .f64 xx) (.string ⟨#[]⟩) (.int .i64 0) (.int .i64 0) (.int .i64 0) (.int .i64 0) (.float .f64 0) (.int .i64 0) (.string ⟨#[]⟩) (.slice none 0 0) (.bool must)
    have hfin := Lib.hid (Blk.store14 stF.b0 (v0 := .int .i64 (k : Int)) (v1 := .string (str key)) (v2 := .int .i64 0) (v3 := .float .f64 xx) (v4 := .string ⟨#[]⟩) (v5 := .int .i64 0) (v6 := .int .i64 0) (v7 := .int .i64 0) (v8 := .int .i64 0) (v9 := .float .f64 0) (v10 := .int .i64 0) (v11 := .string ⟨#[]⟩) (v12 := .slice none 0 0) (v13 := .bool must))
    have hEe := Lib.hid (stF.e.kept hfk (fun e => by have := stF.Bp; omega) (fun ad e h2 => by have := stF.BA ad e; omega))
    have hKw := Lib.hid (stF.K.then_ hfk (fun i hi h2 => by exfalso; omega))
    have hLL := Lib.hid (hL11.out.kept hfk (fun ad e _ h2 => by cases e))
    clear hfk stF hL11
    go_wp2_with fail
    refine bodyPost_ret (v := .agg #[.int .i64 (k : Int), .string (str key), .int .i64 0, .float .f64 xx, .string ⟨#[]⟩, .int .i64 0, .int .i64 0, .int .i64 0, .int .i64 0, .float .f64 0, .int .i64 0, .string ⟨#[]⟩, .slice none 0 0, .bool must]) ?_ rfl ?_
    ·exact results_cell_row Tryz.results97 _ _ w.heap.size 90 #[.int .i64 (k : Int), .string (str key), .int .i64 0, .float .f64 xx, .string ⟨#[]⟩, .int .i64 0, .int .i64 0, .int .i64 0, .int .i64 0, .float .f64 0, .int .i64 0, .string ⟨#[]⟩, .slice none 0 0, .bool must] (0, 0) _ rfl hfin.out Tryz.underlying90 rfl size_act
    ·rw [hJ.out]
     exact ⟨none, 0, 0, rfl, hLL.out, by omega, (fun ad e => by cases e), hEe.out, hKw.out⟩
   ·have hJ : Hid (rAct bs a = .error (cd, a6)) := by unfold Hid; rw [hdone.out]; unfold aDone; rw [if_neg (by rw [hC.out]; exact hz), hC.out]
    have t4 : (((cd : Nat) : Int) != 0) = true := by rw [bne_iff_ne]; omega
    have hfk := fill14_kept w10 w.heap.size (.int .i64 0) (.string ⟨#[]⟩) (.int .i64 0) (.float .f64 0) (.string ⟨#[]⟩) (.int .i64 0) (.int .i64 0) (.int .i64 0) (.int .i64 0) (.float .f64 0) (.int .i64 0) (.string ⟨#[]⟩) (.slice none 0 0) (.bool false)
    have hfin := Lib.hid (zfin stF.b0)
    have hEe := Lib.hid (stF.e.kept hfk (fun e => by have := stF.Bp; omega) (fun ad e h2 => by have := stF.BA ad e; omega))
    have hKw := Lib.hid (stF.K.then_ hfk (fun i hi h2 => by exfalso; omega))
    clear hfk stF hL11
    go_wp2_with fail
    refine bodyPost_ret (zres rfl hfin.out) rfl ?_
    ·rw [hJ.out]
     exact ⟨rfl, hEe.out, hKw.out⟩
set_option maxHeartbeats 8000000 in
theorem anext_offer (p : Nat) (A : Option Addr) (n c : Nat) (bs : List UInt8) (a : Nat) (w : World) (hE : IsE w p A n c bs a 0) (hA : ∀ ad, A = some ad → ad.block < w.heap.size) (k a1 : Nat) (hk1 : 1 ≤ k ∧ k ≤ 21) (hU : rUpto 21 bs a = .ok (k, a1))
  (hN : hasF (k : Int) 110 = false) (hX : hasF (k : Int) 120 = true) (hS : hasF (k : Int) 115 = true) (hM : hasF (k : Int) 109 = false) (he : k ≠ 1) :
  Calls Tryz.prog 97 #[.pointer (some ⟨p, 0, none⟩)] w (ANextPost w p A n c bs (rAct bs a)) := by
 have hsp1 : Hid (rAct bs a = aMust k bs a1) := by unfold Hid rAct; simp only [hU]; rw [if_neg (by omega)]
 have hp0 := hE.blk.lt
 have t0 : ((k : Int) == 0) = false := by rw [beq_eq_false_iff_ne]; omega
 have tk1 : ((k : Int) == 1) = false := by rw [beq_eq_false_iff_ne]; omega
 have hkW : Hid (-9223372036854775808 ≤ (k : Int) ∧ (k : Int) < 9223372036854775808) := ⟨by omega, by omega⟩
 have f110 : ∀ W, Calls Tryz.prog 106 #[.int .i64 (k : Int), .int .u8 110] W fun e w' => e = .returned (.bool false) ∧ Cln W w' := fun W => hN ▸ rhas_any k 110 W
 have f120 : ∀ W, Calls Tryz.prog 106 #[.int .i64 (k : Int), .int .u8 120] W fun e w' => e = .returned (.bool true) ∧ Cln W w' := fun W => hX ▸ rhas_any k 120 W
 have f115 : ∀ W, Calls Tryz.prog 106 #[.int .i64 (k : Int), .int .u8 115] W fun e w' => e = .returned (.bool true) ∧ Cln W w' := fun W => hS ▸ rhas_any k 115 W
 have fon : ∀ W, Calls Tryz.prog 107 #[.int .i64 (k : Int)] W fun e w' => e = .returned (.int .i64 (onOf k : Nat)) ∧ Cln W w' := fun W => ron_any k W
 have hcl0 := hzANexts0 w
 have hb2 := (Blk.new w 90 #[.int .i64 0, .string ⟨#[]⟩, .int .i64 0, .float .f64 0, .string ⟨#[]⟩, .int .i64 0, .int .i64 0, .int .i64 0, .int .i64 0, .float .f64 0, .int .i64 0, .string ⟨#[]⟩, .slice none 0 0, .bool false]).alloc (.cells #[.int .i64 0, .string ⟨#[]⟩, .int .i64 0, .float .f64 0, .string ⟨#[]⟩, .int .i64 0, .int .i64 0, .int .i64 0, .int .i64 0, .float .f64 0, .int .i64 0, .string ⟨#[]⟩, .slice none 0 0, .bool false] 90)
 have hb3 := Blk.new (w.alloc (.cells #[.int .i64 0, .string ⟨#[]⟩, .int .i64 0, .float .f64 0, .string ⟨#[]⟩, .int .i64 0, .int .i64 0, .int .i64 0, .int .i64 0, .float .f64 0, .int .i64 0, .string ⟨#[]⟩, .slice none 0 0, .bool false] 90)) 90 #[.int .i64 0, .string ⟨#[]⟩, .int .i64 0, .float .f64 0, .string ⟨#[]⟩, .int .i64 0, .int .i64 0, .int .i64 0, .int .i64 0, .float .f64 0, .int .i64 0, .string ⟨#[]⟩, .slice none 0 0, .bool false]
 rw [World.size_alloc] at hb3
 go_enter Tryz.func97, Tryz.ntmps97
 go_wp2_with fail
 refine (upto_new p A n c bs a 21 (by decide) _ (hE.cln hcl0)).mono ?_
 intro e w1 hP
 rw [hU] at hP
 obtain ⟨rfl, hE1, hk⟩ := hP
 have st0 : AEy w p A n c bs #[.int .i64 0, .string ⟨#[]⟩, .int .i64 0, .float .f64 0, .string ⟨#[]⟩, .int .i64 0, .int .i64 0, .int .i64 0, .int .i64 0, .float .f64 0, .int .i64 0, .string ⟨#[]⟩, .slice none 0 0, .bool false] w1 a1 0 := ⟨hE1, (Kept.of_below (S := fun i => i = p) hcl0).then_ hk (fun i _ h => h), hb2.kept hk (by omega), hb3.kept hk (by omega), hp0, hA⟩
 have st1 := Lib.hid (st0.store (cs1' := #[.int .i64 (k : Int), .string ⟨#[]⟩, .int .i64 0, .float .f64 0, .string ⟨#[]⟩, .int .i64 0, .int .i64 0, .int .i64 0, .int .i64 0, .float .f64 0, .int .i64 0, .string ⟨#[]⟩, .slice none 0 0, .bool false]) 0 (.int .i64 (k : Int)) rfl)
 have c1 := st0.b1.cell 0; have d1 := st0.b1.frozen 0; have l1 := st0.b1.lt
 replace he := Lib.hid he; replace hk1 := Lib.hid hk1
 replace hN := Lib.hid hN; replace hX := Lib.hid hX; replace hS := Lib.hid hS; replace hM := Lib.hid hM
 clear hE hE1 hk hb2 hb3 hcl0 st0
 go_wp2_with fail
 clear c1 d1 l1
 rcases hn1 : nxt (rFlag bs) false a1 0 with ⟨must, a2, e2⟩
 have hsp2 : Hid (rAct bs a = if e2 = 0 then aKey k must bs a2 else .error (e2, a2)) := by
  exact hsp1.out.trans ((if_pos rfl).symm.trans (stepMust hn1))
 refine (part_b_st p A n c bs a1 0 _ st1.out.e 0 hn1).mono ?_
 rintro e v2 ⟨⟨_, _, _, _, _, rfl⟩, hE2, hk2⟩
 have sm2 := st1.out.step hE2 hk2
 clear hE2 hk2 hn1 
 have c2 := sm2.b1.cell; have d2 := sm2.b1.frozen; have l2 := sm2.b1.lt
 have st2 := Lib.hid (sm2.store (cs1' := #[.int .i64 (k : Int), .string ⟨#[]⟩, .int .i64 0, .float .f64 0, .string ⟨#[]⟩, .int .i64 0, .int .i64 0, .int .i64 0, .int .i64 0, .float .f64 0, .int .i64 0, .string ⟨#[]⟩, .slice none 0 0, .bool must]) 13 (.bool must) rfl)
 clear sm2 st1
 go_wp2_with (simp only [field_part5])
 clear c2 d2 l2
 rcases hn2 : nxt (rS 24 bs) [] a2 e2 with ⟨key, a3, e3⟩
 have hsp3 : Hid (rAct bs a = if e3 = 0 then aN k must key bs a3 else .error (e3, a3)) := by
  exact hsp2.out.trans (stepKey hn2)
 refine (part_s_st p A n c bs a2 e2 _ st2.out.e 24 (by decide) hn2).mono ?_
 rintro e v3 ⟨⟨_, _, _, _, _, rfl⟩, hE2, hk2⟩
 have sm3 := st2.out.step hE2 hk2
 clear hE2 hk2 hn2 
 have c3 := sm3.b1.cell; have d3 := sm3.b1.frozen; have l3 := sm3.b1.lt
 have st3 := Lib.hid (sm3.store (cs1' := #[.int .i64 (k : Int), .string (str key), .int .i64 0, .float .f64 0, .string ⟨#[]⟩, .int .i64 0, .int .i64 0, .int .i64 0, .int .i64 0, .float .f64 0, .int .i64 0, .string ⟨#[]⟩, .slice none 0 0, .bool must]) 1 (.string (str key)) rfl)
 clear sm3 st2
 go_wp2_with (simp only [field_part4])
 clear c3 d3 l3
 refine (f110 _).mono ?_; rintro e v4 ⟨rfl, hq⟩
 have st4 := Lib.hid (st3.out.cln hq)
 clear hq st3
 have c4 := st4.out.b1.cell; have d4 := st4.out.b1.frozen; have l4 := st4.out.b1.lt
 go_wp2_with fail
 clear c4 d4 l4
 have hsp4 : Hid (rAct bs a = if e3 = 0 then aX k must key 0 bs a3 else .error (e3, a3)) := by unfold Hid; rw [hsp3.out, aN_no hN.out]
 refine (f120 _).mono ?_; rintro e v5 ⟨rfl, hq⟩
 have st5 := Lib.hid (st4.out.cln hq)
 clear hq st4
 have c5 := st5.out.b1.cell; have d5 := st5.out.b1.frozen; have l5 := st5.out.b1.lt
 go_wp2_with fail
 clear c5 d5 l5
 rcases hn5 : nxt (rF bs) (funkey 0) a3 e3 with ⟨xx, a6, e6⟩
 have hsp5 : Hid (rAct bs a = if e6 = 0 then aS k must key 0 xx bs a6 else .error (e6, a6)) := hsp4.out.trans (stepX hX.out hn5)
 have hxW : Hid (xx < 18446744073709551616) := nxt_all (fun x : Nat => x < 18446744073709551616) funkey_lt0 (fun x a' h => rF_lt h) hn5
 refine (part_f_st p A n c bs a3 e3 _ st5.out.e 0 hn5).mono ?_
 rintro e v6 ⟨⟨x0, x1, x2, K, x4, x5, rfl, hK1, hK2⟩, hE2, hk2⟩
 have sm6 := st5.out.step hE2 hk2
 have hx := Blk.new v6 132 #[.int .u8 x0, .int .u64 x1, .int .i64 x2, .int .u64 (K : Nat), .string x4, .bool x5]
 have sx6 := sm6.cln (show Cln v6 (v6.alloc (.cells #[.int .u8 x0, .int .u64 x1, .int .i64 x2, .int .u64 (K : Nat), .string x4, .bool x5] 132)) from by (repeat with_reducible first | exact cR _ | assumption | refine cA ?_ _ | refine cD ?_ | refine cN ?_ _ | refine cS ?_ (by first | omega | (simp <;> omega)) _))
 have hsv : w.heap.size + 1 < v6.heap.size := sm6.b1.lt
 have hpv : ¬ p = v6.heap.size := by omega
 have hn1v : ¬ w.heap.size + 1 = v6.heap.size := by omega
 have cE := sm6.e.blk.cell 2; have hlp := sm6.e.blk.lt
 have c6 := sm6.b1.cell; have d6 := sm6.b1.frozen; have l6 := sm6.b1.lt
 have xc := hx.cell 3; have xl := hx.lt
 replace hK2 := Lib.hid hK2
 clear hE2 hk2 hn5 st5
 by_cases hz : e6 = 0
 case neg =>
  have te : (((e6 : Nat) : Int) == 0) = false := by rw [beq_eq_false_iff_ne]; omega
  have st6 := Lib.hid sx6
  clear sx6 hx sm6
  replace hz := Lib.hid hz
  go_wp2_with fail
  clear cE hlp c6 d6 l6 xc xl te
  replace hz := hz.out
  refine (f115 _).mono ?_; rintro e v7 ⟨rfl, hq⟩
  have st7 := Lib.hid (st6.out.cln hq)
  clear hq st6
  have c7 := st7.out.b1.cell; have d7 := st7.out.b1.frozen; have l7 := st7.out.b1.lt
  go_wp2_with fail
  clear c7 d7 l7
  refine (fon _).mono ?_; rintro e v8 ⟨rfl, hq⟩
  have st8 := Lib.hid (st7.out.cln hq)
  clear hq st7
  by_cases ho : onOf (k : Int) = 1
  case pos =>
   have t11 : (((onOf (k : Int) : Nat) : Int) == 1) = true := by rw [ho]; rfl
   have hmo : mostOf (k : Int) = 64 := by unfold mostOf; rw [if_pos ho]
   rcases hn8 : nxt (rS (mostOf (k : Int)) bs) [] a6 e6 with ⟨ss, a9, e9⟩
   have hsp6 : Hid (rAct bs a = if e9 = 0 then aM k must key 0 xx ss bs a9 else .error (e9, a9)) := hsp5.out.trans (stepS hS.out hn8)
   rw [hmo] at hn8
   replace hn8 := Lib.hid hn8; replace ho := Lib.hid ho; replace hmo := Lib.hid hmo
   have c8 := st8.out.b1.cell; have d8 := st8.out.b1.frozen; have l8 := st8.out.b1.lt
   go_wp2_with fail
   refine (part_s_st p A n c bs a6 e6 _ st8.out.e 64 (by decide) hn8.out).mono ?_
   rintro e v9 ⟨⟨_, _, _, _, _, rfl⟩, hE2, hk2⟩
   have sm9 := st8.out.step hE2 hk2
   have st9 := Lib.hid (sm9.store (cs1' := #[.int .i64 (k : Int), .string (str key), .int .i64 0, .float .f64 0, .string (str ss), .int .i64 0, .int .i64 0, .int .i64 0, .int .i64 0, .float .f64 0, .int .i64 0, .string ⟨#[]⟩, .slice none 0 0, .bool must]) 4 (.string (str ss)) rfl)
   have hz := nxt_nz hz hn8.out
   clear hE2 hk2 hn8 c8 d8 l8 st8
   have hsp7 : Hid (rAct bs a = if e9 = 0 then aDone ⟨(k : Int), key, 0, xx, ss, zeroRec, must⟩ a9 else .error (e9, a9)) := by unfold Hid; rw [hsp6.out, aM_no hM.out]
   have hJ : Hid (rAct bs a = .error (e9, a9)) := by unfold Hid; rw [hsp7.out, if_neg hz]
   have t3 : (((e9 : Nat) : Int) == 0) = false := by rw [beq_eq_false_iff_ne]; omega
   have t4 : (((e9 : Nat) : Int) != 0) = true := by rw [bne_iff_ne]; omega
   have stF := st9.out
   have cE := sm9.e.blk.cell 2; have hlp := sm9.e.blk.lt; have hm := sm9.b0.frozen; have hl0 := sm9.b0.lt; have hc0 := sm9.b0.cell; have hpn : ¬ p = w.heap.size := by have := stF.Bp; omega
   have c9 := sm9.b1.cell; have d9 := sm9.b1.frozen; have l9 := sm9.b1.lt; have hn01 : ¬ p = w.heap.size + 1 := by have := stF.Bp; omega
   have hfk := fill14_kept (v9.setCell ⟨w.heap.size + 1, 4, none⟩ (.string (str ss))) w.heap.size (.int .i64 0) (.string ⟨#[]⟩) (.int .i64 0) (.float .f64 0) (.string ⟨#[]⟩) (.int .i64 0) (.int .i64 0) (.int .i64 0) (.int .i64 0) (.float .f64 0) (.int .i64 0) (.string ⟨#[]⟩) (.slice none 0 0) (.bool false)
   have hfin := Lib.hid (zfin stF.b0)
   have hEe := Lib.hid (stF.e.kept hfk (fun e => by have := stF.Bp; omega) (fun ad e h2 => by have := stF.BA ad e; omega))
   have hKw := Lib.hid (stF.K.then_ hfk (fun i hi h2 => by exfalso; omega))
   clear hfk stF st9 sm9
   go_wp2_with (simp only [field_part4])
   refine bodyPost_ret (zres rfl hfin.out) rfl ?_
   ·rw [hJ.out]
    exact ⟨rfl, hEe.out, hKw.out⟩
  case neg =>
   have t11 : (((onOf (k : Int) : Nat) : Int) == 1) = false := by rw [beq_eq_false_iff_ne]; omega
   have hmo : mostOf (k : Int) = 16 := by unfold mostOf; rw [if_neg ho]
   rcases hn8 : nxt (rS (mostOf (k : Int)) bs) [] a6 e6 with ⟨ss, a9, e9⟩
   have hsp6 : Hid (rAct bs a = if e9 = 0 then aM k must key 0 xx ss bs a9 else .error (e9, a9)) := hsp5.out.trans (stepS hS.out hn8)
   rw [hmo] at hn8
   replace hn8 := Lib.hid hn8; replace ho := Lib.hid ho; replace hmo := Lib.hid hmo
   have c8 := st8.out.b1.cell; have d8 := st8.out.b1.frozen; have l8 := st8.out.b1.lt
   go_wp2_with fail
   refine (part_s_st p A n c bs a6 e6 _ st8.out.e 16 (by decide) hn8.out).mono ?_
   rintro e v9 ⟨⟨_, _, _, _, _, rfl⟩, hE2, hk2⟩
   have sm9 := st8.out.step hE2 hk2
   have st9 := Lib.hid (sm9.store (cs1' := #[.int .i64 (k : Int), .string (str key), .int .i64 0, .float .f64 0, .string (str ss), .int .i64 0, .int .i64 0, .int .i64 0, .int .i64 0, .float .f64 0, .int .i64 0, .string ⟨#[]⟩, .slice none 0 0, .bool must]) 4 (.string (str ss)) rfl)
   have hz := nxt_nz hz hn8.out
   clear hE2 hk2 hn8 c8 d8 l8 st8
   have hsp7 : Hid (rAct bs a = if e9 = 0 then aDone ⟨(k : Int), key, 0, xx, ss, zeroRec, must⟩ a9 else .error (e9, a9)) := by unfold Hid; rw [hsp6.out, aM_no hM.out]
   have hJ : Hid (rAct bs a = .error (e9, a9)) := by unfold Hid; rw [hsp7.out, if_neg hz]
   have t3 : (((e9 : Nat) : Int) == 0) = false := by rw [beq_eq_false_iff_ne]; omega
   have t4 : (((e9 : Nat) : Int) != 0) = true := by rw [bne_iff_ne]; omega
   have stF := st9.out
   have cE := sm9.e.blk.cell 2; have hlp := sm9.e.blk.lt; have hm := sm9.b0.frozen; have hl0 := sm9.b0.lt; have hc0 := sm9.b0.cell; have hpn : ¬ p = w.heap.size := by have := stF.Bp; omega
   have c9 := sm9.b1.cell; have d9 := sm9.b1.frozen; have l9 := sm9.b1.lt; have hn01 : ¬ p = w.heap.size + 1 := by have := stF.Bp; omega
   have hfk := fill14_kept (v9.setCell ⟨w.heap.size + 1, 4, none⟩ (.string (str ss))) w.heap.size (.int .i64 0) (.string ⟨#[]⟩) (.int .i64 0) (.float .f64 0) (.string ⟨#[]⟩) (.int .i64 0) (.int .i64 0) (.int .i64 0) (.int .i64 0) (.float .f64 0) (.int .i64 0) (.string ⟨#[]⟩) (.slice none 0 0) (.bool false)
   have hfin := Lib.hid (zfin stF.b0)
   have hEe := Lib.hid (stF.e.kept hfk (fun e => by have := stF.Bp; omega) (fun ad e h2 => by have := stF.BA ad e; omega))
   have hKw := Lib.hid (stF.K.then_ hfk (fun i hi h2 => by exfalso; omega))
   clear hfk stF st9 sm9
   go_wp2_with (simp only [field_part4])
   refine bodyPost_ret (zres rfl hfin.out) rfl ?_
   ·rw [hJ.out]
    exact ⟨rfl, hEe.out, hKw.out⟩
 case pos =>
  have te : (((e6 : Nat) : Int) == 0) = true := by rw [hz]; rfl
  have st6 := Lib.hid ((sm6.store (cs1' := #[.int .i64 (k : Int), .string (str key), .int .i64 0, .float .f64 xx, .string ⟨#[]⟩, .int .i64 0, .int .i64 0, .int .i64 0, .int .i64 0, .float .f64 0, .int .i64 0, .string ⟨#[]⟩, .slice none 0 0, .bool must]) 3 (.float .f64 xx) rfl).cln (show Cln _ ((v6.setCell ⟨w.heap.size + 1, 3, none⟩ (.float .f64 xx)).alloc (.cells #[.int .u8 x0, .int .u64 x1, .int .i64 x2, .int .u64 (K : Nat), .string x4, .bool x5] 132)) from by (repeat with_reducible first | exact cR _ | assumption | refine cA ?_ _ | refine cD ?_ | refine cN ?_ _ | refine cS ?_ (by first | omega | (simp <;> omega)) _)))
  clear sx6 hx sm6
  replace hz := Lib.hid hz
  go_wp2_with fail
  refine (number_any K hK1 _).mono ?_; rintro e w8 ⟨rfl, rfl⟩
  rw [hK2.out]
  go_wp2_with fail
  clear cE hlp c6 d6 l6 xc xl te hz
  refine (f115 _).mono ?_; rintro e v7 ⟨rfl, hq⟩
  have st7 := Lib.hid (st6.out.cln hq)
  clear hq st6
  have c7 := st7.out.b1.cell; have d7 := st7.out.b1.frozen; have l7 := st7.out.b1.lt
  go_wp2_with fail
  clear c7 d7 l7
  refine (fon _).mono ?_; rintro e v8 ⟨rfl, hq⟩
  have st8 := Lib.hid (st7.out.cln hq)
  clear hq st7
  by_cases ho : onOf (k : Int) = 1
  case pos =>
   have t11 : (((onOf (k : Int) : Nat) : Int) == 1) = true := by rw [ho]; rfl
   have hmo : mostOf (k : Int) = 64 := by unfold mostOf; rw [if_pos ho]
   rcases hn8 : nxt (rS (mostOf (k : Int)) bs) [] a6 e6 with ⟨ss, a9, e9⟩
   have hsp6 : Hid (rAct bs a = if e9 = 0 then aM k must key 0 xx ss bs a9 else .error (e9, a9)) := hsp5.out.trans (stepS hS.out hn8)
   rw [hmo] at hn8
   replace hn8 := Lib.hid hn8; replace ho := Lib.hid ho; replace hmo := Lib.hid hmo
   have c8 := st8.out.b1.cell; have d8 := st8.out.b1.frozen; have l8 := st8.out.b1.lt
   go_wp2_with fail
   refine (part_s_st p A n c bs a6 e6 _ st8.out.e 64 (by decide) hn8.out).mono ?_
   rintro e v9 ⟨⟨_, _, _, _, _, rfl⟩, hE2, hk2⟩
   have sm9 := st8.out.step hE2 hk2
   have st9 := Lib.hid (sm9.store (cs1' := #[.int .i64 (k : Int), .string (str key), .int .i64 0, .float .f64 xx, .string (str ss), .int .i64 0, .int .i64 0, .int .i64 0, .int .i64 0, .float .f64 0, .int .i64 0, .string ⟨#[]⟩, .slice none 0 0, .bool must]) 4 (.string (str ss)) rfl)
   skip
   clear hE2 hk2 hn8 c8 d8 l8 st8
   have hsp7 : Hid (rAct bs a = if e9 = 0 then aDone ⟨(k : Int), key, 0, xx, ss, zeroRec, must⟩ a9 else .error (e9, a9)) := by unfold Hid; rw [hsp6.out, aM_no hM.out]
   by_cases hz : e9 = 0
   case neg =>
    have hJ : Hid (rAct bs a = .error (e9, a9)) := by unfold Hid; rw [hsp7.out, if_neg hz]
    have t3 : (((e9 : Nat) : Int) == 0) = false := by rw [beq_eq_false_iff_ne]; omega
    have t4 : (((e9 : Nat) : Int) != 0) = true := by rw [bne_iff_ne]; omega
    have stF := st9.out
    have cE := sm9.e.blk.cell 2; have hlp := sm9.e.blk.lt; have hm := sm9.b0.frozen; have hl0 := sm9.b0.lt; have hc0 := sm9.b0.cell; have hpn : ¬ p = w.heap.size := by have := stF.Bp; omega
    have c9 := sm9.b1.cell; have d9 := sm9.b1.frozen; have l9 := sm9.b1.lt; have hn01 : ¬ p = w.heap.size + 1 := by have := stF.Bp; omega
    have hfk := fill14_kept (v9.setCell ⟨w.heap.size + 1, 4, none⟩ (.string (str ss))) w.heap.size (.int .i64 0) (.string ⟨#[]⟩) (.int .i64 0) (.float .f64 0) (.string ⟨#[]⟩) (.int .i64 0) (.int .i64 0) (.int .i64 0) (.int .i64 0) (.float .f64 0) (.int .i64 0) (.string ⟨#[]⟩) (.slice none 0 0) (.bool false)
    have hfin := Lib.hid (zfin stF.b0)
    have hEe := Lib.hid (stF.e.kept hfk (fun e => by have := stF.Bp; omega) (fun ad e h2 => by have := stF.BA ad e; omega))
    have hKw := Lib.hid (stF.K.then_ hfk (fun i hi h2 => by exfalso; omega))
    clear hfk stF st9 sm9
    go_wp2_with (simp only [field_part4])
    refine bodyPost_ret (zres rfl hfin.out) rfl ?_
    ·rw [hJ.out]
     exact ⟨rfl, hEe.out, hKw.out⟩
   case pos =>
    have hdone : Hid (rAct bs a = aDone ⟨(k : Int), key, 0, xx, ss, zeroRec, must⟩ a9) := by unfold Hid; rw [hsp7.out, if_pos hz]
    have hE0 : Hid (AEy w p A n c bs #[.int .i64 (k : Int), .string (str key), .int .i64 0, .float .f64 xx, .string (str ss), .int .i64 0, .int .i64 0, .int .i64 0, .int .i64 0, .float .f64 0, .int .i64 0, .string ⟨#[]⟩, .slice none 0 0, .bool must] (v9.setCell ⟨w.heap.size + 1, 4, none⟩ (.string (str ss))) a9 0) := by have := st9.out; rw [hz] at this; exact this
    have hwfA : Hid ((⟨(k : Int), key, 0, xx, ss, zeroRec, must⟩ : MAct).WF) := ⟨hkW.out, z64, hxW.out, zeroRec_wf_⟩
    have stF := hE0.out
    have cE := sm9.e.blk.cell 2; have hlp := sm9.e.blk.lt; have hc9 := sm9.b1.cell; have hd9 := sm9.b1.frozen; have hl9 := sm9.b1.lt; have hn01 : ¬ p = w.heap.size + 1 := by have := stF.Bp; omega
    subst hz
    clear stF st9 sm9
    go_wp2_with (simp only [field_part4])
    have cC := racheck_any ⟨(k : Int), key, 0, xx, ss, zeroRec, must⟩ none 0 0 (by omega) hwfA.out (v9.setCell ⟨w.heap.size + 1, 4, none⟩ (.string (str ss))) (RdItems.none_ _)
    unfold actVal at cC
    refine cC.mono ?_; rintro e w9 ⟨rfl, hq⟩
    clear cC
    have st9 := Lib.hid (hE0.out.cln hq)
    have hL10 : Hid (RdItems w9 none 0 zeroRec.list) := RdItems.none_ _
    clear hq cE hlp hc9 hd9 hl9 hE0
    generalize hC : checkAct ⟨(k : Int), key, 0, xx, ss, zeroRec, must⟩ = cd
    replace hC := Lib.hid hC
    go_wp2_with fail
    refine (fail_new p A n c bs a9 cd _ st9.out.e).mono ?_
    rintro e w10 ⟨rfl, hE5, hk5⟩
    have hL11 : Hid (RdItems w10 none 0 zeroRec.list) := RdItems.none_ _
    have stF := st9.out.step hE5 hk5
    have cE := stF.e.blk.cell 2; have hlp := stF.e.blk.lt; have hm := stF.b0.frozen; have hl0 := stF.b0.lt; have hc0 := stF.b0.cell; have hpn : ¬ p = w.heap.size := by have := stF.Bp; omega
    have hc1 := stF.b1.cell; have hl1 := stF.b1.lt
    clear st9 hE5 hk5 hL10
    by_cases hz : cd = 0
    ·subst hz
     have hJ : Hid (rAct bs a = .ok (⟨(k : Int), key, 0, xx, ss, zeroRec, must⟩, a9)) := by unfold Hid; rw [hdone.out]; unfold aDone; rw [if_pos hC.out]
     have hfk := fill14_kept w10 w.heap.size (.int .i64 (k : Int)) (.string (str key)) (.int .i64 0) (.float .f64 xx) (.string (str ss)) (.int .i64 0) (.int .i64 0) (.int .i64 0) (.int .i64 0) (.float .f64 0) (.int .i64 0) (.string ⟨#[]⟩) (.slice none 0 0) (.bool must)
     have hfin := Lib.hid (Blk.store14 stF.b0 (v0 := .int .i64 (k : Int)) (v1 := .string (str key)) (v2 := .int .i64 0) (v3 := .float .f64 xx) (v4 := .string (str ss)) (v5 := .int .i64 0) (v6 := .int .i64 0) (v7 := .int .i64 0) (v8 := .int .i64 0) (v9 := .float .f64 0) (v10 := .int .i64 0) (v11 := .string ⟨#[]⟩) (v12 := .slice none 0 0) (v13 := .bool must))
     have hEe := Lib.hid (stF.e.kept hfk (fun e => by have := stF.Bp; omega) (fun ad e h2 => by have := stF.BA ad e; omega))
     have hKw := Lib.hid (stF.K.then_ hfk (fun i hi h2 => by exfalso; omega))
     have hLL := Lib.hid (hL11.out.kept hfk (fun ad e _ h2 => by cases e))
     clear hfk stF hL11
     go_wp2_with fail
     refine bodyPost_ret (v := .agg #[.int .i64 (k : Int), .string (str key), .int .i64 0, .float .f64 xx, .string (str ss), .int .i64 0, .int .i64 0, .int .i64 0, .int .i64 0, .float .f64 0, .int .i64 0, .string ⟨#[]⟩, .slice none 0 0, .bool must]) ?_ rfl ?_
     ·exact results_cell_row Tryz.results97 _ _ w.heap.size 90 #[.int .i64 (k : Int), .string (str key), .int .i64 0, .float .f64 xx, .string (str ss), .int .i64 0, .int .i64 0, .int .i64 0, .int .i64 0, .float .f64 0, .int .i64 0, .string ⟨#[]⟩, .slice none 0 0, .bool must] (0, 0) _ rfl hfin.out Tryz.underlying90 rfl size_act
     ·rw [hJ.out]
      exact ⟨none, 0, 0, rfl, hLL.out, by omega, (fun ad e => by cases e), hEe.out, hKw.out⟩
    ·have hJ : Hid (rAct bs a = .error (cd, a9)) := by unfold Hid; rw [hdone.out]; unfold aDone; rw [if_neg (by rw [hC.out]; exact hz), hC.out]
     have t4 : (((cd : Nat) : Int) != 0) = true := by rw [bne_iff_ne]; omega
     have hfk := fill14_kept w10 w.heap.size (.int .i64 0) (.string ⟨#[]⟩) (.int .i64 0) (.float .f64 0) (.string ⟨#[]⟩) (.int .i64 0) (.int .i64 0) (.int .i64 0) (.int .i64 0) (.float .f64 0) (.int .i64 0) (.string ⟨#[]⟩) (.slice none 0 0) (.bool false)
     have hfin := Lib.hid (zfin stF.b0)
     have hEe := Lib.hid (stF.e.kept hfk (fun e => by have := stF.Bp; omega) (fun ad e h2 => by have := stF.BA ad e; omega))
     have hKw := Lib.hid (stF.K.then_ hfk (fun i hi h2 => by exfalso; omega))
     clear hfk stF hL11
     go_wp2_with fail
     refine bodyPost_ret (zres rfl hfin.out) rfl ?_
     ·rw [hJ.out]
      exact ⟨rfl, hEe.out, hKw.out⟩
  case neg =>
   have t11 : (((onOf (k : Int) : Nat) : Int) == 1) = false := by rw [beq_eq_false_iff_ne]; omega
   have hmo : mostOf (k : Int) = 16 := by unfold mostOf; rw [if_neg ho]
   rcases hn8 : nxt (rS (mostOf (k : Int)) bs) [] a6 e6 with ⟨ss, a9, e9⟩
   have hsp6 : Hid (rAct bs a = if e9 = 0 then aM k must key 0 xx ss bs a9 else .error (e9, a9)) := hsp5.out.trans (stepS hS.out hn8)
   rw [hmo] at hn8
   replace hn8 := Lib.hid hn8; replace ho := Lib.hid ho; replace hmo := Lib.hid hmo
   have c8 := st8.out.b1.cell; have d8 := st8.out.b1.frozen; have l8 := st8.out.b1.lt
   go_wp2_with fail
   refine (part_s_st p A n c bs a6 e6 _ st8.out.e 16 (by decide) hn8.out).mono ?_
   rintro e v9 ⟨⟨_, _, _, _, _, rfl⟩, hE2, hk2⟩
   have sm9 := st8.out.step hE2 hk2
   have st9 := Lib.hid (sm9.store (cs1' := #[.int .i64 (k : Int), .string (str key), .int .i64 0, .float .f64 xx, .string (str ss), .int .i64 0, .int .i64 0, .int .i64 0, .int .i64 0, .float .f64 0, .int .i64 0, .string ⟨#[]⟩, .slice none 0 0, .bool must]) 4 (.string (str ss)) rfl)
   skip
   clear hE2 hk2 hn8 c8 d8 l8 st8
   have hsp7 : Hid (rAct bs a = if e9 = 0 then aDone ⟨(k : Int), key, 0, xx, ss, zeroRec, must⟩ a9 else .error (e9, a9)) := by unfold Hid; rw [hsp6.out, aM_no hM.out]
   by_cases hz : e9 = 0
   case neg =>
    have hJ : Hid (rAct bs a = .error (e9, a9)) := by unfold Hid; rw [hsp7.out, if_neg hz]
    have t3 : (((e9 : Nat) : Int) == 0) = false := by rw [beq_eq_false_iff_ne]; omega
    have t4 : (((e9 : Nat) : Int) != 0) = true := by rw [bne_iff_ne]; omega
    have stF := st9.out
    have cE := sm9.e.blk.cell 2; have hlp := sm9.e.blk.lt; have hm := sm9.b0.frozen; have hl0 := sm9.b0.lt; have hc0 := sm9.b0.cell; have hpn : ¬ p = w.heap.size := by have := stF.Bp; omega
    have c9 := sm9.b1.cell; have d9 := sm9.b1.frozen; have l9 := sm9.b1.lt; have hn01 : ¬ p = w.heap.size + 1 := by have := stF.Bp; omega
    have hfk := fill14_kept (v9.setCell ⟨w.heap.size + 1, 4, none⟩ (.string (str ss))) w.heap.size (.int .i64 0) (.string ⟨#[]⟩) (.int .i64 0) (.float .f64 0) (.string ⟨#[]⟩) (.int .i64 0) (.int .i64 0) (.int .i64 0) (.int .i64 0) (.float .f64 0) (.int .i64 0) (.string ⟨#[]⟩) (.slice none 0 0) (.bool false)
    have hfin := Lib.hid (zfin stF.b0)
    have hEe := Lib.hid (stF.e.kept hfk (fun e => by have := stF.Bp; omega) (fun ad e h2 => by have := stF.BA ad e; omega))
    have hKw := Lib.hid (stF.K.then_ hfk (fun i hi h2 => by exfalso; omega))
    clear hfk stF st9 sm9
    go_wp2_with (simp only [field_part4])
    refine bodyPost_ret (zres rfl hfin.out) rfl ?_
    ·rw [hJ.out]
     exact ⟨rfl, hEe.out, hKw.out⟩
   case pos =>
    have hdone : Hid (rAct bs a = aDone ⟨(k : Int), key, 0, xx, ss, zeroRec, must⟩ a9) := by unfold Hid; rw [hsp7.out, if_pos hz]
    have hE0 : Hid (AEy w p A n c bs #[.int .i64 (k : Int), .string (str key), .int .i64 0, .float .f64 xx, .string (str ss), .int .i64 0, .int .i64 0, .int .i64 0, .int .i64 0, .float .f64 0, .int .i64 0, .string ⟨#[]⟩, .slice none 0 0, .bool must] (v9.setCell ⟨w.heap.size + 1, 4, none⟩ (.string (str ss))) a9 0) := by have := st9.out; rw [hz] at this; exact this
    have hwfA : Hid ((⟨(k : Int), key, 0, xx, ss, zeroRec, must⟩ : MAct).WF) := ⟨hkW.out, z64, hxW.out, zeroRec_wf_⟩
    have stF := hE0.out
    have cE := sm9.e.blk.cell 2; have hlp := sm9.e.blk.lt; have hc9 := sm9.b1.cell; have hd9 := sm9.b1.frozen; have hl9 := sm9.b1.lt; have hn01 : ¬ p = w.heap.size + 1 := by have := stF.Bp; omega
    subst hz
    clear stF st9 sm9
    go_wp2_with (simp only [field_part4])
    have cC := racheck_any ⟨(k : Int), key, 0, xx, ss, zeroRec, must⟩ none 0 0 (by omega) hwfA.out (v9.setCell ⟨w.heap.size + 1, 4, none⟩ (.string (str ss))) (RdItems.none_ _)
    unfold actVal at cC
    refine cC.mono ?_; rintro e w9 ⟨rfl, hq⟩
    clear cC
    have st9 := Lib.hid (hE0.out.cln hq)
    have hL10 : Hid (RdItems w9 none 0 zeroRec.list) := RdItems.none_ _
    clear hq cE hlp hc9 hd9 hl9 hE0
    generalize hC : checkAct ⟨(k : Int), key, 0, xx, ss, zeroRec, must⟩ = cd
    replace hC := Lib.hid hC
    go_wp2_with fail
    refine (fail_new p A n c bs a9 cd _ st9.out.e).mono ?_
    rintro e w10 ⟨rfl, hE5, hk5⟩
    have hL11 : Hid (RdItems w10 none 0 zeroRec.list) := RdItems.none_ _
    have stF := st9.out.step hE5 hk5
    have cE := stF.e.blk.cell 2; have hlp := stF.e.blk.lt; have hm := stF.b0.frozen; have hl0 := stF.b0.lt; have hc0 := stF.b0.cell; have hpn : ¬ p = w.heap.size := by have := stF.Bp; omega
    have hc1 := stF.b1.cell; have hl1 := stF.b1.lt
    clear st9 hE5 hk5 hL10
    by_cases hz : cd = 0
    ·subst hz
     have hJ : Hid (rAct bs a = .ok (⟨(k : Int), key, 0, xx, ss, zeroRec, must⟩, a9)) := by unfold Hid; rw [hdone.out]; unfold aDone; rw [if_pos hC.out]
     have hfk := fill14_kept w10 w.heap.size (.int .i64 (k : Int)) (.string (str key)) (.int .i64 0) (.float .f64 xx) (.string (str ss)) (.int .i64 0) (.int .i64 0) (.int .i64 0) (.int .i64 0) (.float .f64 0) (.int .i64 0) (.string ⟨#[]⟩) (.slice none 0 0) (.bool must)
     have hfin := Lib.hid (Blk.store14 stF.b0 (v0 := .int .i64 (k : Int)) (v1 := .string (str key)) (v2 := .int .i64 0) (v3 := .float .f64 xx) (v4 := .string (str ss)) (v5 := .int .i64 0) (v6 := .int .i64 0) (v7 := .int .i64 0) (v8 := .int .i64 0) (v9 := .float .f64 0) (v10 := .int .i64 0) (v11 := .string ⟨#[]⟩) (v12 := .slice none 0 0) (v13 := .bool must))
     have hEe := Lib.hid (stF.e.kept hfk (fun e => by have := stF.Bp; omega) (fun ad e h2 => by have := stF.BA ad e; omega))
     have hKw := Lib.hid (stF.K.then_ hfk (fun i hi h2 => by exfalso; omega))
     have hLL := Lib.hid (hL11.out.kept hfk (fun ad e _ h2 => by cases e))
     clear hfk stF hL11
     go_wp2_with fail
     refine bodyPost_ret (v := .agg #[.int .i64 (k : Int), .string (str key), .int .i64 0, .float .f64 xx, .string (str ss), .int .i64 0, .int .i64 0, .int .i64 0, .int .i64 0, .float .f64 0, .int .i64 0, .string ⟨#[]⟩, .slice none 0 0, .bool must]) ?_ rfl ?_
     ·exact results_cell_row Tryz.results97 _ _ w.heap.size 90 #[.int .i64 (k : Int), .string (str key), .int .i64 0, .float .f64 xx, .string (str ss), .int .i64 0, .int .i64 0, .int .i64 0, .int .i64 0, .float .f64 0, .int .i64 0, .string ⟨#[]⟩, .slice none 0 0, .bool must] (0, 0) _ rfl hfin.out Tryz.underlying90 rfl size_act
     ·rw [hJ.out]
      exact ⟨none, 0, 0, rfl, hLL.out, by omega, (fun ad e => by cases e), hEe.out, hKw.out⟩
    ·have hJ : Hid (rAct bs a = .error (cd, a9)) := by unfold Hid; rw [hdone.out]; unfold aDone; rw [if_neg (by rw [hC.out]; exact hz), hC.out]
     have t4 : (((cd : Nat) : Int) != 0) = true := by rw [bne_iff_ne]; omega
     have hfk := fill14_kept w10 w.heap.size (.int .i64 0) (.string ⟨#[]⟩) (.int .i64 0) (.float .f64 0) (.string ⟨#[]⟩) (.int .i64 0) (.int .i64 0) (.int .i64 0) (.int .i64 0) (.float .f64 0) (.int .i64 0) (.string ⟨#[]⟩) (.slice none 0 0) (.bool false)
     have hfin := Lib.hid (zfin stF.b0)
     have hEe := Lib.hid (stF.e.kept hfk (fun e => by have := stF.Bp; omega) (fun ad e h2 => by have := stF.BA ad e; omega))
     have hKw := Lib.hid (stF.K.then_ hfk (fun i hi h2 => by exfalso; omega))
     clear hfk stF hL11
     go_wp2_with fail
     refine bodyPost_ret (zres rfl hfin.out) rfl ?_
     ·rw [hJ.out]
      exact ⟨rfl, hEe.out, hKw.out⟩
set_option maxHeartbeats 8000000 in
theorem anext_make (p : Nat) (A : Option Addr) (n c : Nat) (bs : List UInt8) (a : Nat) (w : World) (hE : IsE w p A n c bs a 0) (hA : ∀ ad, A = some ad → ad.block < w.heap.size) (k a1 : Nat) (hk1 : 1 ≤ k ∧ k ≤ 21) (hU : rUpto 21 bs a = .ok (k, a1))
  (hN : hasF (k : Int) 110 = false) (hX : hasF (k : Int) 120 = false) (hS : hasF (k : Int) 115 = false) (hM : hasF (k : Int) 109 = true) (he : k = 1) :
  Calls Tryz.prog 97 #[.pointer (some ⟨p, 0, none⟩)] w (ANextPost w p A n c bs (rAct bs a)) := by
 have hsp1 : Hid (rAct bs a = aMust k bs a1) := by unfold Hid rAct; simp only [hU]; rw [if_neg (by omega)]
 have hp0 := hE.blk.lt
 have t0 : ((k : Int) == 0) = false := by rw [beq_eq_false_iff_ne]; omega
 have tk1 : ((k : Int) == 1) = true := by rw [beq_iff_eq]; omega
 have hkW : Hid (-9223372036854775808 ≤ (k : Int) ∧ (k : Int) < 9223372036854775808) := ⟨by omega, by omega⟩
 have f110 : ∀ W, Calls Tryz.prog 106 #[.int .i64 (k : Int), .int .u8 110] W fun e w' => e = .returned (.bool false) ∧ Cln W w' := fun W => hN ▸ rhas_any k 110 W
 have f120 : ∀ W, Calls Tryz.prog 106 #[.int .i64 (k : Int), .int .u8 120] W fun e w' => e = .returned (.bool false) ∧ Cln W w' := fun W => hX ▸ rhas_any k 120 W
 have f115 : ∀ W, Calls Tryz.prog 106 #[.int .i64 (k : Int), .int .u8 115] W fun e w' => e = .returned (.bool false) ∧ Cln W w' := fun W => hS ▸ rhas_any k 115 W
 have fon : ∀ W, Calls Tryz.prog 107 #[.int .i64 (k : Int)] W fun e w' => e = .returned (.int .i64 (onOf k : Nat)) ∧ Cln W w' := fun W => ron_any k W
 have hcl0 := hzANexts0 w
 have hb2 := (Blk.new w 90 #[.int .i64 0, .string ⟨#[]⟩, .int .i64 0, .float .f64 0, .string ⟨#[]⟩, .int .i64 0, .int .i64 0, .int .i64 0, .int .i64 0, .float .f64 0, .int .i64 0, .string ⟨#[]⟩, .slice none 0 0, .bool false]).alloc (.cells #[.int .i64 0, .string ⟨#[]⟩, .int .i64 0, .float .f64 0, .string ⟨#[]⟩, .int .i64 0, .int .i64 0, .int .i64 0, .int .i64 0, .float .f64 0, .int .i64 0, .string ⟨#[]⟩, .slice none 0 0, .bool false] 90)
 have hb3 := Blk.new (w.alloc (.cells #[.int .i64 0, .string ⟨#[]⟩, .int .i64 0, .float .f64 0, .string ⟨#[]⟩, .int .i64 0, .int .i64 0, .int .i64 0, .int .i64 0, .float .f64 0, .int .i64 0, .string ⟨#[]⟩, .slice none 0 0, .bool false] 90)) 90 #[.int .i64 0, .string ⟨#[]⟩, .int .i64 0, .float .f64 0, .string ⟨#[]⟩, .int .i64 0, .int .i64 0, .int .i64 0, .int .i64 0, .float .f64 0, .int .i64 0, .string ⟨#[]⟩, .slice none 0 0, .bool false]
 rw [World.size_alloc] at hb3
 go_enter Tryz.func97, Tryz.ntmps97
 go_wp2_with fail
 refine (upto_new p A n c bs a 21 (by decide) _ (hE.cln hcl0)).mono ?_
 intro e w1 hP
 rw [hU] at hP
 obtain ⟨rfl, hE1, hk⟩ := hP
 have st0 : AEy w p A n c bs #[.int .i64 0, .string ⟨#[]⟩, .int .i64 0, .float .f64 0, .string ⟨#[]⟩, .int .i64 0, .int .i64 0, .int .i64 0, .int .i64 0, .float .f64 0, .int .i64 0, .string ⟨#[]⟩, .slice none 0 0, .bool false] w1 a1 0 := ⟨hE1, (Kept.of_below (S := fun i => i = p) hcl0).then_ hk (fun i _ h => h), hb2.kept hk (by omega), hb3.kept hk (by omega), hp0, hA⟩
 have st1 := Lib.hid (st0.store (cs1' := #[.int .i64 (k : Int), .string ⟨#[]⟩, .int .i64 0, .float .f64 0, .string ⟨#[]⟩, .int .i64 0, .int .i64 0, .int .i64 0, .int .i64 0, .float .f64 0, .int .i64 0, .string ⟨#[]⟩, .slice none 0 0, .bool false]) 0 (.int .i64 (k : Int)) rfl)
 have c1 := st0.b1.cell 0; have d1 := st0.b1.frozen 0; have l1 := st0.b1.lt
 replace he := Lib.hid he; replace hk1 := Lib.hid hk1
 replace hN := Lib.hid hN; replace hX := Lib.hid hX; replace hS := Lib.hid hS; replace hM := Lib.hid hM
 clear hE hE1 hk hb2 hb3 hcl0 st0
 go_wp2_with fail
 clear c1 d1 l1
 rcases hn1 : nxt (rFlag bs) false a1 0 with ⟨must, a2, e2⟩
 have hsp2 : Hid (rAct bs a = if e2 = 0 then aKey k must bs a2 else .error (e2, a2)) := by
  exact hsp1.out.trans ((if_pos rfl).symm.trans (stepMust hn1))
 refine (part_b_st p A n c bs a1 0 _ st1.out.e 0 hn1).mono ?_
 rintro e v2 ⟨⟨_, _, _, _, _, rfl⟩, hE2, hk2⟩
 have sm2 := st1.out.step hE2 hk2
 clear hE2 hk2 hn1 
 have c2 := sm2.b1.cell; have d2 := sm2.b1.frozen; have l2 := sm2.b1.lt
 have st2 := Lib.hid (sm2.store (cs1' := #[.int .i64 (k : Int), .string ⟨#[]⟩, .int .i64 0, .float .f64 0, .string ⟨#[]⟩, .int .i64 0, .int .i64 0, .int .i64 0, .int .i64 0, .float .f64 0, .int .i64 0, .string ⟨#[]⟩, .slice none 0 0, .bool must]) 13 (.bool must) rfl)
 clear sm2 st1
 go_wp2_with (simp only [field_part5])
 clear c2 d2 l2
 rcases hn2 : nxt (rS 24 bs) [] a2 e2 with ⟨key, a3, e3⟩
 have hsp3 : Hid (rAct bs a = if e3 = 0 then aN k must key bs a3 else .error (e3, a3)) := by
  exact hsp2.out.trans (stepKey hn2)
 refine (part_s_st p A n c bs a2 e2 _ st2.out.e 24 (by decide) hn2).mono ?_
 rintro e v3 ⟨⟨_, _, _, _, _, rfl⟩, hE2, hk2⟩
 have sm3 := st2.out.step hE2 hk2
 clear hE2 hk2 hn2 
 have c3 := sm3.b1.cell; have d3 := sm3.b1.frozen; have l3 := sm3.b1.lt
 have st3 := Lib.hid (sm3.store (cs1' := #[.int .i64 (k : Int), .string (str key), .int .i64 0, .float .f64 0, .string ⟨#[]⟩, .int .i64 0, .int .i64 0, .int .i64 0, .int .i64 0, .float .f64 0, .int .i64 0, .string ⟨#[]⟩, .slice none 0 0, .bool must]) 1 (.string (str key)) rfl)
 clear sm3 st2
 go_wp2_with (simp only [field_part4])
 clear c3 d3 l3
 refine (f110 _).mono ?_; rintro e v4 ⟨rfl, hq⟩
 have st4 := Lib.hid (st3.out.cln hq)
 clear hq st3
 have c4 := st4.out.b1.cell; have d4 := st4.out.b1.frozen; have l4 := st4.out.b1.lt
 go_wp2_with fail
 clear c4 d4 l4
 have hsp4 : Hid (rAct bs a = if e3 = 0 then aX k must key 0 bs a3 else .error (e3, a3)) := by unfold Hid; rw [hsp3.out, aN_no hN.out]
 refine (f120 _).mono ?_; rintro e v5 ⟨rfl, hq⟩
 have st5 := Lib.hid (st4.out.cln hq)
 clear hq st4
 have c5 := st5.out.b1.cell; have d5 := st5.out.b1.frozen; have l5 := st5.out.b1.lt
 go_wp2_with fail
 clear c5 d5 l5
 have hsp5 : Hid (rAct bs a = if e3 = 0 then aS k must key 0 0 bs a3 else .error (e3, a3)) := by unfold Hid; rw [hsp4.out, aX_no hX.out]
 refine (f115 _).mono ?_; rintro e v6 ⟨rfl, hq⟩
 have st6 := Lib.hid (st5.out.cln hq)
 clear hq st5
 have c6 := st6.out.b1.cell; have d6 := st6.out.b1.frozen; have l6 := st6.out.b1.lt
 go_wp2_with fail
 clear c6 d6 l6
 have hsp6 : Hid (rAct bs a = if e3 = 0 then aM k must key 0 0 [] bs a3 else .error (e3, a3)) := by unfold Hid; rw [hsp5.out, aS_no hS.out]
 have hAw : Hid (∀ W : World, w.heap.size ≤ W.heap.size → ∀ ad, A = some ad → ad.block < W.heap.size) := fun W h ad e => by have := hA ad e; omega
 have hszw : w.heap.size ≤ v6.heap.size := by have := st6.out.b1.lt; omega
 by_cases hz : e3 = 0
 case neg =>
  refine (next_old p A n c bs a3 e3 hz _ st6.out.e (hAw.out _ hszw)).mono ?_
  rintro e v7 ⟨rfl, hq⟩
  rw [show recVal zeroRec none 0 0 = .agg #[.int .i64 0, .int .i64 0, .int .i64 0, .int .i64 0, .float .f64 0, .int .i64 0, .string ⟨#[]⟩, .slice none 0 0] from rfl]
  have sm7 := st6.out.cln hq
  clear hq
  have sx0 := sm7
  have sx1 := sx0.store (cs1' := #[.int .i64 (k : Int), .string (str key), .int .i64 0, .float .f64 0, .string ⟨#[]⟩, .int .i64 0, .int .i64 0, .int .i64 0, .int .i64 0, .float .f64 0, .int .i64 0, .string ⟨#[]⟩, .slice none 0 0, .bool must]) 5 (.int .i64 0) rfl
  have sx2 := sx1.store (cs1' := #[.int .i64 (k : Int), .string (str key), .int .i64 0, .float .f64 0, .string ⟨#[]⟩, .int .i64 0, .int .i64 0, .int .i64 0, .int .i64 0, .float .f64 0, .int .i64 0, .string ⟨#[]⟩, .slice none 0 0, .bool must]) 6 (.int .i64 0) rfl
  have sx3 := sx2.store (cs1' := #[.int .i64 (k : Int), .string (str key), .int .i64 0, .float .f64 0, .string ⟨#[]⟩, .int .i64 0, .int .i64 0, .int .i64 0, .int .i64 0, .float .f64 0, .int .i64 0, .string ⟨#[]⟩, .slice none 0 0, .bool must]) 7 (.int .i64 0) rfl
  have sx4 := sx3.store (cs1' := #[.int .i64 (k : Int), .string (str key), .int .i64 0, .float .f64 0, .string ⟨#[]⟩, .int .i64 0, .int .i64 0, .int .i64 0, .int .i64 0, .float .f64 0, .int .i64 0, .string ⟨#[]⟩, .slice none 0 0, .bool must]) 8 (.int .i64 0) rfl
  have sx5 := sx4.store (cs1' := #[.int .i64 (k : Int), .string (str key), .int .i64 0, .float .f64 0, .string ⟨#[]⟩, .int .i64 0, .int .i64 0, .int .i64 0, .int .i64 0, .float .f64 0, .int .i64 0, .string ⟨#[]⟩, .slice none 0 0, .bool must]) 9 (.float .f64 0) rfl
  have sx6 := sx5.store (cs1' := #[.int .i64 (k : Int), .string (str key), .int .i64 0, .float .f64 0, .string ⟨#[]⟩, .int .i64 0, .int .i64 0, .int .i64 0, .int .i64 0, .float .f64 0, .int .i64 0, .string ⟨#[]⟩, .slice none 0 0, .bool must]) 10 (.int .i64 0) rfl
  have sx7 := sx6.store (cs1' := #[.int .i64 (k : Int), .string (str key), .int .i64 0, .float .f64 0, .string ⟨#[]⟩, .int .i64 0, .int .i64 0, .int .i64 0, .int .i64 0, .float .f64 0, .int .i64 0, .string ⟨#[]⟩, .slice none 0 0, .bool must]) 11 (.string ⟨#[]⟩) rfl
  have sx8 := sx7.store (cs1' := #[.int .i64 (k : Int), .string (str key), .int .i64 0, .float .f64 0, .string ⟨#[]⟩, .int .i64 0, .int .i64 0, .int .i64 0, .int .i64 0, .float .f64 0, .int .i64 0, .string ⟨#[]⟩, .slice none 0 0, .bool must]) 12 (.slice none 0 0) rfl
  have st7 := Lib.hid sx8
  clear sx0 sx1 sx2 sx3 sx4 sx5 sx6 sx7 sx8 st6
  have hJ : Hid (rAct bs a = .error (e3, a3)) := by unfold Hid; rw [hsp6.out, if_neg hz]
  have t3 : (((e3 : Nat) : Int) == 0) = false := by rw [beq_eq_false_iff_ne]; omega
  have t4 : (((e3 : Nat) : Int) != 0) = true := by rw [bne_iff_ne]; omega
  have stF := st7.out
  have cE := sm7.e.blk.cell 2; have hlp := sm7.e.blk.lt; have hm := sm7.b0.frozen; have hl0 := sm7.b0.lt; have hc0 := sm7.b0.cell; have hpn : ¬ p = w.heap.size := by have := stF.Bp; omega
  have c9 := sm7.b1.cell; have d9 := sm7.b1.frozen; have l9 := sm7.b1.lt; have hn01 : ¬ p = w.heap.size + 1 := by have := stF.Bp; omega
  have hfk := fill14_kept ((((((((v7.setCell ⟨w.heap.size + 1, 5, none⟩ (.int .i64 0)).setCell ⟨w.heap.size + 1, 6, none⟩ (.int .i64 0)).setCell ⟨w.heap.size + 1, 7, none⟩ (.int .i64 0)).setCell ⟨w.heap.size + 1, 8, none⟩ (.int .i64 0)).setCell ⟨w.heap.size + 1, 9, none⟩ (.float .f64 0)).setCell ⟨w.heap.size + 1, 10, none⟩ (.int .i64 0)).setCell ⟨w.heap.size + 1, 11, none⟩ (.string ⟨#[]⟩)).setCell ⟨w.heap.size + 1, 12, none⟩ (.slice none 0 0)) w.heap.size (.int .i64 0) (.string ⟨#[]⟩) (.int .i64 0) (.float .f64 0) (.string ⟨#[]⟩) (.int .i64 0) (.int .i64 0) (.int .i64 0) (.int .i64 0) (.float .f64 0) (.int .i64 0) (.string ⟨#[]⟩) (.slice none 0 0) (.bool false)
  have hfin := Lib.hid (zfin stF.b0)
  have hEe := Lib.hid (stF.e.kept hfk (fun e => by have := stF.Bp; omega) (fun ad e h2 => by have := stF.BA ad e; omega))
  have hKw := Lib.hid (stF.K.then_ hfk (fun i hi h2 => by exfalso; omega))
  clear hfk stF st7 sm7
  go_wp2_with fail
  refine bodyPost_ret (zres rfl hfin.out) rfl ?_
  ·rw [hJ.out]
   exact ⟨rfl, hEe.out, hKw.out⟩
 case pos =>
  subst hz
  refine (next_any p A n c bs a3 _ st6.out.e (hAw.out _ hszw)).mono ?_
  intro e v7 hP
  cases hR : rRec bs a3 with
  | error er =>
   obtain ⟨cd, a9⟩ := er
   rw [hR] at hP
   obtain ⟨rfl, hE2, hk2⟩ := hP
   have hz : ¬ cd = 0 := rRec_nz hR
   have hsp90 : Hid (rAct bs a = if cd = 0 then aDone zeroAct a9 else .error (cd, a9)) := by
    unfold Hid; rw [if_neg hz, hsp6.out, if_pos rfl, aM_yes hM.out, hR]
   rw [show recVal zeroRec none 0 0 = .agg #[.int .i64 0, .int .i64 0, .int .i64 0, .int .i64 0, .float .f64 0, .int .i64 0, .string ⟨#[]⟩, .slice none 0 0] from rfl]
   have sm7 := st6.out.step hE2 hk2
   clear hE2 hk2 hR
   have sx0 := sm7
   have sx1 := sx0.store (cs1' := #[.int .i64 (k : Int), .string (str key), .int .i64 0, .float .f64 0, .string ⟨#[]⟩, .int .i64 0, .int .i64 0, .int .i64 0, .int .i64 0, .float .f64 0, .int .i64 0, .string ⟨#[]⟩, .slice none 0 0, .bool must]) 5 (.int .i64 0) rfl
   have sx2 := sx1.store (cs1' := #[.int .i64 (k : Int), .string (str key), .int .i64 0, .float .f64 0, .string ⟨#[]⟩, .int .i64 0, .int .i64 0, .int .i64 0, .int .i64 0, .float .f64 0, .int .i64 0, .string ⟨#[]⟩, .slice none 0 0, .bool must]) 6 (.int .i64 0) rfl
   have sx3 := sx2.store (cs1' := #[.int .i64 (k : Int), .string (str key), .int .i64 0, .float .f64 0, .string ⟨#[]⟩, .int .i64 0, .int .i64 0, .int .i64 0, .int .i64 0, .float .f64 0, .int .i64 0, .string ⟨#[]⟩, .slice none 0 0, .bool must]) 7 (.int .i64 0) rfl
   have sx4 := sx3.store (cs1' := #[.int .i64 (k : Int), .string (str key), .int .i64 0, .float .f64 0, .string ⟨#[]⟩, .int .i64 0, .int .i64 0, .int .i64 0, .int .i64 0, .float .f64 0, .int .i64 0, .string ⟨#[]⟩, .slice none 0 0, .bool must]) 8 (.int .i64 0) rfl
   have sx5 := sx4.store (cs1' := #[.int .i64 (k : Int), .string (str key), .int .i64 0, .float .f64 0, .string ⟨#[]⟩, .int .i64 0, .int .i64 0, .int .i64 0, .int .i64 0, .float .f64 0, .int .i64 0, .string ⟨#[]⟩, .slice none 0 0, .bool must]) 9 (.float .f64 0) rfl
   have sx6 := sx5.store (cs1' := #[.int .i64 (k : Int), .string (str key), .int .i64 0, .float .f64 0, .string ⟨#[]⟩, .int .i64 0, .int .i64 0, .int .i64 0, .int .i64 0, .float .f64 0, .int .i64 0, .string ⟨#[]⟩, .slice none 0 0, .bool must]) 10 (.int .i64 0) rfl
   have sx7 := sx6.store (cs1' := #[.int .i64 (k : Int), .string (str key), .int .i64 0, .float .f64 0, .string ⟨#[]⟩, .int .i64 0, .int .i64 0, .int .i64 0, .int .i64 0, .float .f64 0, .int .i64 0, .string ⟨#[]⟩, .slice none 0 0, .bool must]) 11 (.string ⟨#[]⟩) rfl
   have sx8 := sx7.store (cs1' := #[.int .i64 (k : Int), .string (str key), .int .i64 0, .float .f64 0, .string ⟨#[]⟩, .int .i64 0, .int .i64 0, .int .i64 0, .int .i64 0, .float .f64 0, .int .i64 0, .string ⟨#[]⟩, .slice none 0 0, .bool must]) 12 (.slice none 0 0) rfl
   have st7 := Lib.hid sx8
   clear sx0 sx1 sx2 sx3 sx4 sx5 sx6 sx7 sx8 st6
   have hJ : Hid (rAct bs a = .error (cd, a9)) := by unfold Hid; rw [hsp90.out, if_neg hz]
   have t3 : (((cd : Nat) : Int) == 0) = false := by rw [beq_eq_false_iff_ne]; omega
   have t4 : (((cd : Nat) : Int) != 0) = true := by rw [bne_iff_ne]; omega
   have stF := st7.out
   have cE := sm7.e.blk.cell 2; have hlp := sm7.e.blk.lt; have hm := sm7.b0.frozen; have hl0 := sm7.b0.lt; have hc0 := sm7.b0.cell; have hpn : ¬ p = w.heap.size := by have := stF.Bp; omega
   have c9 := sm7.b1.cell; have d9 := sm7.b1.frozen; have l9 := sm7.b1.lt; have hn01 : ¬ p = w.heap.size + 1 := by have := stF.Bp; omega
   have hfk := fill14_kept ((((((((v7.setCell ⟨w.heap.size + 1, 5, none⟩ (.int .i64 0)).setCell ⟨w.heap.size + 1, 6, none⟩ (.int .i64 0)).setCell ⟨w.heap.size + 1, 7, none⟩ (.int .i64 0)).setCell ⟨w.heap.size + 1, 8, none⟩ (.int .i64 0)).setCell ⟨w.heap.size + 1, 9, none⟩ (.float .f64 0)).setCell ⟨w.heap.size + 1, 10, none⟩ (.int .i64 0)).setCell ⟨w.heap.size + 1, 11, none⟩ (.string ⟨#[]⟩)).setCell ⟨w.heap.size + 1, 12, none⟩ (.slice none 0 0)) w.heap.size (.int .i64 0) (.string ⟨#[]⟩) (.int .i64 0) (.float .f64 0) (.string ⟨#[]⟩) (.int .i64 0) (.int .i64 0) (.int .i64 0) (.int .i64 0) (.float .f64 0) (.int .i64 0) (.string ⟨#[]⟩) (.slice none 0 0) (.bool false)
   have hfin := Lib.hid (zfin stF.b0)
   have hEe := Lib.hid (stF.e.kept hfk (fun e => by have := stF.Bp; omega) (fun ad e h2 => by have := stF.BA ad e; omega))
   have hKw := Lib.hid (stF.K.then_ hfk (fun i hi h2 => by exfalso; omega))
   clear hfk stF st7 sm7
   go_wp2_with fail
   refine bodyPost_ret (zres rfl hfin.out) rfl ?_
   ·rw [hJ.out]
    exact ⟨rfl, hEe.out, hKw.out⟩
  | ok x =>
   obtain ⟨r, a9⟩ := x
   rw [hR] at hP
   obtain ⟨AL, nL, cL, rfl, hL, hn32, hge, hE2, hk2⟩ := hP
   have hsp91 : Hid (rAct bs a = aDone ⟨(k : Int), key, 0, 0, [], r, must⟩ a9) := by
    unfold Hid; rw [hsp6.out, if_pos rfl, aM_yes hM.out, hR]
   have hwf : Hid (r.WF) := rRec_wf hR
   have hge' : Hid (∀ ad, AL = some ad → w.heap.size + 2 ≤ ad.block) := fun ad e => by have := hge ad e; have := st6.out.b1.lt; omega
   replace hL := Lib.hid hL
   unfold recVal
   have sm7 := st6.out.step hE2 hk2
   clear hE2 hk2 hR hge
   have sx0 := sm7
   have sx1 := sx0.store (cs1' := #[.int .i64 (k : Int), .string (str key), .int .i64 0, .float .f64 0, .string ⟨#[]⟩, .int .i64 r.kind, .int .i64 0, .int .i64 0, .int .i64 0, .float .f64 0, .int .i64 0, .string ⟨#[]⟩, .slice none 0 0, .bool must]) 5 (.int .i64 r.kind) rfl
   have sx2 := sx1.store (cs1' := #[.int .i64 (k : Int), .string (str key), .int .i64 0, .float .f64 0, .string ⟨#[]⟩, .int .i64 r.kind, .int .i64 r.num, .int .i64 0, .int .i64 0, .float .f64 0, .int .i64 0, .string ⟨#[]⟩, .slice none 0 0, .bool must]) 6 (.int .i64 r.num) rfl
   have sx3 := sx2.store (cs1' := #[.int .i64 (k : Int), .string (str key), .int .i64 0, .float .f64 0, .string ⟨#[]⟩, .int .i64 r.kind, .int .i64 r.num, .int .i64 r.low, .int .i64 0, .float .f64 0, .int .i64 0, .string ⟨#[]⟩, .slice none 0 0, .bool must]) 7 (.int .i64 r.low) rfl
   have sx4 := sx3.store (cs1' := #[.int .i64 (k : Int), .string (str key), .int .i64 0, .float .f64 0, .string ⟨#[]⟩, .int .i64 r.kind, .int .i64 r.num, .int .i64 r.low, .int .i64 r.high, .float .f64 0, .int .i64 0, .string ⟨#[]⟩, .slice none 0 0, .bool must]) 8 (.int .i64 r.high) rfl
   have sx5 := sx4.store (cs1' := #[.int .i64 (k : Int), .string (str key), .int .i64 0, .float .f64 0, .string ⟨#[]⟩, .int .i64 r.kind, .int .i64 r.num, .int .i64 r.low, .int .i64 r.high, .float .f64 r.real, .int .i64 0, .string ⟨#[]⟩, .slice none 0 0, .bool must]) 9 (.float .f64 r.real) rfl
   have sx6 := sx5.store (cs1' := #[.int .i64 (k : Int), .string (str key), .int .i64 0, .float .f64 0, .string ⟨#[]⟩, .int .i64 r.kind, .int .i64 r.num, .int .i64 r.low, .int .i64 r.high, .float .f64 r.real, .int .i64 r.cap, .string ⟨#[]⟩, .slice none 0 0, .bool must]) 10 (.int .i64 r.cap) rfl
   have sx7 := sx6.store (cs1' := #[.int .i64 (k : Int), .string (str key), .int .i64 0, .float .f64 0, .string ⟨#[]⟩, .int .i64 r.kind, .int .i64 r.num, .int .i64 r.low, .int .i64 r.high, .float .f64 r.real, .int .i64 r.cap, .string (str r.text), .slice none 0 0, .bool must]) 11 (.string (str r.text)) rfl
   have sx8 := sx7.store (cs1' := #[.int .i64 (k : Int), .string (str key), .int .i64 0, .float .f64 0, .string ⟨#[]⟩, .int .i64 r.kind, .int .i64 r.num, .int .i64 r.low, .int .i64 r.high, .float .f64 r.real, .int .i64 r.cap, .string (str r.text), .slice AL nL cL, .bool must]) 12 (.slice AL nL cL) rfl
   have st7 := Lib.hid sx8
   clear sx0 sx1 sx2 sx3 sx4 sx5 sx6 sx7 sx8 st6
   have hL9 : Hid (RdItems ((((((((v7.setCell ⟨w.heap.size + 1, 5, none⟩ (.int .i64 r.kind)).setCell ⟨w.heap.size + 1, 6, none⟩ (.int .i64 r.num)).setCell ⟨w.heap.size + 1, 7, none⟩ (.int .i64 r.low)).setCell ⟨w.heap.size + 1, 8, none⟩ (.int .i64 r.high)).setCell ⟨w.heap.size + 1, 9, none⟩ (.float .f64 r.real)).setCell ⟨w.heap.size + 1, 10, none⟩ (.int .i64 r.cap)).setCell ⟨w.heap.size + 1, 11, none⟩ (.string (str r.text))).setCell ⟨w.heap.size + 1, 12, none⟩ (.slice AL nL cL)) AL nL r.list) := ((((((((hL.out.kept (keptSet _ (w.heap.size + 1) 5 (.int .i64 r.kind)) (fun ad e _ h2 => by have := hge'.out ad e; omega)).kept (keptSet _ (w.heap.size + 1) 6 (.int .i64 r.num)) (fun ad e _ h2 => by have := hge'.out ad e; omega)).kept (keptSet _ (w.heap.size + 1) 7 (.int .i64 r.low)) (fun ad e _ h2 => by have := hge'.out ad e; omega)).kept (keptSet _ (w.heap.size + 1) 8 (.int .i64 r.high)) (fun ad e _ h2 => by have := hge'.out ad e; omega)).kept (keptSet _ (w.heap.size + 1) 9 (.float .f64 r.real)) (fun ad e _ h2 => by have := hge'.out ad e; omega)).kept (keptSet _ (w.heap.size + 1) 10 (.int .i64 r.cap)) (fun ad e _ h2 => by have := hge'.out ad e; omega)).kept (keptSet _ (w.heap.size + 1) 11 (.string (str r.text))) (fun ad e _ h2 => by have := hge'.out ad e; omega)).kept (keptSet _ (w.heap.size + 1) 12 (.slice AL nL cL)) (fun ad e _ h2 => by have := hge'.out ad e; omega))
   have hdone : Hid (rAct bs a = aDone ⟨(k : Int), key, 0, 0, [], r, must⟩ a9) := hsp91
   have hE0 : Hid (AEy w p A n c bs #[.int .i64 (k : Int), .string (str key), .int .i64 0, .float .f64 0, .string ⟨#[]⟩, .int .i64 r.kind, .int .i64 r.num, .int .i64 r.low, .int .i64 r.high, .float .f64 r.real, .int .i64 r.cap, .string (str r.text), .slice AL nL cL, .bool must] ((((((((v7.setCell ⟨w.heap.size + 1, 5, none⟩ (.int .i64 r.kind)).setCell ⟨w.heap.size + 1, 6, none⟩ (.int .i64 r.num)).setCell ⟨w.heap.size + 1, 7, none⟩ (.int .i64 r.low)).setCell ⟨w.heap.size + 1, 8, none⟩ (.int .i64 r.high)).setCell ⟨w.heap.size + 1, 9, none⟩ (.float .f64 r.real)).setCell ⟨w.heap.size + 1, 10, none⟩ (.int .i64 r.cap)).setCell ⟨w.heap.size + 1, 11, none⟩ (.string (str r.text))).setCell ⟨w.heap.size + 1, 12, none⟩ (.slice AL nL cL)) a9 0) := st7.out
   have hwfA : Hid ((⟨(k : Int), key, 0, 0, [], r, must⟩ : MAct).WF) := ⟨hkW.out, z64, zF, hwf.out⟩
   have stF := hE0.out
   have cE := sm7.e.blk.cell 2; have hlp := sm7.e.blk.lt; have hc9 := sm7.b1.cell; have hd9 := sm7.b1.frozen; have hl9 := sm7.b1.lt; have hn01 : ¬ p = w.heap.size + 1 := by have := stF.Bp; omega
   clear stF st7 sm7
   go_wp2_with fail
   have cC := racheck_any ⟨(k : Int), key, 0, 0, [], r, must⟩ AL nL cL (by omega) hwfA.out ((((((((v7.setCell ⟨w.heap.size + 1, 5, none⟩ (.int .i64 r.kind)).setCell ⟨w.heap.size + 1, 6, none⟩ (.int .i64 r.num)).setCell ⟨w.heap.size + 1, 7, none⟩ (.int .i64 r.low)).setCell ⟨w.heap.size + 1, 8, none⟩ (.int .i64 r.high)).setCell ⟨w.heap.size + 1, 9, none⟩ (.float .f64 r.real)).setCell ⟨w.heap.size + 1, 10, none⟩ (.int .i64 r.cap)).setCell ⟨w.heap.size + 1, 11, none⟩ (.string (str r.text))).setCell ⟨w.heap.size + 1, 12, none⟩ (.slice AL nL cL)) (hL9.out)
   unfold actVal at cC
   refine cC.mono ?_; rintro e w9 ⟨rfl, hq⟩
   clear cC
   have st9 := Lib.hid (hE0.out.cln hq)
   have hL10 : Hid (RdItems w9 AL nL r.list) := RdItems.cln hL9.out hq
   clear hq cE hlp hc9 hd9 hl9 hE0
   generalize hC : checkAct ⟨(k : Int), key, 0, 0, [], r, must⟩ = cd
   replace hC := Lib.hid hC
   go_wp2_with fail
   refine (fail_new p A n c bs a9 cd _ st9.out.e).mono ?_
   rintro e w10 ⟨rfl, hE5, hk5⟩
   have hL11 : Hid (RdItems w10 AL nL r.list) := hL10.out.kept hk5 (fun ad e _ h2 => by have := hge'.out ad e; have := st9.out.Bp; omega)
   have stF := st9.out.step hE5 hk5
   have cE := stF.e.blk.cell 2; have hlp := stF.e.blk.lt; have hm := stF.b0.frozen; have hl0 := stF.b0.lt; have hc0 := stF.b0.cell; have hpn : ¬ p = w.heap.size := by have := stF.Bp; omega
   have hc1 := stF.b1.cell; have hl1 := stF.b1.lt
   clear st9 hE5 hk5 hL10
   by_cases hz : cd = 0
   ·subst hz
    have hJ : Hid (rAct bs a = .ok (⟨(k : Int), key, 0, 0, [], r, must⟩, a9)) := by unfold Hid; rw [hdone.out]; unfold aDone; rw [if_pos hC.out]
    have hfk := fill14_kept w10 w.heap.size (.int .i64 (k : Int)) (.string (str key)) (.int .i64 0) (.float .f64 0) (.string ⟨#[]⟩) (.int .i64 r.kind) (.int .i64 r.num) (.int .i64 r.low) (.int .i64 r.high) (.float .f64 r.real) (.int .i64 r.cap) (.string (str r.text)) (.slice AL nL cL) (.bool must)
    have hfin := Lib.hid (Blk.store14 stF.b0 (v0 := .int .i64 (k : Int)) (v1 := .string (str key)) (v2 := .int .i64 0) (v3 := .float .f64 0) (v4 := .string ⟨#[]⟩) (v5 := .int .i64 r.kind) (v6 := .int .i64 r.num) (v7 := .int .i64 r.low) (v8 := .int .i64 r.high) (v9 := .float .f64 r.real) (v10 := .int .i64 r.cap) (v11 := .string (str r.text)) (v12 := .slice AL nL cL) (v13 := .bool must))
    have hEe := Lib.hid (stF.e.kept hfk (fun e => by have := stF.Bp; omega) (fun ad e h2 => by have := stF.BA ad e; omega))
    have hKw := Lib.hid (stF.K.then_ hfk (fun i hi h2 => by exfalso; omega))
    have hLL := Lib.hid (hL11.out.kept hfk (fun ad e _ h2 => by have := hge'.out ad e; omega))
    clear hfk stF hL11
    go_wp2_with fail
    refine bodyPost_ret (v := .agg #[.int .i64 (k : Int), .string (str key), .int .i64 0, .float .f64 0, .string ⟨#[]⟩, .int .i64 r.kind, .int .i64 r.num, .int .i64 r.low, .int .i64 r.high, .float .f64 r.real, .int .i64 r.cap, .string (str r.text), .slice AL nL cL, .bool must]) ?_ rfl ?_
    ·exact results_cell_row Tryz.results97 _ _ w.heap.size 90 #[.int .i64 (k : Int), .string (str key), .int .i64 0, .float .f64 0, .string ⟨#[]⟩, .int .i64 r.kind, .int .i64 r.num, .int .i64 r.low, .int .i64 r.high, .float .f64 r.real, .int .i64 r.cap, .string (str r.text), .slice AL nL cL, .bool must] (0, 0) _ rfl hfin.out Tryz.underlying90 rfl size_act
    ·rw [hJ.out]
     exact ⟨AL, nL, cL, rfl, hLL.out, by omega, (fun ad e => by have := hge'.out ad e; omega), hEe.out, hKw.out⟩
   ·have hJ : Hid (rAct bs a = .error (cd, a9)) := by unfold Hid; rw [hdone.out]; unfold aDone; rw [if_neg (by rw [hC.out]; exact hz), hC.out]
    have t4 : (((cd : Nat) : Int) != 0) = true := by rw [bne_iff_ne]; omega
    have hfk := fill14_kept w10 w.heap.size (.int .i64 0) (.string ⟨#[]⟩) (.int .i64 0) (.float .f64 0) (.string ⟨#[]⟩) (.int .i64 0) (.int .i64 0) (.int .i64 0) (.int .i64 0) (.float .f64 0) (.int .i64 0) (.string ⟨#[]⟩) (.slice none 0 0) (.bool false)
    have hfin := Lib.hid (zfin stF.b0)
    have hEe := Lib.hid (stF.e.kept hfk (fun e => by have := stF.Bp; omega) (fun ad e h2 => by have := stF.BA ad e; omega))
    have hKw := Lib.hid (stF.K.then_ hfk (fun i hi h2 => by exfalso; omega))
    clear hfk stF hL11
    go_wp2_with fail
    refine bodyPost_ret (zres rfl hfin.out) rfl ?_
    ·rw [hJ.out]
     exact ⟨rfl, hEe.out, hKw.out⟩
set_option maxHeartbeats 8000000 in
theorem anext_zero (p : Nat) (A : Option Addr) (n c : Nat) (bs : List UInt8) (a : Nat) (w : World) (hE : IsE w p A n c bs a 0) (hA : ∀ ad, A = some ad → ad.block < w.heap.size) (a1 : Nat) (hU : rUpto 21 bs a = .ok (0, a1)) :
  Calls Tryz.prog 97 #[.pointer (some ⟨p, 0, none⟩)] w (ANextPost w p A n c bs (rAct bs a)) := by
 have hJ : Hid (rAct bs a = .error (5, a1)) := by unfold Hid rAct; simp only [hU]; rfl
 have hz : ¬ 5 = 0 := by decide
 have hp0 := hE.blk.lt
 have f110 : ∀ W, Calls Tryz.prog 106 #[.int .i64 0, .int .u8 110] W fun e w' => e = .returned (.bool false) ∧ Cln W w' := fun W => rhas_any 0 110 W
 have f120 : ∀ W, Calls Tryz.prog 106 #[.int .i64 0, .int .u8 120] W fun e w' => e = .returned (.bool false) ∧ Cln W w' := fun W => rhas_any 0 120 W
 have f115 : ∀ W, Calls Tryz.prog 106 #[.int .i64 0, .int .u8 115] W fun e w' => e = .returned (.bool false) ∧ Cln W w' := fun W => rhas_any 0 115 W
 have hcl0 := hzANexts0 w
 have hb2 := (Blk.new w 90 #[.int .i64 0, .string ⟨#[]⟩, .int .i64 0, .float .f64 0, .string ⟨#[]⟩, .int .i64 0, .int .i64 0, .int .i64 0, .int .i64 0, .float .f64 0, .int .i64 0, .string ⟨#[]⟩, .slice none 0 0, .bool false]).alloc (.cells #[.int .i64 0, .string ⟨#[]⟩, .int .i64 0, .float .f64 0, .string ⟨#[]⟩, .int .i64 0, .int .i64 0, .int .i64 0, .int .i64 0, .float .f64 0, .int .i64 0, .string ⟨#[]⟩, .slice none 0 0, .bool false] 90)
 have hb3 := Blk.new (w.alloc (.cells #[.int .i64 0, .string ⟨#[]⟩, .int .i64 0, .float .f64 0, .string ⟨#[]⟩, .int .i64 0, .int .i64 0, .int .i64 0, .int .i64 0, .float .f64 0, .int .i64 0, .string ⟨#[]⟩, .slice none 0 0, .bool false] 90)) 90 #[.int .i64 0, .string ⟨#[]⟩, .int .i64 0, .float .f64 0, .string ⟨#[]⟩, .int .i64 0, .int .i64 0, .int .i64 0, .int .i64 0, .float .f64 0, .int .i64 0, .string ⟨#[]⟩, .slice none 0 0, .bool false]
 rw [World.size_alloc] at hb3
 go_enter Tryz.func97, Tryz.ntmps97
 go_wp2_with fail
 refine (upto_new p A n c bs a 21 (by decide) _ (hE.cln hcl0)).mono ?_
 intro e w1 hP
 rw [hU] at hP
 obtain ⟨rfl, hE1, hk⟩ := hP
 have st0 : AEy w p A n c bs #[.int .i64 0, .string ⟨#[]⟩, .int .i64 0, .float .f64 0, .string ⟨#[]⟩, .int .i64 0, .int .i64 0, .int .i64 0, .int .i64 0, .float .f64 0, .int .i64 0, .string ⟨#[]⟩, .slice none 0 0, .bool false] w1 a1 0 := ⟨hE1, (Kept.of_below (S := fun i => i = p) hcl0).then_ hk (fun i _ h => h), hb2.kept hk (by omega), hb3.kept hk (by omega), hp0, hA⟩
 have st1 := Lib.hid (st0.store (cs1' := #[.int .i64 0, .string ⟨#[]⟩, .int .i64 0, .float .f64 0, .string ⟨#[]⟩, .int .i64 0, .int .i64 0, .int .i64 0, .int .i64 0, .float .f64 0, .int .i64 0, .string ⟨#[]⟩, .slice none 0 0, .bool false]) 0 (.int .i64 0) rfl)
 have c1 := st0.b1.cell; have d1 := st0.b1.frozen; have l1 := st0.b1.lt
 clear hE hE1 hk hb2 hb3 hcl0 st0
 go_wp2_with fail
 refine (fail_new p A n c bs a1 5 _ st1.out.e).mono ?_
 rintro e v2 ⟨rfl, hE2, hk2⟩
 have st2 := Lib.hid (st1.out.step hE2 hk2)
 clear hE2 hk2 st1 c1 d1 l1
 go_wp2_with fail
 refine (eye_failed p A n c bs a1 5 hz 98 0 _ st2.out.e).mono ?_
 rintro e v3 ⟨rfl, hq⟩
 have sm3 := st2.out.cln hq
 have c3 := sm3.b1.cell; have d3 := sm3.b1.frozen; have l3 := sm3.b1.lt
 have st3 := Lib.hid (sm3.store (cs1' := #[.int .i64 0, .string ⟨#[]⟩, .int .i64 0, .float .f64 0, .string ⟨#[]⟩, .int .i64 0, .int .i64 0, .int .i64 0, .int .i64 0, .float .f64 0, .int .i64 0, .string ⟨#[]⟩, .slice none 0 0, .bool false]) 13 (.bool false) rfl)
 clear hq sm3 st2
 skip
 go_wp2_with (simp only [field_part5])
 refine (eye_failed p A n c bs a1 5 hz 115 24 _ st3.out.e).mono ?_
 rintro e v4 ⟨rfl, hq⟩
 have sm4 := st3.out.cln hq
 clear c3 d3 l3
 have c4 := sm4.b1.cell; have d4 := sm4.b1.frozen; have l4 := sm4.b1.lt
 have st4 := Lib.hid (sm4.store (cs1' := #[.int .i64 0, .string ⟨#[]⟩, .int .i64 0, .float .f64 0, .string ⟨#[]⟩, .int .i64 0, .int .i64 0, .int .i64 0, .int .i64 0, .float .f64 0, .int .i64 0, .string ⟨#[]⟩, .slice none 0 0, .bool false]) 1 (.string ⟨#[]⟩) rfl)
 clear hq sm4 st3
 go_wp2_with (simp only [field_part4])
 clear c4 d4 l4
 refine (f110 _).mono ?_; rintro e v5 ⟨rfl, hq⟩
 have st5 := Lib.hid (st4.out.cln hq)
 clear hq st4
 have c5 := st5.out.b1.cell; have l5 := st5.out.b1.lt
 go_wp2_with fail
 clear c5 l5
 refine (f120 _).mono ?_; rintro e v6 ⟨rfl, hq⟩
 have st6 := Lib.hid (st5.out.cln hq)
 clear hq st5
 have c6 := st6.out.b1.cell; have l6 := st6.out.b1.lt
 go_wp2_with fail
 clear c6 l6
 refine (f115 _).mono ?_; rintro e v7 ⟨rfl, hq⟩
 have st7 := Lib.hid (st6.out.cln hq)
 clear hq st6
 have t3 : (((5 : Nat) : Int) == 0) = false := by rw [beq_eq_false_iff_ne]; omega
 have t4 : (((5 : Nat) : Int) != 0) = true := by rw [bne_iff_ne]; omega
 have stF := st7.out
 have cE := stF.e.blk.cell 2; have hlp := stF.e.blk.lt; have hm := stF.b0.frozen; have hl0 := stF.b0.lt; have hc0 := stF.b0.cell; have hpn : ¬ p = w.heap.size := by have := stF.Bp; omega
 have c9 := stF.b1.cell; have l9 := stF.b1.lt; have hn01 : ¬ p = w.heap.size + 1 := by have := stF.Bp; omega
 have hfk := fill14_kept v7 w.heap.size (.int .i64 0) (.string ⟨#[]⟩) (.int .i64 0) (.float .f64 0) (.string ⟨#[]⟩) (.int .i64 0) (.int .i64 0) (.int .i64 0) (.int .i64 0) (.float .f64 0) (.int .i64 0) (.string ⟨#[]⟩) (.slice none 0 0) (.bool false)
 have hfin := Lib.hid (zfin stF.b0)
 have hEe := Lib.hid (stF.e.kept hfk (fun e => by have := stF.Bp; omega) (fun ad e h2 => by have := stF.BA ad e; omega))
 have hKw := Lib.hid (stF.K.then_ hfk (fun i hi h2 => by exfalso; omega))
 clear hfk stF st7
 go_wp2_with fail
 refine bodyPost_ret (zres rfl hfin.out) rfl ?_
 ·rw [hJ.out]
  exact ⟨rfl, hEe.out, hKw.out⟩
set_option maxHeartbeats 8000000 in
theorem anext_err (p : Nat) (A : Option Addr) (n c : Nat) (bs : List UInt8) (a : Nat) (w : World) (hE : IsE w p A n c bs a 0) (hA : ∀ ad, A = some ad → ad.block < w.heap.size) (cd a1 : Nat) (hU : rUpto 21 bs a = .error (cd, a1)) :
  Calls Tryz.prog 97 #[.pointer (some ⟨p, 0, none⟩)] w (ANextPost w p A n c bs (rAct bs a)) := by
 have hJ : Hid (rAct bs a = .error (cd, a1)) := by unfold Hid rAct; simp only [hU]
 have hz : ¬ cd = 0 := rUpto_nz hU
 have hp0 := hE.blk.lt
 have f110 : ∀ W, Calls Tryz.prog 106 #[.int .i64 0, .int .u8 110] W fun e w' => e = .returned (.bool false) ∧ Cln W w' := fun W => rhas_any 0 110 W
 have f120 : ∀ W, Calls Tryz.prog 106 #[.int .i64 0, .int .u8 120] W fun e w' => e = .returned (.bool false) ∧ Cln W w' := fun W => rhas_any 0 120 W
 have f115 : ∀ W, Calls Tryz.prog 106 #[.int .i64 0, .int .u8 115] W fun e w' => e = .returned (.bool false) ∧ Cln W w' := fun W => rhas_any 0 115 W
 have hcl0 := hzANexts0 w
 have hb2 := (Blk.new w 90 #[.int .i64 0, .string ⟨#[]⟩, .int .i64 0, .float .f64 0, .string ⟨#[]⟩, .int .i64 0, .int .i64 0, .int .i64 0, .int .i64 0, .float .f64 0, .int .i64 0, .string ⟨#[]⟩, .slice none 0 0, .bool false]).alloc (.cells #[.int .i64 0, .string ⟨#[]⟩, .int .i64 0, .float .f64 0, .string ⟨#[]⟩, .int .i64 0, .int .i64 0, .int .i64 0, .int .i64 0, .float .f64 0, .int .i64 0, .string ⟨#[]⟩, .slice none 0 0, .bool false] 90)
 have hb3 := Blk.new (w.alloc (.cells #[.int .i64 0, .string ⟨#[]⟩, .int .i64 0, .float .f64 0, .string ⟨#[]⟩, .int .i64 0, .int .i64 0, .int .i64 0, .int .i64 0, .float .f64 0, .int .i64 0, .string ⟨#[]⟩, .slice none 0 0, .bool false] 90)) 90 #[.int .i64 0, .string ⟨#[]⟩, .int .i64 0, .float .f64 0, .string ⟨#[]⟩, .int .i64 0, .int .i64 0, .int .i64 0, .int .i64 0, .float .f64 0, .int .i64 0, .string ⟨#[]⟩, .slice none 0 0, .bool false]
 rw [World.size_alloc] at hb3
 go_enter Tryz.func97, Tryz.ntmps97
 go_wp2_with fail
 refine (upto_new p A n c bs a 21 (by decide) _ (hE.cln hcl0)).mono ?_
 intro e w1 hP
 rw [hU] at hP
 obtain ⟨rfl, hE1, hk⟩ := hP
 have st0 : AEy w p A n c bs #[.int .i64 0, .string ⟨#[]⟩, .int .i64 0, .float .f64 0, .string ⟨#[]⟩, .int .i64 0, .int .i64 0, .int .i64 0, .int .i64 0, .float .f64 0, .int .i64 0, .string ⟨#[]⟩, .slice none 0 0, .bool false] w1 a1 cd := ⟨hE1, (Kept.of_below (S := fun i => i = p) hcl0).then_ hk (fun i _ h => h), hb2.kept hk (by omega), hb3.kept hk (by omega), hp0, hA⟩
 have st1 := Lib.hid (st0.store (cs1' := #[.int .i64 0, .string ⟨#[]⟩, .int .i64 0, .float .f64 0, .string ⟨#[]⟩, .int .i64 0, .int .i64 0, .int .i64 0, .int .i64 0, .float .f64 0, .int .i64 0, .string ⟨#[]⟩, .slice none 0 0, .bool false]) 0 (.int .i64 0) rfl)
 have c1 := st0.b1.cell; have d1 := st0.b1.frozen; have l1 := st0.b1.lt
 clear hE hE1 hk hb2 hb3 hcl0 st0
 go_wp2_with fail
 refine (fail_old p A n c bs a1 cd hz 5 _ st1.out.e).mono ?_
 rintro e v2 ⟨rfl, rfl⟩
 have st2 := st1
 clear st1
 go_wp2_with fail
 refine (eye_failed p A n c bs a1 cd hz 98 0 _ st2.out.e).mono ?_
 rintro e v3 ⟨rfl, hq⟩
 have sm3 := st2.out.cln hq
 have c3 := sm3.b1.cell; have d3 := sm3.b1.frozen; have l3 := sm3.b1.lt
 have st3 := Lib.hid (sm3.store (cs1' := #[.int .i64 0, .string ⟨#[]⟩, .int .i64 0, .float .f64 0, .string ⟨#[]⟩, .int .i64 0, .int .i64 0, .int .i64 0, .int .i64 0, .float .f64 0, .int .i64 0, .string ⟨#[]⟩, .slice none 0 0, .bool false]) 13 (.bool false) rfl)
 clear hq sm3 st2
 clear c1 d1 l1
 go_wp2_with (simp only [field_part5])
 refine (eye_failed p A n c bs a1 cd hz 115 24 _ st3.out.e).mono ?_
 rintro e v4 ⟨rfl, hq⟩
 have sm4 := st3.out.cln hq
 clear c3 d3 l3
 have c4 := sm4.b1.cell; have d4 := sm4.b1.frozen; have l4 := sm4.b1.lt
 have st4 := Lib.hid (sm4.store (cs1' := #[.int .i64 0, .string ⟨#[]⟩, .int .i64 0, .float .f64 0, .string ⟨#[]⟩, .int .i64 0, .int .i64 0, .int .i64 0, .int .i64 0, .float .f64 0, .int .i64 0, .string ⟨#[]⟩, .slice none 0 0, .bool false]) 1 (.string ⟨#[]⟩) rfl)
 clear hq sm4 st3
 go_wp2_with (simp only [field_part4])
 clear c4 d4 l4
 refine (f110 _).mono ?_; rintro e v5 ⟨rfl, hq⟩
 have st5 := Lib.hid (st4.out.cln hq)
 clear hq st4
 have c5 := st5.out.b1.cell; have l5 := st5.out.b1.lt
 go_wp2_with fail
 clear c5 l5
 refine (f120 _).mono ?_; rintro e v6 ⟨rfl, hq⟩
 have st6 := Lib.hid (st5.out.cln hq)
 clear hq st5
 have c6 := st6.out.b1.cell; have l6 := st6.out.b1.lt
 go_wp2_with fail
 clear c6 l6
 refine (f115 _).mono ?_; rintro e v7 ⟨rfl, hq⟩
 have st7 := Lib.hid (st6.out.cln hq)
 clear hq st6
 have t3 : (((cd : Nat) : Int) == 0) = false := by rw [beq_eq_false_iff_ne]; omega
 have t4 : (((cd : Nat) : Int) != 0) = true := by rw [bne_iff_ne]; omega
 have stF := st7.out
 have cE := stF.e.blk.cell 2; have hlp := stF.e.blk.lt; have hm := stF.b0.frozen; have hl0 := stF.b0.lt; have hc0 := stF.b0.cell; have hpn : ¬ p = w.heap.size := by have := stF.Bp; omega
 have c9 := stF.b1.cell; have l9 := stF.b1.lt; have hn01 : ¬ p = w.heap.size + 1 := by have := stF.Bp; omega
 have hfk := fill14_kept v7 w.heap.size (.int .i64 0) (.string ⟨#[]⟩) (.int .i64 0) (.float .f64 0) (.string ⟨#[]⟩) (.int .i64 0) (.int .i64 0) (.int .i64 0) (.int .i64 0) (.float .f64 0) (.int .i64 0) (.string ⟨#[]⟩) (.slice none 0 0) (.bool false)
 have hfin := Lib.hid (zfin stF.b0)
 have hEe := Lib.hid (stF.e.kept hfk (fun e => by have := stF.Bp; omega) (fun ad e h2 => by have := stF.BA ad e; omega))
 have hKw := Lib.hid (stF.K.then_ hfk (fun i hi h2 => by exfalso; omega))
 clear hfk stF st7
 go_wp2_with fail
 refine bodyPost_ret (zres rfl hfin.out) rfl ?_
 ·rw [hJ.out]
  exact ⟨rfl, hEe.out, hKw.out⟩
theorem anext_any (p : Nat) (A : Option Addr) (n c : Nat) (bs : List UInt8) (a : Nat) (w : World) (hE : IsE w p A n c bs a 0) (hA : ∀ ad, A = some ad → ad.block < w.heap.size) :
  Calls Tryz.prog 97 #[.pointer (some ⟨p, 0, none⟩)] w (ANextPost w p A n c bs (rAct bs a)) := by
 cases h : rUpto 21 bs a with
 | error er => obtain ⟨cd, a1⟩ := er; exact anext_err p A n c bs a w hE hA cd a1 h
 | ok x =>
  obtain ⟨k, a1⟩ := x
  have hk := rUpto_le h
  by_cases h0 : k = 0
  ·subst h0; exact anext_zero p A n c bs a w hE hA a1 h
  have hk1 : 1 ≤ k ∧ k ≤ 21 := by omega
  rcases act_class k hk1 with ⟨hN, hX, hS, hM, he⟩ | ⟨hN, hX, hS, hM, he⟩ | ⟨hN, hX, hS, hM, he⟩ | ⟨hN, hX, hS, hM, he⟩ | ⟨hN, hX, hS, hM, he⟩ | ⟨hN, hX, hS, hM, he⟩
  ·exact anext_none p A n c bs a w hE hA k a1 hk1 h hN hX hS hM he
  ·exact anext_make p A n c bs a w hE hA k a1 hk1 h hN hX hS hM he
  ·exact anext_text p A n c bs a w hE hA k a1 hk1 h hN hX hS hM he
  ·exact anext_num p A n c bs a w hE hA k a1 hk1 h hN hX hS hM he
  ·exact anext_real p A n c bs a w hE hA k a1 hk1 h hN hX hS hM he
  ·exact anext_offer p A n c bs a w hE hA k a1 hk1 h hN hX hS hM he
end Go.Proofs.YtoeoodiifpoomaaGreatDoor
