/- The document's First and Part, of a yes or no. -/
import Derived.Test.YtocllhghbmbjpaaDoorNexts
set_option linter.unusedSimpArgs false
set_option linter.unusedVariables false
set_option maxRecDepth 20000
namespace Go.Proofs.YtocllhghbmbjpaaDoor
open Go.RowKit Moi
attribute [local go_sem] toList_str str_size less_ltB store_float
theorem field_part5 (x0 x1 x2 x3 : Int) (x4 : ByteArray) (x5 : Bool) (W : World) : (Instr.field 107 (.agg #[.int .u8 x0, .int .u64 x1, .int .i64 x2, .int .u64 x3, .string x4, .bool x5]) 5).run Tryd.prog W = .ok (.bool x5) W := by kernel_rfl
set_option maxHeartbeats 8000000 in
theorem first_b (A : Option Addr) (n c : Nat) (bs : List UInt8) (hn : n ≤ 140737488355328) (hc : n ≤ c) (m : Int) (w : World) (hr : RdBytes w A n bs) :
    Calls Tryd.prog 101 #[.slice A n c, .int .u8 98, .int .i64 m] w (FirstPost w (mapR .b (rFlag bs 0))) := by
  have hl := hr.len
  by_cases h0 : n = 0
  · have t1 : decide ((n : Int) < 1) = true := decide_eq_true (by omega)
    have hI : Hid (rFlag bs 0 = .error (2, n)) := by unfold Hid rFlag rOne; rw [if_neg (by omega)]; rw [h0]
    clear hr hl h0
    go_enter Tryd.func101, Tryd.ntmps101
    go_wp2_with fail
    refine bodyPost_ret (results_ctt Tryd.results101 _ _ w.heap.size 107 #[.int .u8 98, .int .u64 0, .int .i64 0, .int .u64 0, .string ⟨#[]⟩, .bool false] (0, 0) _ rfl ?_ Tryd.underlying107 rfl size_part) rfl ⟨?_, ?_⟩
    · show Blk _ w.heap.size 107 _
      with_reducible exact (Blk.new w _ _).alloc _
    · (repeat (first | (with_reducible exact Below.refl _ _) | (with_reducible assumption) | (with_reducible refine Below.setCell ?_ (by first | omega | (simp; done) | (simp; omega)) _) | (with_reducible refine Below.alloc ?_ (by first | omega | (simp; done) | (simp; omega)) _) | (with_reducible refine Below.drew ?_) | (with_reducible refine below_drewN ?_ _)))
    · rw [hI.out]; exact ⟨_, _, _, _, _, _, rfl⟩
  · have t1 : decide ((n : Int) < 1) = false := decide_eq_false (by omega)
    obtain ⟨b, o, rfl, hblt, hcell⟩ := hr.cells (by omega)
    have hc0 := hcell 0 (by omega)
    rw [Nat.add_zero] at hc0
    have hO : rOne bs 0 = .ok (byteAt bs 0, 1) := by unfold rOne; rw [if_pos (by omega)]; rfl
    have hi0 : (0 : Int) < (n : Int) := by omega
    have hi1 : 0 < n := by omega
    have hne0 : ¬ b = w.heap.size := by omega
    have hne1 : ¬ b = w.heap.size + 1 := by omega
    by_cases h1 : 1 < byteAt bs 0
    · have hI : Hid (rFlag bs 0 = .error (4, 1)) := by unfold Hid rFlag; rw [hO]; simp only []; rw [if_pos h1]
      have t2 : decide (1 < ((byteAt bs 0 : Nat) : Int)) = true := decide_eq_true (by omega)
      have t3 : (((byteAt bs 0 : Nat) : Int) == 1) = false := by rw [beq_eq_false_iff_ne]; omega
      clear hcell hr hO h1
      generalize byteAt bs 0 = x at hc0 t2 t3
      go_enter Tryd.func101, Tryd.ntmps101
      go_wp2_with fail
      refine bodyPost_ret (results_ctt Tryd.results101 _ _ w.heap.size 107 #[.int .u8 98, .int .u64 0, .int .i64 0, .int .u64 0, .string ⟨#[]⟩, .bool false] (0, 0) _ rfl ?_ Tryd.underlying107 rfl size_part) rfl ⟨?_, ?_⟩
      · show Blk _ w.heap.size 107 _
        with_reducible exact (Blk.new w _ _).alloc _
      · (repeat (first | (with_reducible exact Below.refl _ _) | (with_reducible assumption) | (with_reducible refine Below.setCell ?_ (by first | omega | (simp; done) | (simp; omega)) _) | (with_reducible refine Below.alloc ?_ (by first | omega | (simp; done) | (simp; omega)) _) | (with_reducible refine Below.drew ?_) | (with_reducible refine below_drewN ?_ _)))
      · rw [hI.out]; exact ⟨_, _, _, _, _, _, rfl⟩
    · have hI : Hid (rFlag bs 0 = .ok (decide (byteAt bs 0 = 1), 1)) := by unfold Hid rFlag; rw [hO]; simp only []; rw [if_neg h1]
      have t2 : decide (1 < ((byteAt bs 0 : Nat) : Int)) = false := decide_eq_false (by omega)
      have t3 : (((byteAt bs 0 : Nat) : Int) == 1) = decide (byteAt bs 0 = 1) := by rw [Bool.eq_iff_iff, beq_iff_eq, decide_eq_true_iff]; omega
      clear hcell hr hO h1
      generalize decide (byteAt bs 0 = 1) = y at hI t3
      generalize byteAt bs 0 = x at hc0 t2 t3
      go_enter Tryd.func101, Tryd.ntmps101
      go_wp2_with fail
      refine bodyPost_ret (results_ctt Tryd.results101 _ _ w.heap.size 107 #[.int .u8 98, .int .u64 0, .int .i64 0, .int .u64 0, .string ⟨#[]⟩, .bool y] (0, 0) _ rfl ?_ Tryd.underlying107 rfl size_part) rfl ⟨?_, ?_⟩
      · show Blk _ w.heap.size 107 _
        with_reducible exact (Blk.new w _ _).alloc _
      · (repeat (first | (with_reducible exact Below.refl _ _) | (with_reducible assumption) | (with_reducible refine Below.setCell ?_ (by first | omega | (simp; done) | (simp; omega)) _) | (with_reducible refine Below.alloc ?_ (by first | omega | (simp; done) | (simp; omega)) _) | (with_reducible refine Below.drew ?_) | (with_reducible refine below_drewN ?_ _)))
      · rw [hI.out]; rfl
theorem rFlag_sh (b : List UInt8) (s : Nat) : rFlag b s = shR s (rFlag (b.drop s) 0) := by
  unfold rFlag; rw [show rOne b s = _ from rOne_sh b s 0]
  cases h : rOne (b.drop s) 0 with
  | error e => rfl
  | ok x =>
    obtain ⟨x, a⟩ := x
    simp only [shR]
    split <;> rfl
theorem rFlag_pos (b : List UInt8) : posR (rFlag b 0) ≤ b.length := by
  have h := rOne_pos (b := b) (a := 0) (Nat.zero_le _)
  unfold rFlag
  cases e : rOne b 0 with
  | error e' => rw [e] at h; exact h
  | ok x =>
    obtain ⟨x, a⟩ := x
    rw [e] at h
    have h : a ≤ b.length := h
    simp only []
    split <;> exact h
theorem rFlag_nz' {b : List UInt8} {e : RErr} {a : Nat} (h : rFlag b a = .error e) : e.1 ≠ 0 := by
  unfold rFlag at h
  split at h
  · rename_i h1; exact nz_of h (rOne_nz h1)
  · split at h
    · exact nz_of h (by simp)
    · cases h
theorem part_b (p : Nat) (A : Option Addr) (n c : Nat) (bs : List UInt8) (a : Nat) (w : World) (hE : IsE w p A n c bs a 0) (m : Int) :
    Calls Tryd.prog 80 #[.pointer (some ⟨p, 0, none⟩), .int .u8 98, .int .i64 m] w (PartPost w p A n c bs (mapR .b (rFlag bs a))) := by
  have hl : (bs.drop a).length = n - a := by rw [List.length_drop, hE.rd.len]
  have h := eye_part p A n c bs a 98 m (mapR .b (rFlag (bs.drop a) 0)) (by rw [posR_mapR, ← hl]; exact rFlag_pos _) (fun cd k h => rFlag_nz' (mapR_err h))
    (fun W A' c' hc hr => first_b A' (n - a) c' (bs.drop a) (by have := hE.big; omega) hc m W hr) w hE
  rw [shR_mapR, ← rFlag_sh] at h
  exact h
theorem part_b_st (p : Nat) (A : Option Addr) (n c : Nat) (bs : List UInt8) (a er : Nat) (w : World) (hE : IsE w p A n c bs a er) (m : Int) {x : Bool} {a' er' : Nat} (h : nxt (rFlag bs) false a er = (x, a', er')) : Calls Tryd.prog 80 #[.pointer (some ⟨p, 0, none⟩), .int .u8 98, .int .i64 m] w fun e w' =>
    (∃ (x0 x1 x2 x3 : Int) (x4 : ByteArray), e = .returned (.agg #[.int .u8 x0, .int .u64 x1, .int .i64 x2, .int .u64 x3, .string x4, .bool x])) ∧ IsE w' p A n c bs a' er' ∧ Kept (· = p) w w' := by
  by_cases hz : er = 0
  · subst hz
    refine (part_b p A n c bs a w hE m).mono ?_
    intro e w' hP
    cases hS : rFlag bs a with
    | error y =>
      obtain ⟨cd, a1⟩ := y
      rw [hS] at hP; obtain ⟨rfl, h1, h2⟩ := hP
      rw [nxt_err hS] at h; injection h with h3 h4; injection h4 with h4 h5; subst h3; subst h4; subst h5
      exact ⟨⟨_, _, _, _, _, rfl⟩, h1, h2⟩
    | ok y =>
      obtain ⟨y, a1⟩ := y
      rw [hS] at hP; obtain ⟨rfl, h1, h2⟩ := hP
      rw [nxt_ok hS] at h; injection h with h3 h4; injection h4 with h4 h5; subst h3; subst h4; subst h5
      exact ⟨⟨_, _, _, _, _, rfl⟩, h1, h2⟩
  · rw [nxt_old hz] at h; injection h with h3 h4; injection h4 with h4 h5; subst h3; subst h4; subst h5
    refine (eye_failed p A n c bs a er hz 98 m w hE).mono ?_
    rintro e w' ⟨rfl, hq⟩
    exact ⟨⟨_, _, _, _, _, rfl⟩, hE.cln hq, Kept.of_below hq⟩
end Go.Proofs.YtocllhghbmbjpaaDoor
