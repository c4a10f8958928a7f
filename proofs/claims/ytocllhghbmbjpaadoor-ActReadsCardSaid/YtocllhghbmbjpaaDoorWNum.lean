/- The walk of the document's num: the number that bytes begin with. -/
import Derived.Test.YtocllhghbmbjpaaDoorRds
import Derived.Test.YtocllhghbmbjpaaDoorPlain
import Derived.StillTailTactics
import Derived.OwnWalk
set_option linter.unusedSimpArgs false
set_option linter.unusedVariables false
set_option maxRecDepth 20000
namespace Go.Proofs.YtocllhghbmbjpaaDoor
open Go.RowKit Moi
/-- A result as the document's num tells it. -/
def numR : RRes Nat → Value
  | .ok (n, a) => .tuple #[.int .u64 (n : Nat), .int .i64 (a : Nat), .int .i64 0]
  | .error (c, a) => .tuple #[.int .u64 0, .int .i64 (a : Nat), .int .i64 (c : Nat)]
set_option maxHeartbeats 8000000 in
theorem num_any (A : Option Addr) (n c : Nat) (bs : List UInt8) (hn : n ≤ 140737488355328) (w : World) (hr : RdBytes w A n bs) :
    Calls Tryd.prog 105 #[.slice A n c] w fun e w' => e = .returned (numR (rU bs 0)) ∧ ∃ k, w.drewN k = w' := by
  have hlen := Lib.hid hr.len
  go_enter Tryd.func105, Tryd.ntmps105
  go_wp2_with fail
  go_loopw [5, 6, 7] (fun v5 v6 v7 wr => ∃ (i N : Nat), i ≤ n ∧ i ≤ 9 ∧ v7 = .int .i64 (i : Nat) ∧ v6 = .int .u64 ((128 ^ i : Nat) : Int) ∧ v5 = .int .u64 (N : Nat) ∧ N < 128 ^ i ∧ (∃ k, w.drewN k = wr) ∧ Hid (rU bs 0 = rUgo bs (10 - i) i N i)) (fun _ _ v7 _ => (n - intOf v7).toNat)
  case atStart => exact ⟨0, 0, Nat.zero_le _, by omega, rfl, rfl, rfl, by decide, ⟨0, rfl⟩, rfl⟩
  case round =>
    obtain ⟨i, N, hi, hi9, rfl, rfl, rfl, hN, ⟨k, rfl⟩, hH⟩ := hrel
    by_cases hlt : i < n
    · obtain ⟨b, o, rfl, hblt, hcell⟩ := (hr.drewN k).cells (by omega)
      have hc := hcell i hlt
      have hx : byteAt bs i < 256 := UInt8.toNat_lt _
      have hstep : Hid (rUgo bs (10 - i) i N i = if i = 9 ∧ 1 < byteAt bs i then .error (1, i + 1) else if 128 ≤ byteAt bs i then rUgo bs (9 - i) (i + 1) (N + (byteAt bs i % 128) * 128 ^ i) (i + 1) else if byteAt bs i = 0 ∧ 0 < i then .error (4, i + 1) else .ok (N + (byteAt bs i % 128) * 128 ^ i, i + 1)) := by
        unfold Hid
        rw [show 10 - i = (9 - i) + 1 from by omega]
        conv => lhs; unfold rUgo
        have : rOne bs i = .ok (byteAt bs i, i + 1) := by unfold rOne; rw [if_pos (by rw [hlen.out]; exact hlt)]; rfl
        simp only [this]
      generalize byteAt bs i = x at hc hx hstep
      clear hcell
      have hrU := Lib.hid (hH.out.trans hstep.out)
      clear hH hstep
      by_cases hA : i = 9 ∧ 1 < x
      · obtain ⟨rfl, h1⟩ := hA
        have hF : Hid (rU bs 0 = .error (1, 10)) := by unfold Hid; rw [hrU.out, if_pos ⟨rfl, h1⟩]
        have t1 : (((9 : Nat) : Int) == 9) = true := rfl
        have t2 : decide (1 < (x : Int)) = true := decide_eq_true (by omega)
        go_wp2_with fail
        go_ret3
        exact ⟨by rw [hF.out]; rfl, ⟨_, rfl⟩⟩
      have hrU2 := Lib.hid (hrU.out.trans (if_neg hA))
      clear hrU
      have hP1 : 128 ^ i ≤ 9223372036854775808 := pow128_le i hi9
      have hP2 : i ≤ 8 → 128 ^ i ≤ 72057594037927936 := fun h => by
        have : 128 ^ i ≤ 128 ^ 8 := Nat.pow_le_pow_right (by omega) h
        omega
      have hPs : 128 ^ (i + 1) = 128 ^ i * 128 := Nat.pow_succ ..
      have hsum : N + (x % 128) * 128 ^ i < 18446744073709551616 := by
        have hm : (x % 128) * 128 ^ i ≤ 127 * 128 ^ i := Nat.mul_le_mul_right _ (by omega)
        by_cases h9 : i = 9
        · have hx1 : x % 128 ≤ 1 := by omega
          have hm1 : (x % 128) * 128 ^ i ≤ 1 * 128 ^ i := Nat.mul_le_mul_right _ hx1
          omega
        · have := hP2 (by omega)
          omega
      have hN' : N + (x % 128) * 128 ^ i < 128 ^ i * 128 := by
        have hm : (x % 128) * 128 ^ i ≤ 127 * 128 ^ i := Nat.mul_le_mul_right _ (by omega)
        omega
      rw [← hPs] at hN'
      have hnx : Hid (128 ^ (i + 1) = 128 ^ i * 128) := hPs
      generalize hPe : 128 ^ i = P at *
      have hmul : (((x % 128 : Nat) : Int) * ((P : Nat) : Int)) = (((x % 128) * P : Nat) : Int) := by rw [Int.natCast_mul]
      generalize hQe : (x % 128) * P = Q at *
      have w1 : IntKind.u64.wrap ((Q : Nat) : Int) = ((Q : Nat) : Int) := IntWalk.u64_in _ (by omega)
      have w2 : IntKind.u64.wrap (((N : Nat) : Int) + ((Q : Nat) : Int)) = ((N + Q : Nat) : Int) := by rw [← Int.natCast_add]; exact IntWalk.u64_in _ (by omega)
      have w3 : (x : Int).tmod 128 = ((x % 128 : Nat) : Int) := by rw [Int.tmod_eq_emod_of_nonneg (by omega)]; omega
      have t9 : ((i : Int) == 9) = true ∧ decide (1 < (x : Int)) = false ∨ ((i : Int) == 9) = false := by
        by_cases h : i = 9
        · exact .inl ⟨by rw [beq_iff_eq]; omega, decide_eq_false (by omega)⟩
        · exact .inr (by rw [beq_eq_false_iff_ne]; omega)
      by_cases h128 : 128 ≤ x
      · have ti : ((i : Int) == 9) = false := by rw [beq_eq_false_iff_ne]; omega
        have t3 : decide ((x : Int) < 128) = false := decide_eq_false (by omega)
        have hP3 := hP2 (by omega)
        have hi8 : i + 1 ≤ 9 := by omega
        have hF : Hid (rU bs 0 = rUgo bs (10 - (i + 1)) (i + 1) (N + Q) (i + 1)) := by unfold Hid; rw [hrU2.out, if_pos h128]; rw [show 10 - (i + 1) = 9 - i from by omega]
        have w4 : IntKind.u64.wrap (((P : Nat) : Int) * 128) = ((P * 128 : Nat) : Int) := by rw [show ((P : Nat) : Int) * 128 = ((P * 128 : Nat) : Int) from by omega]; exact IntWalk.u64_in _ (by omega)
        clear t9 hrU2 hA h128 hP2
        go_wp2_with (simp only [w3, hmul, w1, w2, w4])
        refine ⟨⟨i + 1, N + Q, hlt, hi8, congrArg (Value.int .i64) (by omega), congrArg (Value.int .u64) (by rw [hnx.out]; omega), congrArg (Value.int .u64) ?_, by rw [hnx.out]; omega, ⟨_, rfl⟩, hF⟩, by simp [intOf]; omega⟩
        rw [show ((x : Int) % 128) = ((x % 128 : Nat) : Int) from by omega, hmul, w1, w2]
      · have t3 : decide ((x : Int) < 128) = true := decide_eq_true (by omega)
        have hval : IntKind.u64.wrap ((N : Int) + IntKind.u64.wrap ((x : Int) % 128 * (P : Int))) = ((N + Q : Nat) : Int) := by
          rw [show ((x : Int) % 128) = ((x % 128 : Nat) : Int) from by omega, hmul, w1, w2]
        by_cases hz : x = 0 ∧ 0 < i
        · obtain ⟨rfl, h0⟩ := hz
          have hF : Hid (rU bs 0 = .error (4, i + 1)) := by unfold Hid; rw [hrU2.out, if_neg h128, if_pos ⟨rfl, h0⟩]
          have t4 : (((0 : Nat) : Int) == 0) = true := rfl
          have t5 : decide (0 < (i : Int)) = true := decide_eq_true (by omega)
          have t5' : decide (0 < i) = true := decide_eq_true h0
          clear hrU2 hA h128 hP2 hval
          rcases t9 with ⟨t9, t10⟩ | t9
          · go_wp2_with fail
            go_ret3
            exact ⟨by rw [hF.out]; rfl, ⟨_, rfl⟩⟩
          · go_wp2_with fail
            go_ret3
            exact ⟨by rw [hF.out]; rfl, ⟨_, rfl⟩⟩
        · have hF : Hid (rU bs 0 = .ok (N + Q, i + 1)) := by unfold Hid; rw [hrU2.out, if_neg h128, if_neg hz]
          have tz : (((x : Int) == 0) = false) ∨ ((((x : Int) == 0) = true) ∧ decide (0 < (i : Int)) = false ∧ decide (0 < i) = false) := by
            by_cases h : x = 0
            · exact .inr ⟨by rw [beq_iff_eq]; omega, decide_eq_false (by omega), decide_eq_false (by omega)⟩
            · exact .inl (by rw [beq_eq_false_iff_ne]; omega)
          have hval' := Lib.hid hval
          clear hrU2 hA h128 hP2 hz hval
          rcases t9 with ⟨t9, t10⟩ | t9 <;> rcases tz with tz | ⟨tz, tz2, tz3⟩
          all_goals
            go_wp2_with fail
            go_ret3
            exact ⟨by rw [hF.out]; exact congrArg (fun v => Ending.returned (.tuple #[.int .u64 v, .int .i64 ((i : Int) + 1), .int .i64 0])) hval'.out, ⟨_, rfl⟩⟩
    · obtain rfl : i = n := by omega
      have t2 : decide ((i : Int) < (i : Int)) = false := decide_eq_false (by omega)
      have hF : Hid (rU bs 0 = .error (2, i)) := by
        unfold Hid
        rw [hH.out, show 10 - i = (9 - i) + 1 from by omega]
        unfold rUgo
        have : rOne bs i = .error (2, i) := by unfold rOne; rw [if_neg (by rw [hlen.out]; omega)]
        simp only [this]
      go_wp2_with fail
      go_ret3
      exact ⟨by rw [hF.out]; rfl, ⟨_, rfl⟩⟩
end Go.Proofs.YtocllhghbmbjpaaDoor
