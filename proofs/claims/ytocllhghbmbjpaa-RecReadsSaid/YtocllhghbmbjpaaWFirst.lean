/- The walks of the document's number, zag and First. -/
import Derived.Test.YtocllhghbmbjpaaWNum
import Derived.Test.YtocllhghbmbjpaaWParts
set_option linter.unusedSimpArgs false
set_option linter.unusedVariables false
set_option maxRecDepth 20000
namespace Go.Proofs.Ytocllhghbmbjpaa
open Go.RowKit Moi
attribute [local go_sem] toList_str str_size less_ltB store_float
theorem zag_any (n : Nat) (hn : n < 18446744073709551616) (w : World) : Calls Try.prog 87 #[.int .u64 (n : Nat)] w fun e w' => e = .returned (.int .i64 (unzig n)) ∧ w = w' := by
  have w3 : (n : Int).tmod 2 = ((n % 2 : Nat) : Int) := by rw [Int.tmod_eq_emod_of_nonneg (by omega)]; omega
  have w4 : (n : Int).tdiv 2 = ((n / 2 : Nat) : Int) := by rw [Int.tdiv_eq_ediv_of_nonneg (by omega)]; omega
  by_cases h : n % 2 = 1
  · have hE : Hid (unzig n = -((n / 2 : Nat) : Int) - 1) := by unfold Hid unzig; rw [if_pos h]
    have t1 : ((n : Int) % 2 == 1) = true := by rw [beq_iff_eq]; omega
    have w5 : IntKind.i64.wrap ((n / 2 : Nat) : Int) = ((n / 2 : Nat) : Int) := IntWalk.i64_in _ (by omega)
    go_enter Try.func87, Try.ntmps87
    go_wp2_with (simp only [w3, w4, w5])
    go_ret
    refine ⟨ret_int ?_, rfl⟩
    rw [hE.out]
    omega
  · have hE : Hid (unzig n = ((n / 2 : Nat) : Int)) := by unfold Hid unzig; rw [if_neg h]
    have t1 : ((n : Int) % 2 == 1) = false := by rw [beq_eq_false_iff_ne]; omega
    go_enter Try.func87, Try.ntmps87
    go_wp2_with (simp only [w3, w4])
    go_ret
    refine ⟨ret_int ?_, rfl⟩
    rw [hE.out]
    omega
/-- Is there a number at a place? -/
def numberB (k : Nat) : Bool := (fback k).isSome
theorem numberB_hi (k : Nat) (hk : k < 18446744073709551616) (h : 9223372036854775808 ≤ k) : numberB k = (decide (k - 9223372036854775808 ≤ 9218868437227405312) || (k - 9223372036854775808 == 9221120237041090561)) := by
  have e : funkey k = k - 9223372036854775808 := by unfold funkey fsign; rw [if_pos h]
  have hm : (k - 9223372036854775808) % 9223372036854775808 = k - 9223372036854775808 := by omega
  unfold numberB fback
  rw [e]
  by_cases h1 : k - 9223372036854775808 ≤ 9218868437227405312
  · have hc : canon (k - 9223372036854775808) = k - 9223372036854775808 := by unfold canon isNaN; rw [hm, if_neg (by simp; omega)]
    have : fkey (k - 9223372036854775808) = k := by unfold fkey fsign; rw [hc, if_neg (by omega)]; omega
    rw [if_pos this]; simp [h1]
  · have hc : canon (k - 9223372036854775808) = 9221120237041090561 := by unfold canon isNaN theNaN; rw [hm, if_pos (by simp; omega)]
    have hf : fkey (k - 9223372036854775808) = 18444492273895866369 := by unfold fkey fsign; rw [hc]; decide
    rw [hf]
    by_cases h2 : k = 18444492273895866369
    · subst h2; decide
    · rw [if_neg (by omega)]
      have : ¬ (k - 9223372036854775808 = 9221120237041090561) := by omega
      simp [h1, this]
theorem numberB_lo (k : Nat) (h : k < 9223372036854775808) : numberB k = decide (9223372036854775807 - k ≤ 9218868437227405312) := by
  have e : funkey k = 18446744073709551615 - k := by unfold funkey fsign; rw [if_neg (by omega)]
  have hm : (18446744073709551615 - k) % 9223372036854775808 = 9223372036854775807 - k := by omega
  unfold numberB fback
  rw [e]
  by_cases h1 : 9223372036854775807 - k ≤ 9218868437227405312
  · have hc : canon (18446744073709551615 - k) = 18446744073709551615 - k := by unfold canon isNaN; rw [hm, if_neg (by simp; omega)]
    have : fkey (18446744073709551615 - k) = k := by unfold fkey fsign; rw [hc, if_pos (by omega)]; omega
    rw [if_pos this]; simp [h1]
  · have hc : canon (18446744073709551615 - k) = 9221120237041090561 := by unfold canon isNaN theNaN; rw [hm, if_pos (by simp; omega)]
    have hf : fkey (18446744073709551615 - k) = 18444492273895866369 := by unfold fkey fsign; rw [hc]; decide
    rw [hf, if_neg (by omega)]; simp [h1]
theorem numberB_any (k : Nat) (hk : k < 18446744073709551616) (w : World) : Calls Try.prog 85 #[.int .u64 (k : Nat)] w fun e w' => e = .returned (.bool (numberB k)) ∧ w = w' := by
  by_cases h : 9223372036854775808 ≤ k
  · have hE := Lib.hid (numberB_hi k hk h)
    have t1 : decide ((9223372036854775808 : Int) ≤ (k : Int)) = true := decide_eq_true (by omega)
    have w1 : IntKind.u64.wrap ((k : Int) - 9223372036854775808) = (k : Int) - 9223372036854775808 := IntWalk.u64_in _ (by omega)
    have i1 : (9223372036854775808 : Int) ≤ (k : Int) := by omega
    have i2 : (k : Int) < 18446744073709551616 := by omega
    by_cases h1 : k - 9223372036854775808 ≤ 9218868437227405312
    · have t2 : decide ((k : Int) - 9223372036854775808 ≤ 9218868437227405312) = true := decide_eq_true (by omega)
      have hF : Hid (numberB k = true) := by unfold Hid; rw [hE.out]; simp [h1]
      clear hE h h1 hk
      go_enter Try.func85, Try.ntmps85
      go_wp2_with fail
      go_ret
      exact ⟨ret_bool hF.out.symm, rfl⟩
    · have t2 : decide ((k : Int) - 9223372036854775808 ≤ 9218868437227405312) = false := decide_eq_false (by omega)
      have hF : Hid (numberB k = ((k : Int) - 9223372036854775808 == 9221120237041090561)) := by
        unfold Hid; rw [hE.out, Bool.eq_iff_iff]; simp [h1]; omega
      clear hE h h1 hk
      go_enter Try.func85, Try.ntmps85
      go_wp2_with fail
      go_ret
      exact ⟨ret_bool hF.out.symm, rfl⟩
  · have hE := Lib.hid (numberB_lo k (by omega))
    have t1 : decide ((9223372036854775808 : Int) ≤ (k : Int)) = false := decide_eq_false (by omega)
    have hF : Hid (numberB k = decide ((9223372036854775807 : Int) - (k : Int) ≤ 9218868437227405312)) := by
      unfold Hid; rw [hE.out, decide_eq_decide]; omega
    clear hE
    go_enter Try.func85, Try.ntmps85
    go_wp2_with fail
    go_ret
    exact ⟨ret_bool hF.out.symm, rfl⟩
end Go.Proofs.Ytocllhghbmbjpaa
