/- The walks of package flo and of the reference's layer 1. -/
import Derived.Test.YtbemnfbndjolpaaGreatDoorProg
import Derived.Test.YtbemnfbndjolpaaGreatDoorPlain
import Derived.WalkKit
import Derived.KernelRfl
import Derived.WalkLawsBesides
import Derived.Deep.QuietTactic
import Derived.BigQuiet
import Derived.Lib.Hide
set_option linter.unusedSimpArgs false
set_option linter.unusedVariables false
namespace Go.Proofs.YtbemnfbndjolpaaGreatDoor
open Go.RowKit Moi

theorem bits_run (x : Nat) (w : World) : (callFunc 107 #[.float .f64 x]).run Tryz.prog w = .ok (.value (.int .u64 x)) w := by
 rw [run_callFunc_extern (e := Extern.MathFloatBits.float64bits) Tryz.func107 (by kernel_rfl) (by kernel_rfl) (by kernel_rfl) (by kernel_rfl)]; rfl
theorem frombits_run (x : Int) (w : World) : (callFunc 95 #[.int .u64 x]).run Tryz.prog w = .ok (.value (.float .f64 x.toNat)) w := by
 rw [run_callFunc_extern (e := Extern.MathFloatBits.float64frombits) Tryz.func95 (by kernel_rfl) (by kernel_rfl) (by kernel_rfl) (by kernel_rfl)]; rfl
attribute [local go_sem] bits_run frombits_run

theorem ret_bool {a b : Bool} (h : a = b) : Ending.returned (.bool a) = .returned (.bool b) := by rw [h]
theorem ret_int {k : IntKind} {a b : Int} (h : a = b) : Ending.returned (.int k a) = .returned (.int k b) := by rw [h]
theorem beq_cast (a b : Nat) : ((a : Int) == (b : Int)) = decide (a = b) := by rw [Bool.eq_iff_iff, beq_iff_eq, decide_eq_true_iff]; omega
theorem bne_cast (a b : Nat) : ((a : Int) != (b : Int)) = !decide (a = b) := by rw [bne, beq_cast]

theorem nan_any (w : World) : Calls Tryz.prog 139 #[] w fun e w' => e = .returned (.float .f64 theNaN) ∧ w = w' := by
 go_enter Tryz.func139, Tryz.ntmps139
 go_wp2_with fail
 go_ret
 exact ⟨rfl, rfl⟩

theorem canon_any (x : Nat) (hx : x < 18446744073709551616) (w : World) :
  Calls Tryz.prog 124 #[.float .f64 x] w fun e w' => e = .returned (.float .f64 (canon x)) ∧ w = w' := by
 have hs := order_self x hx
 cases hn : isNaN x with
 | true =>
  rw [hn] at hs
  have hc : canon x = theNaN := by unfold canon; rw [hn]; rfl
  rw [hc]; clear hn hc
  go_enter Tryz.func124, Tryz.ntmps124
  go_wp2_with (go_at_call 139; refine (nan_any _).mono ?_; rintro e w' ⟨rfl, rfl⟩)
  go_ret
  exact ⟨rfl, rfl⟩
 | false =>
  rw [hn] at hs
  have hc : canon x = x := by unfold canon; rw [hn]; rfl
  rw [hc]; clear hn hc
  go_enter Tryz.func124, Tryz.ntmps124
  go_wp2_with fail
  go_ret
  exact ⟨rfl, rfl⟩

theorem key_any (x : Nat) (hx : x < 18446744073709551616) (w : World) :
  Calls Tryz.prog 136 #[.float .f64 x] w fun e w' => e = .returned (.int .u64 (fkey x)) ∧ w = w' := by
 have hc := canon_lt x hx
 by_cases h : fsign ≤ canon x
 ·have hs := sign_yes (canon x) hc h
  have hf : ((2 * fsign - 1 - canon x : Nat) : Int) = bits .xor .u64 IntKind.u64.max (canon x : Int) := by rw [bNot _ hc]; rfl
  have hk : fkey x = 2 * fsign - 1 - canon x := by unfold fkey; rw [if_pos h]
  rw [hk, hf]; clear hk hf
  go_enter Tryz.func136, Tryz.ntmps136
  go_wp2_with (go_at_call 124; refine (canon_any x hx _).mono ?_; rintro e w' ⟨rfl, rfl⟩)
  go_ret
  exact ⟨rfl, rfl⟩
 ·have hs := sign_no (canon x) hc h
  have hf : ((canon x + fsign : Nat) : Int) = bits .or .u64 (canon x : Int) 9223372036854775808 := by rw [bOr63 _ hc, if_neg (show ¬ 9223372036854775808 ≤ canon x from h)]; rfl
  have hk : fkey x = canon x + fsign := by unfold fkey; rw [if_neg h]
  rw [hk, hf]; clear hk hf
  go_enter Tryz.func136, Tryz.ntmps136
  go_wp2_with (go_at_call 124; refine (canon_any x hx _).mono ?_; rintro e w' ⟨rfl, rfl⟩)
  go_ret
  exact ⟨rfl, rfl⟩

theorem fless_any (a b : Nat) (ha : a < 18446744073709551616) (hb : b < 18446744073709551616) (w : World) :
  Calls Tryz.prog 141 #[.float .f64 a, .float .f64 b] w fun e w' => e = .returned (.bool (fless a b)) ∧ w = w' := by
 go_enter Tryz.func141, Tryz.ntmps141
 go_wp2_with fail
 refine (key_any a ha _).mono ?_; rintro e w' ⟨rfl, rfl⟩
 go_wp2_with fail
 refine (key_any b hb _).mono ?_; rintro e w' ⟨rfl, rfl⟩
 go_wp2_with fail
 go_ret
 exact ⟨rfl, rfl⟩
theorem fsame_any (a b : Nat) (ha : a < 18446744073709551616) (hb : b < 18446744073709551616) (w : World) :
  Calls Tryz.prog 122 #[.float .f64 a, .float .f64 b] w fun e w' => e = .returned (.bool (fsame a b)) ∧ w = w' := by
 go_enter Tryz.func122, Tryz.ntmps122
 go_wp2_with fail
 refine (key_any a ha _).mono ?_; rintro e w' ⟨rfl, rfl⟩
 go_wp2_with fail
 refine (key_any b hb _).mono ?_; rintro e w' ⟨rfl, rfl⟩
 go_wp2_with fail
 go_ret
 exact ⟨ret_bool (beq_cast _ _), rfl⟩
theorem fproper_any (x : Nat) (hx : x < 18446744073709551616) (w : World) :
  Calls Tryz.prog 112 #[.float .f64 x] w fun e w' => e = .returned (.bool (fproper x)) ∧ w = w' := by
 go_enter Tryz.func112, Tryz.ntmps112
 go_wp2_with fail
 refine (canon_any x hx _).mono ?_; rintro e w' ⟨rfl, rfl⟩
 go_wp2_with fail
 go_ret
 exact ⟨ret_bool ((beq_cast _ _).trans (by unfold fproper; rw [Bool.eq_iff_iff, decide_eq_true_iff, decide_eq_true_iff]; exact eq_comm)), rfl⟩

def backVal (k : Nat) : Value := match fback k with | some x => .tuple #[.float .f64 x, .bool true] | none => .tuple #[.float .f64 0, .bool false]
theorem back_any (k : Nat) (hk : k < 18446744073709551616) (w : World) :
  Calls Tryz.prog 117 #[.int .u64 k] w fun e w' => e = .returned (backVal k) ∧ w = w' := by
 have hu : funkey k < 18446744073709551616 := by unfold funkey fsign; split <;> omega
 have hv : backVal k = if fkey (funkey k) = k then .tuple #[.float .f64 (funkey k), .bool true] else .tuple #[.float .f64 0, .bool false] := by
  unfold backVal fback
  split <;> rename_i h <;> split at h <;> simp_all
 rw [hv]; clear hv
 have hA := Lib.hid (bAndNot63 k hk)
 have hN := Lib.hid (bNot k hk)
 by_cases he : fkey (funkey k) = k
 ·rw [if_pos he]
  have hb : ((fkey (funkey k) : Int) != (k : Int)) = false := by rw [bne_cast, he]; simp
  clear he
  by_cases h : fsign ≤ k
  ·have hs := sign_yes k hk h
   have hf : k % 9223372036854775808 = funkey k := by unfold funkey; rw [if_pos h]; unfold fsign at *; omega
   have hF := Lib.hid hf; clear hf
   go_enter Tryz.func117, Tryz.ntmps117
   go_wp2_with fail
   simp only [hA.out, Int.toNat_natCast, hF.out]
   refine (key_any _ hu _).mono ?_; rintro e w' ⟨rfl, rfl⟩
   go_wp2_with fail
   go_ret2
   exact ⟨rfl, rfl⟩
  ·have hs := sign_no k hk h
   have hf : 18446744073709551615 - k = funkey k := by unfold funkey; rw [if_neg h]; unfold fsign at *; omega
   have hF := Lib.hid hf; clear hf
   go_enter Tryz.func117, Tryz.ntmps117
   go_wp2_with fail
   simp only [hN.out, Int.toNat_natCast, hF.out]
   refine (key_any _ hu _).mono ?_; rintro e w' ⟨rfl, rfl⟩
   go_wp2_with fail
   go_ret2
   exact ⟨rfl, rfl⟩
 ·rw [if_neg he]
  have hb : ((fkey (funkey k) : Int) != (k : Int)) = true := by rw [bne_cast, decide_eq_false he]; rfl
  clear he
  by_cases h : fsign ≤ k
  ·have hs := sign_yes k hk h
   have hf : k % 9223372036854775808 = funkey k := by unfold funkey; rw [if_pos h]; unfold fsign at *; omega
   have hF := Lib.hid hf; clear hf
   go_enter Tryz.func117, Tryz.ntmps117
   go_wp2_with fail
   simp only [hA.out, Int.toNat_natCast, hF.out]
   refine (key_any _ hu _).mono ?_; rintro e w' ⟨rfl, rfl⟩
   go_wp2_with fail
   go_ret2
   exact ⟨rfl, rfl⟩
  ·have hs := sign_no k hk h
   have hf : 18446744073709551615 - k = funkey k := by unfold funkey; rw [if_neg h]; unfold fsign at *; omega
   have hF := Lib.hid hf; clear hf
   go_enter Tryz.func117, Tryz.ntmps117
   go_wp2_with fail
   simp only [hN.out, Int.toNat_natCast, hF.out]
   refine (key_any _ hu _).mono ?_; rintro e w' ⟨rfl, rfl⟩
   go_wp2_with fail
   go_ret2
   exact ⟨rfl, rfl⟩

/-! The reference's layer 1. -/
theorem none_any (x : Nat) (hx : x < 18446744073709551616) (w : World) :
  Calls Tryz.prog 106 #[.float .f64 x] w fun e w' => e = .returned (.bool (isNaN x)) ∧ w = w' := by
 have hs := Lib.hid (order_self x hx)
 go_enter Tryz.func106, Tryz.ntmps106
 go_wp2_with fail
 go_ret
 exact ⟨ret_bool hs.out, rfl⟩
theorem ord_zero (x : Nat) (hx : x < 18446744073709551616) (hn : isNaN x = false) :
  (FloatKind.f64.format.order x 0 == some Ordering.eq) = decide (sval x = 0) ∧ (FloatKind.f64.format.order x 0 == some Ordering.lt) = decide (sval x < 0) := by
 rw [order_num x 0 hx (by omega) hn (by decide), show sval 0 = 0 from rfl]
 unfold ford
 by_cases h1 : sval x < 0
 ·rw [if_pos h1, decide_eq_true h1, decide_eq_false (by omega)]; exact ⟨rfl, rfl⟩
 ·rw [if_neg h1, decide_eq_false h1]
  by_cases h2 : sval x = 0
  ·rw [if_pos h2, decide_eq_true h2]; exact ⟨rfl, rfl⟩
  ·rw [if_neg h2, decide_eq_false h2]; exact ⟨rfl, rfl⟩
theorem ord_less (x y : Nat) (hx : x < 18446744073709551616) (hy : y < 18446744073709551616) (hn : isNaN x = false) (hm : isNaN y = false) :
  (FloatKind.f64.format.order x y == some Ordering.lt) = decide (sval x < sval y) := by
 rw [order_num x y hx hy hn hm]
 unfold ford
 by_cases h1 : sval x < sval y
 ·rw [if_pos h1, decide_eq_true h1]; rfl
 ·rw [if_neg h1, decide_eq_false h1]
  split <;> rfl
theorem sval_zero (x : Nat) (h : sval x = 0) : x = 0 ∨ x = 9223372036854775808 := by
 unfold sval at h; split at h <;> omega
theorem below_any (x : Nat) (hx : x < 18446744073709551616) (hn : isNaN x = false) (w : World) :
  Calls Tryz.prog 119 #[.float .f64 x] w fun e w' => e = .returned (.bool (fbelow x)) ∧ w = w' := by
 obtain ⟨h1, h2⟩ := ord_zero x hx hn
 by_cases hz : sval x = 0
 ·rw [decide_eq_true hz] at h1
  clear h2
  rcases sval_zero x hz with rfl | rfl
  ·have hop : ∀ t w, (binOp .quo t (.float .f64 4607182418800017408) (.float .f64 0)).run Tryz.prog w = .ok (.float .f64 9218868437227405312) w := fun t w => run_float_arith w .quo t .f64 _ _ _ (by decide +kernel)
   clear hz hn hx
   have h3 : (FloatKind.f64.format.order 9218868437227405312 0 == some Ordering.lt) = false := by decide +kernel
   go_enter Tryz.func119, Tryz.ntmps119
   go_wp2_with (simp only [hop])
   go_ret
   exact ⟨rfl, rfl⟩
  ·have hop : ∀ t w, (binOp .quo t (.float .f64 4607182418800017408) (.float .f64 9223372036854775808)).run Tryz.prog w = .ok (.float .f64 18442240474082181120) w := fun t w => run_float_arith w .quo t .f64 _ _ _ (by decide +kernel)
   clear hz hn hx
   have h3 : (FloatKind.f64.format.order 18442240474082181120 0 == some Ordering.lt) = true := by decide +kernel
   go_enter Tryz.func119, Tryz.ntmps119
   go_wp2_with (simp only [hop])
   go_ret
   exact ⟨ret_bool (by decide +kernel), rfl⟩
 ·rw [decide_eq_false hz] at h1
  have h2' := Lib.hid h2; clear h2
  have hz' := Lib.hid hz; clear hz
  go_enter Tryz.func119, Tryz.ntmps119
  go_wp2_with fail
  go_ret
  refine ⟨ret_bool (h2'.out.trans ?_), rfl⟩
  have hz := hz'.out
  unfold fbelow; rw [hn, Bool.eq_iff_iff]; unfold sval at *
  simp only [decide_eq_true_iff, Bool.and_eq_true, Bool.not_false, and_true]
  split <;> rename_i h <;> simp only [h, if_true, if_false] at hz <;> omega
theorem rless_any (a b : Nat) (ha : a < 18446744073709551616) (hb : b < 18446744073709551616) (w : World) :
  Calls Tryz.prog 105 #[.float .f64 a, .float .f64 b] w fun e w' => e = .returned (.bool (fless a b)) ∧ w = w' := by
 have hp := Lib.hid (less_place a b ha hb)
 cases na : isNaN a with
 | true =>
  go_enter Tryz.func105, Tryz.ntmps105
  go_wp2_with (go_at_call 106; refine (none_any a ha _).mono ?_; rintro e w' ⟨rfl, rfl⟩)
  go_ret
  exact ⟨ret_bool (by rw [hp.out, na]; rfl), rfl⟩
 | false =>
  cases nb : isNaN b with
  | true =>
   go_enter Tryz.func105, Tryz.ntmps105
   go_wp2_with fail
   refine (none_any a ha _).mono ?_; rintro e w' ⟨rfl, rfl⟩
   go_wp2_with fail
   refine (none_any b hb _).mono ?_; rintro e w' ⟨rfl, rfl⟩
   go_wp2_with fail
   go_ret
   exact ⟨ret_bool (by rw [hp.out, na, nb]; rfl), rfl⟩
  | false =>
   have na' := Lib.hid na
   have nb' := Lib.hid nb
   obtain ⟨za, -⟩ := ord_zero a ha na
   obtain ⟨zb, -⟩ := ord_zero b hb nb
   have hl := Lib.hid (ord_less a b ha hb na nb)
   by_cases ea : sval a = 0
   ·rw [decide_eq_true ea] at za
    by_cases eb : sval b = 0
    ·rw [decide_eq_true eb] at zb
     have hq : fless a b = (fbelow a && !fbelow b) := by rw [hp.out, na, nb]; simp only [Bool.false_eq_true, if_false]; rw [if_pos ⟨ea, eb⟩]
     rw [hq]; clear hq hp ea eb
     cases hba : fbelow a with
     | true =>
      go_enter Tryz.func105, Tryz.ntmps105
      go_wp2_with fail
      refine (none_any a ha _).mono ?_; rintro e w' ⟨rfl, rfl⟩
      go_wp2_with fail
      refine (none_any b hb _).mono ?_; rintro e w' ⟨rfl, rfl⟩
      go_wp2_with fail
      refine (below_any a ha na'.out _).mono ?_; rintro e w' ⟨rfl, rfl⟩
      go_wp2_with fail
      refine (below_any b hb nb'.out _).mono ?_; rintro e w' ⟨rfl, rfl⟩
      go_wp2_with fail
      go_ret
      exact ⟨ret_bool (by simp), rfl⟩
     | false =>
      go_enter Tryz.func105, Tryz.ntmps105
      go_wp2_with fail
      refine (none_any a ha _).mono ?_; rintro e w' ⟨rfl, rfl⟩
      go_wp2_with fail
      refine (none_any b hb _).mono ?_; rintro e w' ⟨rfl, rfl⟩
      go_wp2_with fail
      refine (below_any a ha na'.out _).mono ?_; rintro e w' ⟨rfl, rfl⟩
      go_wp2_with fail
      go_ret
      exact ⟨ret_bool (by simp), rfl⟩
    ·rw [decide_eq_false eb] at zb
     have hq : fless a b = decide (sval a < sval b) := by rw [hp.out, na, nb]; simp only [Bool.false_eq_true, if_false]; rw [if_neg (fun h => eb h.2)]
     rw [hq]; clear hq hp ea eb
     go_enter Tryz.func105, Tryz.ntmps105
     go_wp2_with fail
     refine (none_any a ha _).mono ?_; rintro e w' ⟨rfl, rfl⟩
     go_wp2_with fail
     refine (none_any b hb _).mono ?_; rintro e w' ⟨rfl, rfl⟩
     go_wp2_with fail
     go_ret
     exact ⟨ret_bool hl.out, rfl⟩
   ·rw [decide_eq_false ea] at za
    have hq : fless a b = decide (sval a < sval b) := by rw [hp.out, na, nb]; simp only [Bool.false_eq_true, if_false]; rw [if_neg (fun h => ea h.1)]
    rw [hq]; clear hq hp ea zb
    go_enter Tryz.func105, Tryz.ntmps105
    go_wp2_with fail
    refine (none_any a ha _).mono ?_; rintro e w' ⟨rfl, rfl⟩
    go_wp2_with fail
    refine (none_any b hb _).mono ?_; rintro e w' ⟨rfl, rfl⟩
    go_wp2_with fail
    go_ret
    exact ⟨ret_bool hl.out, rfl⟩
theorem rsame_any (a b : Nat) (ha : a < 18446744073709551616) (hb : b < 18446744073709551616) (w : World) :
  Calls Tryz.prog 79 #[.float .f64 a, .float .f64 b] w fun e w' => e = .returned (.bool (fsame a b)) ∧ w = w' := by
 have hp := Lib.hid (same_less a b)
 cases h : fless a b with
 | true =>
  go_enter Tryz.func79, Tryz.ntmps79
  go_wp2_with fail
  refine (rless_any a b ha hb _).mono ?_; rintro e w' ⟨rfl, rfl⟩
  go_wp2_with fail
  go_ret
  exact ⟨ret_bool (by rw [hp.out, h]; simp), rfl⟩
 | false =>
  go_enter Tryz.func79, Tryz.ntmps79
  go_wp2_with fail
  refine (rless_any a b ha hb _).mono ?_; rintro e w' ⟨rfl, rfl⟩
  go_wp2_with fail
  refine (rless_any b a hb ha _).mono ?_; rintro e w' ⟨rfl, rfl⟩
  go_wp2_with fail
  go_ret
  exact ⟨ret_bool (by rw [hp.out, h]; simp), rfl⟩
theorem zero_any (x : Nat) (hx : x < 18446744073709551616) (w : World) :
  Calls Tryz.prog 120 #[.float .f64 x] w fun e w' => e = .returned (.bool (fsame x 0)) ∧ w = w' := by
 go_enter Tryz.func120, Tryz.ntmps120
 go_wp2_with fail
 refine (rsame_any x 0 hx (by omega) _).mono ?_; rintro e w' ⟨rfl, rfl⟩
 go_wp2_with fail
 go_ret
 exact ⟨rfl, rfl⟩
theorem rproper_any (x : Nat) (hx : x < 18446744073709551616) (w : World) :
  Calls Tryz.prog 81 #[.float .f64 x] w fun e w' => e = .returned (.bool (fproper x)) ∧ w = w' := by
 have hp : fproper x = (!isNaN x || decide (x = 9221120237041090561)) := by
  unfold fproper canon theNaN
  cases isNaN x
  ·simp
  ·simp only [if_true, Bool.not_true, Bool.false_or]; rw [Bool.eq_iff_iff, decide_eq_true_iff, decide_eq_true_iff]; exact eq_comm
 rw [hp]; clear hp
 cases h : isNaN x with
 | true =>
  go_enter Tryz.func81, Tryz.ntmps81
  go_wp2_with fail
  refine (none_any x hx _).mono ?_; rintro e w' ⟨rfl, rfl⟩
  go_wp2_with fail
  go_ret
  exact ⟨ret_bool (by rw [Bool.eq_iff_iff]; simp; omega), rfl⟩
 | false =>
  go_enter Tryz.func81, Tryz.ntmps81
  go_wp2_with fail
  refine (none_any x hx _).mono ?_; rintro e w' ⟨rfl, rfl⟩
  go_wp2_with fail
  go_ret
  exact ⟨ret_bool (by simp), rfl⟩
theorem place_any (x : Nat) (hx : x < 18446744073709551616) (w : World) :
  Calls Tryz.prog 115 #[.float .f64 x] w fun e w' => e = .returned (.int .u64 (fkey x)) ∧ w = w' := by
 cases h : isNaN x with
 | true =>
  have hk := Lib.hid (fkey_nan x h)
  go_enter Tryz.func115, Tryz.ntmps115
  go_wp2_with fail
  refine (none_any x hx _).mono ?_; rintro e w' ⟨rfl, rfl⟩
  go_wp2_with fail
  go_ret
  exact ⟨ret_int (by rw [hk.out]; decide +kernel), rfl⟩
 | false =>
  have hk := Lib.hid (fkey_num x hx h)
  by_cases hb : 9223372036854775808 ≤ x
  ·have hg : ((9223372036854775808 : Int) ≤ (x : Int)) := by omega
   have hb' := Lib.hid hb; clear hb
   have hx2 : (x : Int) < 18446744073709551616 := by omega
   go_enter Tryz.func115, Tryz.ntmps115
   go_wp2_with fail
   refine (none_any x hx _).mono ?_; rintro e w' ⟨rfl, rfl⟩
   go_wp2_with fail
   go_ret
   exact ⟨ret_int (by rw [hk.out, if_pos hb'.out]; omega), rfl⟩
  ·have hg : decide ((9223372036854775808 : Int) ≤ (x : Int)) = false := decide_eq_false (by omega)
   have hw : IntKind.u64.wrap (9223372036854775808 + (x : Int)) = (fkey x : Int) := by rw [hk.out, if_neg hb, IntKind.wrap_u64]; omega
   have hb' := Lib.hid hb; clear hb
   go_enter Tryz.func115, Tryz.ntmps115
   go_wp2_with fail
   refine (none_any x hx _).mono ?_; rintro e w' ⟨rfl, rfl⟩
   go_wp2_with fail
   go_ret
   exact ⟨rfl, rfl⟩
end Go.Proofs.YtbemnfbndjolpaaGreatDoor
