/- Plain facts on 64-bit floating numbers by their bits: the one order, its keys, and the comparisons of the model. No program. -/
import GoSem.Core.Float
import Ieee.Arith
set_option linter.unusedSimpArgs false
set_option linter.unusedVariables false
namespace Moi
open Go Ieee

/-- Is it no number? -/
def isNaN (x : Nat) : Bool := decide (9218868437227405312 < x % 9223372036854775808)
/-- The one NaN. -/
def theNaN : Nat := 9221120237041090561
def canon (x : Nat) : Nat := if isNaN x then theNaN else x
def fsign : Nat := 9223372036854775808
/-- The place in the order. -/
def fkey (x : Nat) : Nat := if fsign ≤ canon x then 2 * fsign - 1 - canon x else canon x + fsign
/-- The bits of a place. -/
def funkey (k : Nat) : Nat := if fsign ≤ k then k - fsign else 2 * fsign - 1 - k
def fback (k : Nat) : Option Nat := if fkey (funkey k) = k then some (funkey k) else none
def fless (a b : Nat) : Bool := decide (fkey a < fkey b)
def fsame (a b : Nat) : Bool := decide (fkey a = fkey b)
def fproper (x : Nat) : Bool := decide (canon x = x)

/-- A number's rung, with its sign. -/
def sval (x : Nat) : Int := if x < 9223372036854775808 then (x : Int) else -((x - 9223372036854775808 : Nat) : Int)

/-- The size of a rung, in units of the least place. -/
def mag (r : Nat) : Nat := if r < 4503599627370496 then r else (4503599627370496 + r % 4503599627370496) * 2 ^ (r / 4503599627370496 - 1)

theorem mag_succ (r : Nat) : mag r < mag (r + 1) := by
  unfold mag
  by_cases h1 : r + 1 < 4503599627370496
  · rw [if_pos (by omega), if_pos h1]; omega
  · rw [if_neg h1]
    by_cases h2 : r < 4503599627370496
    · have : r + 1 = 4503599627370496 := by omega
      rw [if_pos h2, this]; simp; omega
    · rw [if_neg h2]
      by_cases h3 : r % 4503599627370496 + 1 < 4503599627370496
      · have e1 : (r + 1) % 4503599627370496 = r % 4503599627370496 + 1 := by omega
        have e2 : (r + 1) / 4503599627370496 = r / 4503599627370496 := by omega
        rw [e1, e2]
        exact Nat.mul_lt_mul_of_pos_right (by omega) (Nat.two_pow_pos _)
      · have e1 : (r + 1) % 4503599627370496 = 0 := by omega
        obtain ⟨q, hq⟩ : ∃ q, r / 4503599627370496 = q + 1 := ⟨r / 4503599627370496 - 1, by omega⟩
        have e2 : (r + 1) / 4503599627370496 = q + 2 := by omega
        have e3 : r % 4503599627370496 = 4503599627370495 := by omega
        rw [e1, e2, e3, hq]
        have hp := Nat.two_pow_pos q
        rw [show q + 2 - 1 = q + 1 from rfl, show q + 1 - 1 = q from rfl, Nat.pow_succ]
        generalize 2 ^ q = p at hp
        omega

theorem mag_lt {a b : Nat} (h : a < b) : mag a < mag b := by
  obtain ⟨d, rfl⟩ : ∃ d, b = a + d + 1 := ⟨b - a - 1, by omega⟩
  clear h
  induction d with
  | zero => exact mag_succ a
  | succ d ih => exact Nat.lt_trans ih (mag_succ _)

theorem mag_zero : mag 0 = 0 := rfl

/-- The size with its sign. -/
def smag (neg : Bool) (r : Nat) : Int := if neg then -(mag r : Int) else (mag r : Int)
def srung (neg : Bool) (r : Nat) : Int := if neg then -(r : Int) else (r : Int)

theorem smag_lt (s t : Bool) (a b : Nat) : smag s a < smag t b ↔ srung s a < srung t b := by
  have key : ∀ a b, mag a < mag b ↔ a < b := fun a b => ⟨fun h => by
    rcases Nat.lt_or_ge a b with h' | h'
    · exact h'
    · rcases Nat.lt_or_eq_of_le h' with h2 | h2
      · have := mag_lt h2; omega
      · subst h2; omega, mag_lt⟩
  have z : ∀ a, 0 < mag a ↔ 0 < a := fun a => by have := key 0 a; rwa [mag_zero] at this
  have h1 := key a b; have h2 := key b a; have za := z a; have zb := z b
  unfold smag srung
  cases s <;> cases t <;> simp only [if_true, if_false, Bool.false_eq_true] <;> omega

theorem smag_eq (s t : Bool) (a b : Nat) : smag s a = smag t b ↔ srung s a = srung t b := by
  have h1 := smag_lt s t a b
  have h2 := smag_lt t s b a
  omega

def ford (a b : Int) : Ordering := if a < b then .lt else if a = b then .eq else .gt
theorem compare_ford (a b : Int) : compare a b = ford a b := rfl
theorem ford_mul (a b c : Int) (hc : 0 < c) : ford (a * c) (b * c) = ford a b := by
  have h1 : a * c < b * c ↔ a < b := Int.mul_lt_mul_right hc
  have h2 : a * c = b * c ↔ a = b := Int.mul_eq_mul_right_iff (by omega)
  unfold ford
  simp only [h1, h2]

theorem signed_shift (s : Bool) (m k : Nat) : signed s m k = (signed s m 0) * (2 ^ k : Nat) := by
  unfold signed
  rw [Nat.shiftLeft_eq, Nat.shiftLeft_eq]
  cases s <;> simp [Int.natCast_mul, Int.neg_mul]

theorem signed_split (s : Bool) (m a k : Nat) : signed s m (a + k) = signed s m a * (2 ^ k : Nat) := by
  rw [signed_shift, signed_shift s m a, Int.mul_assoc, ← Int.natCast_mul, Nat.pow_add]

/-- What a word of a number reads as. -/
theorem read_number (x : Nat) (hx : x < 18446744073709551616) (hf : x % 9223372036854775808 < 9218868437227405312) :
    ∃ m k, double.read x = .number (decide (9223372036854775808 ≤ x)) m (-1074 + (k : Nat)) ∧ m * 2 ^ k = mag (x % 9223372036854775808) := by
  have hneg : (x / 9223372036854775808 % 2 == 1) = decide (9223372036854775808 ≤ x) := by
    rw [Bool.eq_iff_iff]; simp; omega
  unfold Format.read
  have w1 : double.signWeight = 9223372036854775808 := rfl
  have w2 : double.binade = 4503599627370496 := rfl
  have w3 : double.infRung = 9218868437227405312 := by decide
  have w4 : double.leastPlace = -1074 := by decide
  simp only [w1, w2, w3, w4, hneg]
  generalize x % 9223372036854775808 = r at hf ⊢
  by_cases h : r < 4503599627370496
  · refine ⟨r, 0, by rw [if_pos h]; simp, ?_⟩
    unfold mag; rw [if_pos h]; simp
  · refine ⟨4503599627370496 + r % 4503599627370496, r / 4503599627370496 - 1, by rw [if_neg h, if_pos hf], ?_⟩
    unfold mag; rw [if_neg h]

theorem read_inf (x : Nat) (hx : x < 18446744073709551616) (hf : x % 9223372036854775808 = 9218868437227405312) :
    double.read x = .infinity (decide (9223372036854775808 ≤ x)) := by
  have hneg : (x / 9223372036854775808 % 2 == 1) = decide (9223372036854775808 ≤ x) := by
    rw [Bool.eq_iff_iff]; simp; omega
  unfold Format.read
  have w1 : double.signWeight = 9223372036854775808 := rfl
  have w2 : double.binade = 4503599627370496 := rfl
  have w3 : double.infRung = 9218868437227405312 := by decide
  have w4 : double.leastPlace = -1074 := by decide
  simp only [w1, w2, w3, w4, hneg]
  rw [if_neg (by omega), if_neg (by omega), if_pos hf]

theorem read_nan (x : Nat) (hx : x < 18446744073709551616) (hf : 9218868437227405312 < x % 9223372036854775808) :
    ∃ s t, double.read x = .nan s t := by
  unfold Format.read
  have w1 : double.signWeight = 9223372036854775808 := rfl
  have w2 : double.binade = 4503599627370496 := rfl
  have w3 : double.infRung = 9218868437227405312 := by decide
  simp only [w1, w2, w3]
  rw [if_neg (by omega), if_neg (by omega), if_neg (by omega)]
  exact ⟨_, _, rfl⟩

theorem sval_srung (x : Nat) (hx : x < 18446744073709551616) : sval x = srung (decide (9223372036854775808 ≤ x)) (x % 9223372036854775808) := by
  unfold sval srung
  by_cases h : x < 9223372036854775808
  · rw [if_pos h, if_neg (by simp; omega)]; omega
  · rw [if_neg h, if_pos (by simp; omega)]; omega

/-- How two numbers stand to each other. -/
theorem order_num (x y : Nat) (hx : x < 18446744073709551616) (hy : y < 18446744073709551616) (nx : isNaN x = false) (ny : isNaN y = false) :
    FloatKind.f64.format.order x y = some (ford (sval x) (sval y)) := by
  have nx' : x % 9223372036854775808 ≤ 9218868437227405312 := by simpa [isNaN] using nx
  have ny' : y % 9223372036854775808 ≤ 9218868437227405312 := by simpa [isNaN] using ny
  rw [sval_srung x hx, sval_srung y hy]
  show Datum.order (double.read x) (double.read y) = _
  rcases Nat.lt_or_eq_of_le nx' with hx1 | hx1 <;> rcases Nat.lt_or_eq_of_le ny' with hy1 | hy1
  · obtain ⟨m, k, e1, em⟩ := read_number x hx hx1
    obtain ⟨n, l, e2, en⟩ := read_number y hy hy1
    generalize decide (9223372036854775808 ≤ x) = s at *
    generalize decide (9223372036854775808 ≤ y) = t at *
    generalize x % 9223372036854775808 = rx at *
    generalize y % 9223372036854775808 = ry at *
    rw [e1, e2]
    simp only [Datum.order, compare_ford]
    congr 1
    have hS : ∀ (s : Bool) (m k r : Nat), m * 2 ^ k = mag r → signed s m k = smag s r := by
      intro s m k r h
      unfold signed smag
      rw [Nat.shiftLeft_eq, h]
    have a1 := hS s m k rx em
    have a2 := hS t n l ry en
    have hord : ford (smag s rx) (smag t ry) = ford (srung s rx) (srung t ry) := by
      unfold ford; simp only [smag_lt, smag_eq]
    rw [← hord, ← a1, ← a2]
    rcases Nat.le_total k l with hkl | hkl
    · have b : min (-1074 + (k : Int)) (-1074 + (l : Int)) = -1074 + (k : Int) := by omega
      rw [b, show (-1074 + (k : Int) - (-1074 + (k : Int))).toNat = 0 from by omega, show (-1074 + (l : Int) - (-1074 + (k : Int))).toNat = l - k from by omega]
      have c1 : signed s m k = signed s m 0 * (2 ^ k : Nat) := signed_shift s m k
      have c2 : signed t n l = signed t n (l - k) * (2 ^ k : Nat) := by
        rw [← signed_split]; congr 1; omega
      rw [c1, c2, ford_mul _ _ _ (by have := Nat.two_pow_pos k; omega)]
    · have b : min (-1074 + (k : Int)) (-1074 + (l : Int)) = -1074 + (l : Int) := by omega
      rw [b, show (-1074 + (k : Int) - (-1074 + (l : Int))).toNat = k - l from by omega, show (-1074 + (l : Int) - (-1074 + (l : Int))).toNat = 0 from by omega]
      have c1 : signed t n l = signed t n 0 * (2 ^ l : Nat) := signed_shift t n l
      have c2 : signed s m k = signed s m (k - l) * (2 ^ l : Nat) := by
        rw [← signed_split]; congr 1; omega
      rw [c1, c2, ford_mul _ _ _ (by have := Nat.two_pow_pos l; omega)]
  · obtain ⟨m, k, e1, em⟩ := read_number x hx hx1
    rw [e1, read_inf y hy hy1, hy1]
    generalize decide (9223372036854775808 ≤ y) = t
    generalize decide (9223372036854775808 ≤ x) = s
    generalize x % 9223372036854775808 = r at hx1
    simp only [Datum.order, ford, srung]
    cases s <;> cases t <;> simp only [if_true, if_false, Bool.false_eq_true]
    · rw [if_pos (by omega)]
    · rw [if_neg (by omega), if_neg (by omega)]
    · rw [if_pos (by omega)]
    · rw [if_neg (by omega), if_neg (by omega)]
  · obtain ⟨m, k, e1, em⟩ := read_number y hy hy1
    rw [e1, read_inf x hx hx1, hx1]
    generalize decide (9223372036854775808 ≤ y) = t
    generalize decide (9223372036854775808 ≤ x) = s
    generalize y % 9223372036854775808 = r at hy1
    simp only [Datum.order, ford, srung]
    cases s <;> cases t <;> simp only [if_true, if_false, Bool.false_eq_true]
    · rw [if_neg (by omega), if_neg (by omega)]
    · rw [if_neg (by omega), if_neg (by omega)]
    · rw [if_pos (by omega)]
    · rw [if_pos (by omega)]
  · rw [read_inf x hx hx1, read_inf y hy hy1, hx1, hy1]
    simp only [Datum.order, ford, srung]
    by_cases h2 : 9223372036854775808 ≤ y <;> by_cases h3 : 9223372036854775808 ≤ x <;> simp [h2, h3] <;> rfl

theorem order_nan_l (x y : Nat) (hx : x < 18446744073709551616) (nx : isNaN x = true) : FloatKind.f64.format.order x y = none := by
  obtain ⟨s, t, e⟩ := read_nan x hx (by simpa [isNaN] using nx)
  show Datum.order (double.read x) (double.read y) = _
  rw [e]; cases double.read y <;> rfl
theorem order_nan_r (x y : Nat) (hy : y < 18446744073709551616) (ny : isNaN y = true) : FloatKind.f64.format.order x y = none := by
  obtain ⟨s, t, e⟩ := read_nan y hy (by simpa [isNaN] using ny)
  show Datum.order (double.read x) (double.read y) = _
  rw [e]; cases double.read x <;> rfl

theorem order_self (x : Nat) (hx : x < 18446744073709551616) : (FloatKind.f64.format.order x x != some Ordering.eq) = isNaN x := by
  cases h : isNaN x with
  | true => rw [order_nan_l x x hx h]; rfl
  | false => rw [order_num x x hx hx h h]; simp [ford]

/-- Below nought, or the nought that is. -/
def fbelow (x : Nat) : Bool := decide (9223372036854775808 ≤ x) && !isNaN x

theorem canon_lt (x : Nat) (hx : x < 18446744073709551616) : canon x < 18446744073709551616 := by
  unfold canon theNaN; split <;> omega

theorem fkey_lt (x : Nat) (hx : x < 18446744073709551616) : fkey x < 18446744073709551616 := by
  have := canon_lt x hx
  unfold fkey fsign; split <;> omega

theorem fkey_num (x : Nat) (hx : x < 18446744073709551616) (h : isNaN x = false) : fkey x = if 9223372036854775808 ≤ x then 18446744073709551615 - x else x + 9223372036854775808 := by
  unfold fkey canon fsign; rw [h]; simp
theorem fkey_nan (x : Nat) (h : isNaN x = true) : fkey x = 18444492273895866369 := by
  unfold fkey canon fsign theNaN; rw [h]; simp

/-- The order by values is the order by places. -/
theorem less_place (a b : Nat) (ha : a < 18446744073709551616) (hb : b < 18446744073709551616) :
    fless a b = if isNaN a then false else if isNaN b then true else
      if sval a = 0 ∧ sval b = 0 then (fbelow a && !fbelow b) else decide (sval a < sval b) := by
  unfold fless
  cases na : isNaN a with
  | true =>
    simp only [if_true]
    rw [fkey_nan a na, decide_eq_false_iff_not]
    cases nb : isNaN b with
    | true => rw [fkey_nan b nb]; omega
    | false =>
      have : b % 9223372036854775808 ≤ 9218868437227405312 := by simpa [isNaN] using nb
      rw [fkey_num b hb nb]; split <;> omega
  | false =>
    have na' : a % 9223372036854775808 ≤ 9218868437227405312 := by simpa [isNaN] using na
    simp only [Bool.false_eq_true, if_false]
    cases nb : isNaN b with
    | true =>
      simp only [if_true]
      rw [fkey_nan b nb, decide_eq_true_iff, fkey_num a ha na]; split <;> omega
    | false =>
      have nb' : b % 9223372036854775808 ≤ 9218868437227405312 := by simpa [isNaN] using nb
      simp only [Bool.false_eq_true, if_false]
      rw [fkey_num a ha na, fkey_num b hb nb]
      unfold fbelow sval
      rw [na, nb]
      by_cases h1 : 9223372036854775808 ≤ a <;> by_cases h2 : 9223372036854775808 ≤ b
      · rw [if_neg (show ¬ a < 9223372036854775808 by omega), if_neg (show ¬ b < 9223372036854775808 by omega), if_pos h1, if_pos h2]
        simp only [h1, h2, decide_true, Bool.not_false, Bool.and_true, Bool.not_true, Bool.and_false]
        split
        · rw [decide_eq_false_iff_not]; omega
        · rw [Bool.eq_iff_iff, decide_eq_true_iff, decide_eq_true_iff]; omega
      · rw [if_neg (show ¬ a < 9223372036854775808 by omega), if_pos (show b < 9223372036854775808 by omega), if_pos h1, if_neg h2]
        simp only [h1, h2, decide_true, decide_false, Bool.not_false, Bool.and_true, Bool.not_true, Bool.and_false, Bool.false_and]
        split
        · rw [decide_eq_true_iff]; omega
        · rw [Bool.eq_iff_iff, decide_eq_true_iff, decide_eq_true_iff]; omega
      · rw [if_pos (show a < 9223372036854775808 by omega), if_neg (show ¬ b < 9223372036854775808 by omega), if_neg h1, if_pos h2]
        simp only [h1, h2, decide_true, decide_false, Bool.not_false, Bool.and_true, Bool.not_true, Bool.and_false, Bool.false_and]
        split
        · rw [decide_eq_false_iff_not]; omega
        · rw [Bool.eq_iff_iff, decide_eq_true_iff, decide_eq_true_iff]; omega
      · rw [if_pos (show a < 9223372036854775808 by omega), if_pos (show b < 9223372036854775808 by omega), if_neg h1, if_neg h2]
        simp only [h1, h2, decide_true, decide_false, Bool.not_false, Bool.and_true, Bool.not_true, Bool.and_false, Bool.false_and]
        split
        · rw [decide_eq_false_iff_not]; omega
        · rw [Bool.eq_iff_iff, decide_eq_true_iff, decide_eq_true_iff]; omega

theorem same_less (a b : Nat) : fsame a b = (!fless a b && !fless b a) := by
  unfold fsame fless
  rw [Bool.eq_iff_iff]; simp; omega
end Moi
