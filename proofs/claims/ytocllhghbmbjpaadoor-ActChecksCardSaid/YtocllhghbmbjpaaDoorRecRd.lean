/- Layer 3, plainly: records that are read. No program. -/
import Derived.Test.YtocllhghbmbjpaaDoorRec
set_option linter.unusedSimpArgs false
set_option linter.unusedVariables false
namespace Moi
/-- A record that was read, if it may be. -/
def rDone (r : MRec) (a : Nat) : RRes MRec := if checkRec r = 0 then .ok (r, a) else .error (checkRec r, a)
def rItemsGo (top : Bool) (b : List UInt8) : Nat → List MItem → Nat → RRes (List MItem)
  | 0, acc, a => .ok (acc, a)
  | k + 1, acc, a =>
    match (if top then rF b a else .ok (0, a)) with
    | .error e => .error e
    | .ok (s, a) => match rS 16 b a with
      | .error e => .error e
      | .ok (x, a) => rItemsGo top b k (acc ++ [⟨s, x⟩]) a
def rBody (k : Nat) (b : List UInt8) (a : Nat) : RRes MRec :=
  if k = 1 then (match rS 64 b a with
    | .error e => .error e
    | .ok (x, a) => rDone ⟨k, 0, 0, 0, 0, 0, x, []⟩ a)
  else if k = 2 ∨ k = 3 then (match rI b a with
    | .error e => .error e
    | .ok (x, a) => rDone ⟨k, x, 0, 0, 0, 0, [], []⟩ a)
  else if k = 4 then (match rI b a with
    | .error e => .error e
    | .ok (lo, a) => match rI b a with
      | .error e => .error e
      | .ok (hi, a) => match rI b a with
        | .error e => .error e
        | .ok (x, a) => rDone ⟨k, x, lo, hi, 0, 0, [], []⟩ a)
  else if k = 5 ∨ k = 6 ∨ k = 7 then (match rF b a with
    | .error e => .error e
    | .ok (x, a) => rDone ⟨k, 0, 0, 0, x, 0, [], []⟩ a)
  else (match rUpto 32 b a with
    | .error e => .error e
    | .ok (c, a) => match rUpto 32 b a with
      | .error e => .error e
      | .ok (m, a) => match rItemsGo (decide (k = 9)) b m [] a with
        | .error e => .error e
        | .ok (l, a) => rDone ⟨k, 0, 0, 0, 0, c, [], l⟩ a)
/-- The record that comes next. -/
def rRec (b : List UInt8) (a : Nat) : RRes MRec :=
  match rUpto 9 b a with
  | .error e => .error e
  | .ok (k, a) => if k = 0 then .error (5, a) else rBody k b a
theorem rUpto_le {most : Nat} {b : List UInt8} {a x a' : Nat} (h : rUpto most b a = .ok (x, a')) : x ≤ most := by
  unfold rUpto at h
  split at h
  · cases h
  · split at h
    · cases h
    · injection h with h; injection h with h1 h2; omega
theorem unzig_lt (n : Nat) (h : n < 18446744073709551616) : -9223372036854775808 ≤ unzig n ∧ unzig n < 9223372036854775808 := by
  unfold unzig; split <;> omega
theorem rI_lt {b : List UInt8} {a : Nat} {x : Int} {a' : Nat} (h : rI b a = .ok (x, a')) : -9223372036854775808 ≤ x ∧ x < 9223372036854775808 := by
  unfold rI at h
  split at h
  · cases h
  · rename_i n a1 hu
    injection h with h; injection h with h1 h2; subst h1
    exact unzig_lt n (rU_lt hu)
theorem rPlaceGo_lt {b : List UInt8} : ∀ {i k a x a' : Nat}, i ≤ 8 → k < 256 ^ (8 - i) → rPlaceGo b i k a = .ok (x, a') → x < 18446744073709551616
  | 0, k, a, x, a', _, hk, h => by
    injection h with h; injection h with h1 h2; subst h1; simpa using hk
  | i + 1, k, a, x, a', hi, hk, h => by
    unfold rPlaceGo at h
    split at h
    · cases h
    · rename_i y a1 h1
      have hy := (rOne_ok h1).2.2.1
      refine rPlaceGo_lt (by omega) ?_ h
      rw [show 8 - i = 8 - (i + 1) + 1 from by omega, Nat.pow_succ]; omega
theorem rF_lt {b : List UInt8} {a x a' : Nat} (h : rF b a = .ok (x, a')) : x < 18446744073709551616 := by
  unfold rF at h
  split at h
  · cases h
  · rename_i k a1 h1
    have hk := rPlaceGo_lt (by omega) (by decide) h1
    split at h
    · cases h
    · rename_i y h2
      injection h with h; injection h with h3 h4; subst h3
      unfold fback at h2
      split at h2
      · injection h2 with h2; subst h2
        unfold funkey fsign; split <;> omega
      · cases h2
end Moi
