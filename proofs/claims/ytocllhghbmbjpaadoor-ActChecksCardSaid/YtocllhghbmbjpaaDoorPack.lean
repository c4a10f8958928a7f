/- Layer 2, plainly: what is read and what is written, as functions of lists of bytes. No program. -/
import Derived.Test.YtocllhghbmbjpaaDoorFlo
set_option linter.unusedSimpArgs false
set_option linter.unusedVariables false
namespace Moi

/-- An error's number, and how many bytes were read ahead. -/
abbrev RErr := Nat × Nat
abbrev RRes (α : Type) := Except RErr (α × Nat)

def rOne (b : List UInt8) (a : Nat) : RRes Nat := if a < b.length then .ok ((b.getD a 0).toNat, a + 1) else .error (2, a)
/-- A number, from its i-th byte on; the first argument bounds the rounds. -/
def rUgo (b : List UInt8) : Nat → Nat → Nat → Nat → RRes Nat
  | 0, _, _, a => .error (1, a)
  | k + 1, i, n, a =>
    match rOne b a with
    | .error e => .error e
    | .ok (x, a) =>
      if i = 9 ∧ 1 < x then .error (1, a)
      else if 128 ≤ x then rUgo b k (i + 1) (n + (x % 128) * 128 ^ i) a
      else if x = 0 ∧ 0 < i then .error (4, a)
      else .ok (n + (x % 128) * 128 ^ i, a)
def rU (b : List UInt8) (a : Nat) : RRes Nat := rUgo b 10 0 0 a
def rUpto (most : Nat) (b : List UInt8) (a : Nat) : RRes Nat :=
  match rU b a with
  | .error e => .error e
  | .ok (n, a) => if most < n then .error (1, a) else .ok (n, a)
def unzig (n : Nat) : Int := if n % 2 = 1 then -(n / 2 : Nat) - 1 else (n / 2 : Nat)
def rI (b : List UInt8) (a : Nat) : RRes Int :=
  match rU b a with
  | .error e => .error e
  | .ok (n, a) => .ok (unzig n, a)
def rPlaceGo (b : List UInt8) : Nat → Nat → Nat → RRes Nat
  | 0, k, a => .ok (k, a)
  | i + 1, k, a =>
    match rOne b a with
    | .error e => .error e
    | .ok (x, a) => rPlaceGo b i (k * 256 + x) a
def rF (b : List UInt8) (a : Nat) : RRes Nat :=
  match rPlaceGo b 8 0 a with
  | .error e => .error e
  | .ok (k, a) => match fback k with
    | none => .error (4, a)
    | some x => .ok (x, a)
def rS (most : Nat) (b : List UInt8) (a : Nat) : RRes (List UInt8) :=
  match rU b a with
  | .error e => .error e
  | .ok (n, a) => if most < n then .error (3, a) else if b.length - a < n then .error (2, a) else .ok ((b.drop a).take n, a + n)
def rFlag (b : List UInt8) (a : Nat) : RRes Bool :=
  match rOne b a with
  | .error e => .error e
  | .ok (x, a) => if 1 < x then .error (4, a) else .ok (decide (x = 1), a)
def rEnd (b : List UInt8) (a : Nat) : RRes Unit := if a < b.length then .error (3, a) else .ok ((), a)

def wU (n : Nat) : List UInt8 := if n < 128 then [UInt8.ofNat n] else UInt8.ofNat (n % 128 + 128) :: wU (n / 128)
def zig (n : Int) : Nat := if n < 0 then 2 * (-(n + 1)).toNat + 1 else 2 * n.toNat
def wI (n : Int) : List UInt8 := wU (zig n)
def wPlace (k : Nat) : List UInt8 := [UInt8.ofNat (k / 2 ^ 56), UInt8.ofNat (k / 2 ^ 48), UInt8.ofNat (k / 2 ^ 40), UInt8.ofNat (k / 2 ^ 32), UInt8.ofNat (k / 2 ^ 24), UInt8.ofNat (k / 2 ^ 16), UInt8.ofNat (k / 2 ^ 8), UInt8.ofNat k]
def wF (x : Nat) : List UInt8 := wPlace (fkey x)
def wS (s : List UInt8) : List UInt8 := wU s.length ++ s
def wFlag (b : Bool) : List UInt8 := [if b then 1 else 0]

theorem rOne_ok {b : List UInt8} {a x a' : Nat} (h : rOne b a = .ok (x, a')) : a' = a + 1 ∧ a < b.length ∧ x < 256 ∧ x = (b.getD a 0).toNat := by
  unfold rOne at h
  split at h
  · injection h with h; injection h with h1 h2
    subst h1; subst h2
    exact ⟨rfl, by assumption, UInt8.toNat_lt _, rfl⟩
  · cases h
theorem rOne_err {b : List UInt8} {a : Nat} {e : RErr} (h : rOne b a = .error e) : e = (2, a) ∧ b.length ≤ a := by
  unfold rOne at h
  split at h
  · cases h
  · injection h with h; subst h; exact ⟨rfl, by omega⟩
theorem rUgo_lt (b : List UInt8) : ∀ (k i n a x a' : Nat), i + k = 10 → n < 128 ^ i → rUgo b k i n a = .ok (x, a') → x < 18446744073709551616
  | 0, _, _, _, _, _, _, _, h => by simp [rUgo] at h
  | k + 1, i, n, a, x, a', hk, hn, h => by
    unfold rUgo at h
    split at h
    · cases h
    · rename_i y a1 h1
      have hy := (rOne_ok h1).2.2.1
      have hm : (y % 128) * 128 ^ i ≤ 127 * 128 ^ i := Nat.mul_le_mul_right _ (by omega)
      have hp : 128 ^ (i + 1) = 128 ^ i * 128 := Nat.pow_succ ..
      split at h
      · cases h
      · rename_i h9
        split at h
        · exact rUgo_lt b k (i + 1) _ _ _ _ (by omega) (by rw [hp]; omega) h
        · split at h
          · cases h
          · injection h with h; injection h with h2 h3
            subst h2
            by_cases hi : i = 9
            · subst hi
              have hz : y % 128 ≤ 1 := by omega
              have := Nat.mul_le_mul_right (128 ^ 9) hz
              omega
            · have : 128 ^ (i + 1) ≤ 128 ^ 9 := Nat.pow_le_pow_right (by omega) (by omega)
              omega
theorem rU_lt {b : List UInt8} {a x a' : Nat} (h : rU b a = .ok (x, a')) : x < 18446744073709551616 := rUgo_lt b 10 0 0 a x a' rfl (by omega) h
end Moi
