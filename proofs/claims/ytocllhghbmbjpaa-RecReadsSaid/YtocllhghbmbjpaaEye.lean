/- Layer 2, plainly: reading of bytes that are cut off ahead. No program. -/
import Derived.Test.YtocllhghbmbjpaaPlain
set_option linter.unusedSimpArgs false
set_option linter.unusedVariables false
namespace Moi
/-- A result of bytes behind s others. -/
def shR {α : Type} (s : Nat) : RRes α → RRes α
  | .ok (x, a) => .ok (x, s + a)
  | .error (c, a) => .error (c, s + a)
theorem rOne_sh (b : List UInt8) (s a : Nat) : rOne b (s + a) = shR s (rOne (b.drop s) a) := by
  unfold rOne
  rw [List.length_drop]
  by_cases h : s + a < b.length
  · rw [if_pos h, if_pos (by omega)]
    simp only [shR, List.getD_eq_getElem?_getD, List.getElem?_drop, Nat.add_assoc]
  · rw [if_neg h, if_neg (by omega)]; rfl
theorem rUgo_sh (b : List UInt8) (s : Nat) : ∀ k i n a, rUgo b k i n (s + a) = shR s (rUgo (b.drop s) k i n a)
  | 0, i, n, a => rfl
  | k + 1, i, n, a => by
    unfold rUgo
    rw [rOne_sh]
    cases h : rOne (b.drop s) a with
    | error e => rfl
    | ok x =>
      obtain ⟨x, a1⟩ := x
      simp only [shR]
      split
      · rfl
      · split
        · exact rUgo_sh b s k (i + 1) _ a1
        · split <;> rfl
theorem rU_sh (b : List UInt8) (s : Nat) : rU b s = shR s (rU (b.drop s) 0) := rUgo_sh b s 10 0 0 0
theorem rI_sh (b : List UInt8) (s : Nat) : rI b s = shR s (rI (b.drop s) 0) := by
  unfold rI; rw [rU_sh]
  cases h : rU (b.drop s) 0 with
  | error e => rfl
  | ok x => rfl
theorem rPlaceGo_sh (b : List UInt8) (s : Nat) : ∀ i k a, rPlaceGo b i k (s + a) = shR s (rPlaceGo (b.drop s) i k a)
  | 0, k, a => rfl
  | i + 1, k, a => by
    unfold rPlaceGo
    rw [rOne_sh]
    cases h : rOne (b.drop s) a with
    | error e => rfl
    | ok x => exact rPlaceGo_sh b s i _ _
theorem rF_sh (b : List UInt8) (s : Nat) : rF b s = shR s (rF (b.drop s) 0) := by
  unfold rF; rw [show rPlaceGo b 8 0 s = _ from rPlaceGo_sh b s 8 0 0]
  cases h : rPlaceGo (b.drop s) 8 0 0 with
  | error e => rfl
  | ok x =>
    obtain ⟨k, a⟩ := x
    simp only [shR]
    cases fback k <;> rfl
theorem rS_sh (b : List UInt8) (s most : Nat) : rS most b s = shR s (rS most (b.drop s) 0) := by
  unfold rS; rw [rU_sh]
  cases h : rU (b.drop s) 0 with
  | error e => rfl
  | ok x =>
    obtain ⟨n, a⟩ := x
    simp only [shR, List.length_drop, List.drop_drop, Nat.sub_sub, Nat.zero_add]
    split
    · rfl
    · split
      · rfl
      · simp [Nat.add_assoc]
/-- How many bytes were read ahead. -/
def posR {α : Type} : RRes α → Nat
  | .ok (_, a) => a
  | .error (_, a) => a
theorem rOne_pos {b : List UInt8} {a : Nat} (h : a ≤ b.length) : posR (rOne b a) ≤ b.length := by
  unfold rOne
  split
  · simp only [posR]; omega
  · exact h
theorem rUgo_pos {b : List UInt8} : ∀ {k i n a : Nat}, a ≤ b.length → posR (rUgo b k i n a) ≤ b.length
  | 0, i, n, a, h => h
  | k + 1, i, n, a, h => by
    have h1 := rOne_pos h
    unfold rUgo
    cases e : rOne b a with
    | error e' => rw [e] at h1; exact h1
    | ok x =>
      obtain ⟨x, a1⟩ := x
      rw [e] at h1
      have h1 : a1 ≤ b.length := h1
      simp only []
      split
      · exact h1
      · split
        · exact rUgo_pos h1
        · split <;> exact h1
theorem rU_pos (b : List UInt8) : posR (rU b 0) ≤ b.length := rUgo_pos (Nat.zero_le _)
theorem rI_pos (b : List UInt8) : posR (rI b 0) ≤ b.length := by
  have h := rU_pos b
  unfold rI
  cases e : rU b 0 with
  | error e' => rw [e] at h; exact h
  | ok x => rw [e] at h; exact h
theorem rPlaceGo_pos {b : List UInt8} : ∀ {i k a : Nat}, a ≤ b.length → posR (rPlaceGo b i k a) ≤ b.length
  | 0, k, a, h => h
  | i + 1, k, a, h => by
    have h1 := rOne_pos h
    unfold rPlaceGo
    cases e : rOne b a with
    | error e' => rw [e] at h1; exact h1
    | ok x => rw [e] at h1; exact rPlaceGo_pos h1
theorem rF_pos (b : List UInt8) : posR (rF b 0) ≤ b.length := by
  have h := rPlaceGo_pos (b := b) (i := 8) (k := 0) (a := 0) (Nat.zero_le _)
  unfold rF
  cases e : rPlaceGo b 8 0 0 with
  | error e' => rw [e] at h; exact h
  | ok x =>
    obtain ⟨k, a⟩ := x
    rw [e] at h
    have h : a ≤ b.length := h
    simp only []
    cases fback k <;> exact h
theorem rS_pos (b : List UInt8) (most : Nat) : posR (rS most b 0) ≤ b.length := by
  have h := rU_pos b
  unfold rS
  cases e : rU b 0 with
  | error e' => rw [e] at h; exact h
  | ok x =>
    obtain ⟨n, a⟩ := x
    rw [e] at h
    have h : a ≤ b.length := h
    simp only []
    split
    · exact h
    · split
      · exact h
      · simp only [posR]; omega
end Moi
