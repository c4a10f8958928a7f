/- Layer 3, plainly: better is a strict order. No program. -/
import Derived.Test.YtocllhghbmbjpaaRec
set_option linter.unusedSimpArgs false
namespace Moi
theorem ltB_irr : ∀ l : List UInt8, ltB l l = false
  | [] => rfl
  | a :: l => by
    have h := ltB_irr l
    have e : ¬ a < a := by rw [UInt8.lt_iff_toNat_lt]; omega
    simp [ltB, h, e]
theorem ltB_trans : ∀ {a b c : List UInt8}, ltB a b = true → ltB b c = true → ltB a c = true
  | _, [], _, h, _ => by cases ‹List UInt8› <;> simp [ltB] at h
  | _, _ :: _, [], _, h => by simp [ltB] at h
  | [], _ :: _, _ :: _, _, _ => rfl
  | a :: l, b :: m, c :: n, h, k => by
    simp only [ltB, Bool.or_eq_true, decide_eq_true_eq, Bool.and_eq_true, beq_iff_eq] at h k ⊢
    rcases h with h | ⟨rfl, h⟩
    · rcases k with k | ⟨rfl, k⟩
      · left; rw [UInt8.lt_iff_toNat_lt] at *; omega
      · exact .inl h
    · rcases k with k | ⟨rfl, k⟩
      · exact .inl k
      · exact .inr ⟨rfl, ltB_trans h k⟩
theorem ltB_asym {a b : List UInt8} (h : ltB a b = true) : ltB b a = false := by
  cases h2 : ltB b a with
  | false => rfl
  | true => have := ltB_trans h h2; rw [ltB_irr] at this; cases this
theorem better_iff (a b : MItem) : better a b = true ↔ (fkey b.score < fkey a.score ∨ fkey a.score = fkey b.score ∧ ltB a.name b.name = true) := by
  unfold better fsame fless
  by_cases h : fkey a.score = fkey b.score
  · simp [h]
  · simp [h]
theorem better_irr (a : MItem) : better a a = false := by
  cases h : better a a with
  | false => rfl
  | true => rw [better_iff, ltB_irr] at h; simp at h
theorem better_trans {a b c : MItem} (h : better a b = true) (k : better b c = true) : better a c = true := by
  rw [better_iff] at *
  rcases h with h | ⟨h, h2⟩
  · left; rcases k with k | ⟨k, _⟩ <;> omega
  · rcases k with k | ⟨k, k2⟩
    · left; omega
    · exact .inr ⟨h.trans k, ltB_trans h2 k2⟩
theorem better_asym {a b : MItem} (h : better a b = true) : better b a = false := by
  cases h2 : better b a with
  | false => rfl
  | true => have := better_trans h h2; rw [better_irr] at this; cases this
/-- What the law asks of it. -/
theorem better_law (a b c : MItem) : (better a b && better b a) = false ∧ better a a = false ∧ ((!better a b || !better b c || better a c) = true) := by
  refine ⟨?_, better_irr a, ?_⟩
  · cases h : better a b with
    | false => rfl
    | true => rw [better_asym h]; rfl
  · cases h : better a b with
    | false => rfl
    | true =>
      cases k : better b c with
      | false => rfl
      | true => rw [better_trans h k]; rfl
end Moi
