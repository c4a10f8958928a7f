/- Layer 3, plainly: how long a record's bytes may be. No program. -/
import Derived.Test.YtocllhghbmbjpaaDoorRec
set_option linter.unusedSimpArgs false
set_option linter.unusedVariables false
namespace Moi

theorem wU_len : ∀ (k n : Nat), n < 128 ^ (k + 1) → (wU n).length ≤ k + 1
  | 0, n, h => by rw [wU, if_pos (by simpa using h)]; simp
  | k + 1, n, h => by
    rw [wU]
    split
    · simp
    · have : n / 128 < 128 ^ (k + 1) := by rw [Nat.pow_succ] at h; omega
      have := wU_len k (n / 128) this
      simp; omega
theorem wU_len10 (n : Nat) (h : n < 18446744073709551616) : (wU n).length ≤ 10 := wU_len 9 n (by omega)
theorem zig_lt' (n : Int) (h : -9223372036854775808 ≤ n ∧ n < 9223372036854775808) : zig n < 18446744073709551616 := by
  unfold zig; split <;> omega
theorem wI_len (n : Int) (h : -9223372036854775808 ≤ n ∧ n < 9223372036854775808) : (wI n).length ≤ 10 := wU_len10 _ (zig_lt' n h)
theorem wS_len (s : List UInt8) (h : s.length < 18446744073709551616) : (wS s).length ≤ 10 + s.length := by
  have := wU_len10 s.length h
  unfold wS; rw [List.length_append]; omega
theorem wF_len (x : Nat) : (wF x).length = 8 := rfl

theorem itemErr_name {k : Int} {p : Option MItem} {x : MItem} (h : itemErr k p x = 0) : x.name.length ≤ 16 ∧ fproper x.score = true ∧ (k = 8 → fsame x.score 0 = true) := by
  unfold itemErr at h
  split at h
  · cases h
  · rename_i hn
    split at h
    · cases h
    · rename_i hs
      refine ⟨by omega, ?_, ?_⟩
      · cases hp : fproper x.score with
        | true => rfl
        | false => exact absurd (.inr hp) hs
      · intro hk
        cases hp : fsame x.score 0 with
        | true => rfl
        | false => exact absurd (.inl ⟨hk, hp⟩) hs
theorem itemsErr_all {k : Int} : ∀ {p : Option MItem} {l : List MItem}, itemsErr k p l = 0 → ∀ x ∈ l, x.name.length ≤ 16 ∧ fproper x.score = true ∧ (k = 8 → fsame x.score 0 = true)
  | _, [], _, x, hx => by cases hx
  | p, y :: l, h, x, hx => by
    rw [itemsErr] at h
    split at h
    · rename_i h0
      cases hx with
      | head => exact itemErr_name h0
      | tail _ hx => exact itemsErr_all h x hx
    · rename_i h0; exact absurd h h0
/-- What a record that may be is like. -/
theorem check_parts {r : MRec} (h : checkRec r = 0) :
    1 ≤ r.kind ∧ r.kind ≤ 9 ∧ bareB r (shapeOf r.kind) = true ∧ r.text.length ≤ 64 ∧
    (r.kind = 4 → -2305843009213693952 ≤ r.low ∧ r.high ≤ 2305843009213693952 ∧ r.low ≤ r.num ∧ r.num ≤ r.high) ∧ fproper r.real = true ∧
    (8 ≤ r.kind → 1 ≤ r.cap ∧ r.cap ≤ 32 ∧ (r.list.length : Int) ≤ r.cap ∧ itemsErr r.kind none r.list = 0) := by
  unfold checkRec at h
  split at h
  · cases h
  · rename_i h1
    split at h
    · cases h
    · rename_i h2
      split at h
      · cases h
      · rename_i h3
        split at h
        · cases h
        · rename_i h4
          split at h
          · cases h
          · rename_i h5
            refine ⟨by omega, by omega, by simpa using h2, by omega, fun hk => by omega, by simpa using h5, fun h8 => ?_⟩
            rw [if_neg (by omega)] at h
            split at h
            · cases h
            · split at h
              · cases h
              · exact ⟨by omega, by omega, by omega, h⟩
theorem bare_parts {r : MRec} {s : Shape} (h : bareB r s = true) :
    (s.text = false → r.text = []) ∧ (s.num = false → r.num = 0) ∧ (s.bounds = false → r.low = 0 ∧ r.high = 0) ∧ (s.real = false → fsame r.real 0 = true) ∧ (s.list = false → r.cap = 0 ∧ r.list = []) := by
  simp only [bareB, Bool.and_eq_true, Bool.or_eq_true, beq_iff_eq] at h
  obtain ⟨⟨⟨⟨h1, h2⟩, h3⟩, h4⟩, h5⟩ := h
  refine ⟨fun e => ?_, fun e => ?_, fun e => ?_, fun e => ?_, fun e => ?_⟩ <;> simp_all
theorem check_list {r : MRec} (h : checkRec r = 0) : r.list.length ≤ 32 ∧ (∀ x ∈ r.list, x.name.length ≤ 16 ∧ fproper x.score = true) := by
  obtain ⟨h1, h2, h3, h4, h5, h6, h7⟩ := check_parts h
  by_cases h8 : 8 ≤ r.kind
  · obtain ⟨a, b, c, d⟩ := h7 h8
    exact ⟨by omega, fun x hx => ⟨(itemsErr_all d x hx).1, (itemsErr_all d x hx).2.1⟩⟩
  · have := (bare_parts h3).2.2.2.2 (by simp [shapeOf]; omega)
    rw [this.2]; simp
theorem wItems_len (top : Bool) : ∀ (l : List MItem), (∀ x ∈ l, x.name.length ≤ 16) → (wItems top l).length ≤ 34 * l.length
  | [], _ => by simp [wItems]
  | x :: l, h => by
    have ih := wItems_len top l fun y hy => h y (List.mem_cons_of_mem _ hy)
    have hx := h x (List.mem_cons_self ..)
    have h1 := wS_len x.name (by omega)
    have e : wItems top (x :: l) = ((if top then wF x.score else []) ++ wS x.name) ++ wItems top l := rfl
    rw [e, List.length_append, List.length_append, List.length_cons]
    have h2 : (if top then wF x.score else []).length ≤ 8 := by split <;> simp [wF_len]
    omega
theorem wRec_len {r : MRec} (h : checkRec r = 0) (hf : r.WF) : (wRec r).length ≤ 1200 := by
  obtain ⟨h1, h2, h3, h4, h5, h6, h7⟩ := check_parts h
  obtain ⟨hl, hi⟩ := check_list h
  have hk := wU_len10 r.kind.toNat (by omega)
  have ht := wS_len r.text (by omega)
  have hn := wI_len r.num hf.num
  have hlo := wI_len r.low hf.low
  have hhi := wI_len r.high hf.high
  have hit := wItems_len (decide (r.kind = 9)) r.list fun x hx => (hi x hx).1
  have hc := check_ok h
  have hcap := wU_len10 r.cap.toNat (by omega)
  have hln := wU_len10 r.list.length (by omega)
  have hF := wF_len r.real
  unfold wRec
  rw [List.length_append]
  repeat' split
  all_goals (try simp only [List.length_append] at *); omega
end Moi
