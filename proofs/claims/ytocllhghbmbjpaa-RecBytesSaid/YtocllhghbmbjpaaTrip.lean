/- Layers 2 and 3, plainly: what was written is read again, and what is read is just what is written of it. No program. -/
import Derived.Test.YtocllhghbmbjpaaRecErr
import Derived.Test.YtocllhghbmbjpaaRecLen
set_option linter.unusedSimpArgs false
set_option linter.unusedVariables false
namespace Moi
theorem drop_step {b l rest : List UInt8} {a : Nat} (h : b.drop a = l ++ rest) : b.drop (a + l.length) = rest := by
  rw [← List.drop_drop, h, List.drop_left]
theorem drop_lt {b rest : List UInt8} {x : UInt8} {a : Nat} (h : b.drop a = x :: rest) : a < b.length := by
  rcases Nat.lt_or_ge a b.length with h' | h'
  · exact h'
  · rw [List.drop_eq_nil_of_le h'] at h; cases h
theorem rOne_of {b rest : List UInt8} {x : UInt8} {a : Nat} (h : b.drop a = x :: rest) : rOne b a = .ok (x.toNat, a + 1) ∧ b.drop (a + 1) = rest := by
  have hl := drop_lt h
  have e : b.drop a = b[a] :: b.drop (a + 1) := List.drop_eq_getElem_cons hl
  rw [e] at h
  injection h with h1 h2
  refine ⟨?_, h2⟩
  unfold rOne
  rw [if_pos hl, List.getD_eq_getElem?_getD, List.getElem?_eq_getElem hl, Option.getD_some, h1]
theorem rOne_at {b : List UInt8} {a x a' : Nat} (h : rOne b a = .ok (x, a')) : a' = a + 1 ∧ x < 256 ∧ b.drop a = UInt8.ofNat x :: b.drop a' := by
  obtain ⟨h1, h2, h3, h4⟩ := rOne_ok h
  subst h1
  refine ⟨rfl, h3, ?_⟩
  rw [h4, UInt8.ofNat_toNat, List.getD_eq_getElem?_getD, List.getElem?_eq_getElem h2, Option.getD_some]
  exact List.drop_eq_getElem_cons h2
theorem ofNat_small {n : Nat} (h : n < 256) : (UInt8.ofNat n).toNat = n := by simp [UInt8.toNat_ofNat]; omega
theorem rUgo_of {b : List UInt8} : ∀ {k i n a m : Nat} {rest : List UInt8}, i + k = 10 → n + m * 128 ^ i < 18446744073709551616 → (0 < i → 0 < m) →
    b.drop a = wU m ++ rest → rUgo b k i n a = .ok (n + m * 128 ^ i, a + (wU m).length)
  | 0, i, n, a, m, rest, hk, hm, hp, h => by
    have : i = 10 := by omega
    subst this
    have := hp (by omega)
    have : 128 ^ 10 = 1180591620717411303424 := by decide
    rw [this] at hm
    omega
  | k + 1, i, n, a, m, rest, hk, hm, hp, h => by
    unfold rUgo
    rw [wU] at h ⊢
    have hpos : 0 < 128 ^ i := Nat.pow_pos (by omega)
    by_cases hs : m < 128
    · rw [if_pos hs] at h ⊢
      have h1 := (rOne_of h).1
      rw [ofNat_small (by omega)] at h1
      simp only [h1]
      rw [if_neg, if_neg (by omega), if_neg (by intro hh; have := hp hh.2; omega), Nat.mod_eq_of_lt hs]
      · simp
      · rintro ⟨h9, h2⟩
        subst h9
        have : (128 : Nat) ^ 9 = 9223372036854775808 := by decide
        rw [this] at hm
        omega
    · rw [if_neg hs] at h ⊢
      have h1 := rOne_of (x := UInt8.ofNat (m % 128 + 128)) (rest := wU (m / 128) ++ rest) h
      rw [ofNat_small (by omega)] at h1
      simp only [h1.1]
      have h9 : i ≠ 9 := by
        intro h9; subst h9
        have : (128 : Nat) ^ 9 = 9223372036854775808 := by decide
        rw [this] at hm
        omega
      rw [if_neg (by omega), if_pos (by omega)]
      have e : n + m * 128 ^ i = n + (m % 128 + 128) % 128 * 128 ^ i + m / 128 * 128 ^ (i + 1) := by
        have hm' : m = m % 128 + 128 * (m / 128) := by omega
        rw [show (m % 128 + 128) % 128 = m % 128 from by omega, Nat.pow_succ]
        conv => lhs; rw [hm']
        rw [Nat.add_mul, Nat.add_assoc, Nat.mul_comm (128 ^ i) 128, ← Nat.mul_assoc, Nat.mul_comm 128 (m / 128)]
      rw [rUgo_of (by omega) (by rw [← e]; exact hm) (fun _ => by omega) h1.2, ← e]
      simp only [List.length_cons]
      rw [show a + 1 + (wU (m / 128)).length = a + ((wU (m / 128)).length + 1) from by omega]
theorem rU_of {b : List UInt8} {a m : Nat} {rest : List UInt8} (hm : m < 18446744073709551616) (h : b.drop a = wU m ++ rest) :
    rU b a = .ok (m, a + (wU m).length) := by
  have := rUgo_of (b := b) (k := 10) (i := 0) (n := 0) (a := a) (m := m) (rest := rest) rfl (by simpa using hm) (by omega) h
  simpa [rU] using this
theorem rUgo_at {b : List UInt8} : ∀ {k i n a x a' : Nat}, rUgo b k i n a = .ok (x, a') → a < a' ∧ ∃ m, x = n + m * 128 ^ i ∧ (0 < i → 0 < m) ∧ b.drop a = wU m ++ b.drop a'
  | 0, i, n, a, x, a', h => by simp [rUgo] at h
  | k + 1, i, n, a, x, a', h => by
    unfold rUgo at h
    split at h
    · cases h
    · rename_i y a1 h1
      obtain ⟨e1, hy, h2⟩ := rOne_at h1
      subst e1
      split at h
      · cases h
      · split at h
        · rename_i hge
          obtain ⟨hlt, m, e, hp, hd⟩ := rUgo_at h
          have hm := hp (by omega)
          refine ⟨by omega, y % 128 + 128 * m, ?_, fun _ => by omega, ?_⟩
          · rw [e, Nat.pow_succ, Nat.add_mul, Nat.add_assoc, Nat.mul_comm (128 ^ i) 128, ← Nat.mul_assoc, Nat.mul_comm 128 m]
          · rw [h2, hd, wU.eq_def (y % 128 + 128 * m), if_neg (by omega)]
            rw [show (y % 128 + 128 * m) % 128 + 128 = y from by omega, show (y % 128 + 128 * m) / 128 = m from by omega]
            rfl
        · split at h
          · cases h
          · rename_i h3 h4
            injection h with h; injection h with e1 e2
            subst e2
            refine ⟨by omega, y, ?_, fun hi => by omega, ?_⟩
            · rw [← e1, Nat.mod_eq_of_lt (by omega)]
            · rw [h2, wU, if_pos (by omega)]; rfl
theorem rU_at {b : List UInt8} {a x a' : Nat} (h : rU b a = .ok (x, a')) : a < a' ∧ b.drop a = wU x ++ b.drop a' := by
  obtain ⟨hl, m, e, _, hd⟩ := rUgo_at h
  simp at e
  subst e
  exact ⟨hl, hd⟩
theorem rUpto_of {b : List UInt8} {a m most : Nat} {rest : List UInt8} (hm : m < 18446744073709551616) (hle : m ≤ most) (h : b.drop a = wU m ++ rest) :
    rUpto most b a = .ok (m, a + (wU m).length) := by
  unfold rUpto
  simp only [rU_of hm h]
  rw [if_neg (by omega)]
theorem rUpto_at {b : List UInt8} {a x a' most : Nat} (h : rUpto most b a = .ok (x, a')) : a < a' ∧ x ≤ most ∧ b.drop a = wU x ++ b.drop a' := by
  have hle := rUpto_le h
  unfold rUpto at h
  split at h
  · cases h
  · rename_i h1
    split at h
    · cases h
    · injection h with h; injection h with e1 e2
      subst e1; subst e2
      exact ⟨(rU_at h1).1, hle, (rU_at h1).2⟩
theorem unzig_zig (n : Int) : unzig (zig n) = n := by
  unfold zig
  by_cases h : n < 0
  · rw [if_pos h]; unfold unzig; rw [if_pos (by omega)]; omega
  · rw [if_neg h]; unfold unzig; rw [if_neg (by omega)]; omega
theorem zig_unzig (n : Nat) : zig (unzig n) = n := by
  unfold unzig
  by_cases h : n % 2 = 1
  · rw [if_pos h]; unfold zig; rw [if_pos (by omega)]; omega
  · rw [if_neg h]; unfold zig; rw [if_neg (by omega)]; omega
theorem rI_of {b : List UInt8} {a : Nat} {n : Int} {rest : List UInt8} (hn : -9223372036854775808 ≤ n ∧ n < 9223372036854775808) (h : b.drop a = wI n ++ rest) :
    rI b a = .ok (n, a + (wI n).length) := by
  unfold rI
  rw [wI] at h
  simp only [rU_of (zig_lt' n hn) h, unzig_zig]
  rfl
theorem rI_at {b : List UInt8} {a a' : Nat} {n : Int} (h : rI b a = .ok (n, a')) : a < a' ∧ b.drop a = wI n ++ b.drop a' := by
  unfold rI at h
  split at h
  · cases h
  · rename_i h1
    injection h with h; injection h with e1 e2
    subst e1; subst e2
    rw [wI, zig_unzig]
    exact rU_at h1
theorem fkey_canon (x : Nat) : fkey (canon x) = fkey x := by
  have : canon (canon x) = canon x := by
    unfold canon
    by_cases h : isNaN x = true
    · rw [if_pos h]; decide
    · rw [if_neg h, if_neg h]
  unfold fkey; rw [this]
theorem funkey_fkey (x : Nat) (hx : x < 18446744073709551616) : funkey (fkey x) = canon x := by
  have := canon_lt x hx
  unfold fkey funkey fsign at *
  split <;> split <;> omega
theorem fback_fkey (x : Nat) (hx : x < 18446744073709551616) : fback (fkey x) = some (canon x) := by
  unfold fback
  rw [funkey_fkey x hx, fkey_canon, if_pos rfl]
theorem fback_some {k x : Nat} (h : fback k = some x) : fkey x = k := by
  unfold fback at h
  split at h
  · injection h with h; subst h; assumption
  · cases h
theorem proper_same {x y : Nat} (hx : x < 18446744073709551616) (hy : y < 18446744073709551616) (px : fproper x = true) (py : fproper y = true) (h : fsame x y = true) : x = y := by
  have px := of_decide_eq_true px
  have py := of_decide_eq_true py
  have h := of_decide_eq_true h
  rw [← px, ← py, ← funkey_fkey x hx, ← funkey_fkey y hy, h]
theorem rPlaceGo_at {b : List UInt8} : ∀ {i k a x a' : Nat}, rPlaceGo b i k a = .ok (x, a') →
    a' = a + i ∧ ∃ l : List UInt8, l.length = i ∧ x = l.foldl (fun s c => s * 256 + c.toNat) k ∧ b.drop a = l ++ b.drop a'
  | 0, k, a, x, a', h => by
    injection h with h; injection h with e1 e2; subst e1; subst e2
    exact ⟨rfl, [], rfl, rfl, rfl⟩
  | i + 1, k, a, x, a', h => by
    unfold rPlaceGo at h
    split at h
    · cases h
    · rename_i y a1 h1
      obtain ⟨e1, hy, h2⟩ := rOne_at h1
      subst e1
      obtain ⟨e3, l, hl, hx, hd⟩ := rPlaceGo_at h
      refine ⟨by omega, UInt8.ofNat y :: l, by simp [hl], ?_, ?_⟩
      · rw [hx]; simp only [List.foldl_cons, ofNat_small hy]
      · rw [h2, hd]; rfl
theorem wPlace_fold {l : List UInt8} (h : l.length = 8) : wPlace (l.foldl (fun s c => s * 256 + c.toNat) 0) = l := by
  match l, h with
  | [c0, c1, c2, c3, c4, c5, c6, c7], _ =>
    have b0 := UInt8.toNat_lt c0; have b1 := UInt8.toNat_lt c1; have b2 := UInt8.toNat_lt c2; have b3 := UInt8.toNat_lt c3
    have b4 := UInt8.toNat_lt c4; have b5 := UInt8.toNat_lt c5; have b6 := UInt8.toNat_lt c6; have b7 := UInt8.toNat_lt c7
    have key : ∀ (n : Nat) (c : UInt8), n % 256 = c.toNat → UInt8.ofNat n = c := by
      intro n c hn
      apply UInt8.toNat.inj
      rw [UInt8.toNat_ofNat']
      exact hn
    simp only [List.foldl_cons, List.foldl_nil, wPlace]
    rw [key _ c0, key _ c1, key _ c2, key _ c3, key _ c4, key _ c5, key _ c6, key _ c7] <;> omega
theorem wPlace_at {b rest : List UInt8} {k a : Nat} (hk : k < 18446744073709551616) (h : b.drop a = wPlace k ++ rest) : rPlaceGo b 8 0 a = .ok (k, a + 8) := by
  unfold wPlace at h
  simp only [List.cons_append, List.nil_append] at h
  have m : ∀ n : Nat, (UInt8.ofNat n).toNat = n % 256 := fun n => UInt8.toNat_ofNat' ..
  have h0 := rOne_of h; have h1 := rOne_of h0.2; have h2 := rOne_of h1.2; have h3 := rOne_of h2.2
  have h4 := rOne_of h3.2; have h5 := rOne_of h4.2; have h6 := rOne_of h5.2; have h7 := rOne_of h6.2
  simp only [m] at h0 h1 h2 h3 h4 h5 h6 h7
  simp only [rPlaceGo, h0.1, h1.1, h2.1, h3.1, h4.1, h5.1, h6.1, h7.1, Nat.reducePow]
  congr 2
  omega
theorem rF_of {b rest : List UInt8} {x a : Nat} (hx : x < 18446744073709551616) (hp : fproper x = true) (h : b.drop a = wF x ++ rest) : rF b a = .ok (x, a + 8) := by
  unfold rF
  simp only [wPlace_at (fkey_lt x hx) h, fback_fkey x hx, of_decide_eq_true hp]
theorem rF_at {b : List UInt8} {a x a' : Nat} (h : rF b a = .ok (x, a')) : a < a' ∧ b.drop a = wF x ++ b.drop a' := by
  unfold rF at h
  split at h
  · cases h
  · rename_i k a1 h1
    obtain ⟨e1, l, hl, hx, hd⟩ := rPlaceGo_at h1
    split at h
    · cases h
    · rename_i y h2
      injection h with h; injection h with e3 e4; subst e3; subst e4
      refine ⟨by omega, ?_⟩
      rw [wF, fback_some h2, hx, wPlace_fold hl]
      exact hd
theorem rS_of {b rest s : List UInt8} {a most : Nat} (hs : s.length ≤ most) (hm : most < 18446744073709551616) (h : b.drop a = wS s ++ rest) :
    rS most b a = .ok (s, a + (wS s).length) := by
  unfold rS
  rw [wS, List.append_assoc] at h
  simp only [rU_of (Nat.lt_of_le_of_lt hs hm) h]
  have h2 := drop_step h
  have hl : s.length ≤ b.length - (a + (wU s.length).length) := by
    have := congrArg List.length h2
    simp only [List.length_drop, List.length_append] at this
    omega
  rw [if_neg (by omega), if_neg (by omega), h2, List.take_left]
  rw [wS, List.length_append, Nat.add_assoc]
theorem rS_at {b s : List UInt8} {a a' most : Nat} (h : rS most b a = .ok (s, a')) : a < a' ∧ s.length ≤ most ∧ b.drop a = wS s ++ b.drop a' := by
  unfold rS at h
  split at h
  · cases h
  · rename_i n a1 h1
    obtain ⟨hlt, hd⟩ := rU_at h1
    split at h
    · cases h
    · split at h
      · cases h
      · rename_i h2 h3
        injection h with h; injection h with e1 e2
        have hl : s.length = n := by
          rw [← e1, List.length_take, List.length_drop]; omega
        refine ⟨by omega, by omega, ?_⟩
        rw [hd, wS, hl, List.append_assoc]
        congr 1
        rw [← e1, ← e2, ← List.drop_drop, List.take_append_drop]
end Moi
