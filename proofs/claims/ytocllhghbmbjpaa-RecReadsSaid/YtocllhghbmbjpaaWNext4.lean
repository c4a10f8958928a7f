/- The document's Next: parts one behind the other, whatever was told ahead of them; the plain law of lists. -/
import Derived.Test.YtocllhghbmbjpaaWNext3
set_option linter.unusedSimpArgs false
set_option linter.unusedVariables false
set_option maxRecDepth 20000
namespace Moi
/-- A reader's next step: nothing, if it has failed. -/
def nxt {α : Type} (f : Nat → RRes α) (d : α) (a er : Nat) : α × Nat × Nat :=
  if er = 0 then (match f a with
    | .ok (x, a') => (x, a', 0)
    | .error (cd, a') => (d, a', cd)) else (d, a, er)
theorem nxt_ok {α : Type} {f : Nat → RRes α} {d : α} {a a' : Nat} {x : α} (h : f a = .ok (x, a')) : nxt f d a 0 = (x, a', 0) := by
  unfold nxt; rw [if_pos rfl, h]
theorem nxt_err {α : Type} {f : Nat → RRes α} {d : α} {a a' cd : Nat} (h : f a = .error (cd, a')) : nxt f d a 0 = (d, a', cd) := by
  unfold nxt; rw [if_pos rfl, h]
theorem nxt_old {α : Type} {f : Nat → RRes α} {d : α} {a er : Nat} (h : er ≠ 0) : nxt f d a er = (d, a, er) := by
  unfold nxt; rw [if_neg h]
theorem nxt_all {α : Type} {f : Nat → RRes α} {d : α} {a er : Nat} (P : α → Prop) (hd : P d) (h : ∀ x a', f a = .ok (x, a') → P x) {x : α} {a' er' : Nat} (e : nxt f d a er = (x, a', er')) : P x := by
  unfold nxt at e
  split at e
  · split at e
    · rename_i x' a'' h1
      injection e with e1 e2; subst e1; exact h _ _ h1
    · injection e with e1 e2; subst e1; exact hd
  · injection e with e1 e2; subst e1; exact hd
theorem rPurse_nxt {bs : List UInt8} {a1 a2 a3 a4 e2 e3 e4 : Nat} {x1 x2 x3 : Int} (h1 : nxt (rI bs) 0 a1 0 = (x1, a2, e2)) (h2 : nxt (rI bs) 0 a2 e2 = (x2, a3, e3)) (h3 : nxt (rI bs) 0 a3 e3 = (x3, a4, e4)) :
    rBody 4 bs a1 = if e4 = 0 then rDone ⟨4, x3, x1, x2, 0, 0, [], []⟩ a4 else .error (e4, a4) := by
  unfold rBody
  rw [if_neg (by decide), if_neg (by decide), if_pos rfl]
  cases k1 : rI bs a1 with
  | error er =>
    obtain ⟨cd, b⟩ := er
    have hz : cd ≠ 0 := rI_nz k1
    rw [nxt_err k1] at h1; injection h1 with h h1; injection h1 with h1 h1'; subst h1; subst h1'
    rw [nxt_old hz] at h2; injection h2 with h h2; injection h2 with h2 h2'; subst h2; subst h2'
    rw [nxt_old hz] at h3; injection h3 with h h3; injection h3 with h3 h3'; subst h3; subst h3'
    simp only []; rw [if_neg hz]
  | ok y =>
    obtain ⟨y, b⟩ := y
    rw [nxt_ok k1] at h1; injection h1 with h h1; injection h1 with h1 h1'; subst h; subst h1; subst h1'
    simp only []
    cases k2 : rI bs b with
    | error er =>
      obtain ⟨cd, b'⟩ := er
      have hz : cd ≠ 0 := rI_nz k2
      rw [nxt_err k2] at h2; injection h2 with h h2; injection h2 with h2 h2'; subst h2; subst h2'
      rw [nxt_old hz] at h3; injection h3 with h h3; injection h3 with h3 h3'; subst h3; subst h3'
      simp only []; rw [if_neg hz]
    | ok y2 =>
      obtain ⟨y2, b'⟩ := y2
      rw [nxt_ok k2] at h2; injection h2 with h h2; injection h2 with h2 h2'; subst h; subst h2; subst h2'
      simp only []
      cases k3 : rI bs b' with
      | error er =>
        obtain ⟨cd, b2⟩ := er
        have hz : cd ≠ 0 := rI_nz k3
        rw [nxt_err k3] at h3; injection h3 with h h3; injection h3 with h3 h3'; subst h3; subst h3'
        simp only []; rw [if_neg hz]
      | ok y3 =>
        obtain ⟨y3, b2⟩ := y3
        rw [nxt_ok k3, Prod.mk.injEq, Prod.mk.injEq] at h3; obtain ⟨rfl, rfl, rfl⟩ := h3
        simp only []; rw [if_pos trivial]; rfl
/-- The items of a list, that come next. -/
def eGo (top : Bool) (bs : List UInt8) (k : Nat) (acc : List MItem) (a er : Nat) : RRes (List MItem) := if er = 0 then rItemsGo top bs k acc a else .error (er, a)
theorem eGo_set {bs : List UInt8} {m i a a' e' : Nat} {acc : List MItem} {x : List UInt8} (hi : i < m) (h : nxt (rS 16 bs) [] a 0 = (x, a', e')) :
    eGo false bs (m - i) acc a 0 = eGo false bs (m - (i + 1)) (acc ++ [⟨0, x⟩]) a' e' := by
  unfold eGo
  rw [if_pos rfl, show m - i = (m - (i + 1)) + 1 from by omega]
  rw [show rItemsGo false bs ((m - (i + 1)) + 1) acc a = (match rS 16 bs a with | .error e => .error e | .ok (x, a) => rItemsGo false bs (m - (i + 1)) (acc ++ [⟨0, x⟩]) a) from rfl]
  cases k1 : rS 16 bs a with
  | error er =>
    obtain ⟨cd, b⟩ := er
    have hz : cd ≠ 0 := rS_nz k1
    rw [nxt_err k1] at h; injection h with h h1; injection h1 with h1 h1'; subst h1; subst h1'
    simp only []; rw [if_neg hz]
  | ok y =>
    obtain ⟨y, b⟩ := y
    rw [nxt_ok k1] at h; injection h with h h1; injection h1 with h1 h1'; subst h; subst h1; subst h1'
    simp only []; rfl
theorem eGo_top {bs : List UInt8} {m i a a1 e1 a' e' s d : Nat} {acc : List MItem} {x : List UInt8} (hi : i < m) (h0 : nxt (rF bs) d a 0 = (s, a1, e1)) (h : nxt (rS 16 bs) [] a1 e1 = (x, a', e')) :
    eGo true bs (m - i) acc a 0 = eGo true bs (m - (i + 1)) (acc ++ [⟨s, x⟩]) a' e' := by
  unfold eGo
  rw [if_pos rfl, show m - i = (m - (i + 1)) + 1 from by omega]
  rw [show rItemsGo true bs ((m - (i + 1)) + 1) acc a = (match rF bs a with | .error e => .error e | .ok (s, a) => match rS 16 bs a with | .error e => .error e | .ok (x, a) => rItemsGo true bs (m - (i + 1)) (acc ++ [⟨s, x⟩]) a) from rfl]
  cases k0 : rF bs a with
  | error er =>
    obtain ⟨cd, b⟩ := er
    have hz : cd ≠ 0 := rF_nz k0
    rw [nxt_err k0] at h0; injection h0 with h0 h1; injection h1 with h1 h1'; subst h1; subst h1'
    rw [nxt_old hz] at h; injection h with h h1; injection h1 with h1 h1'; subst h1; subst h1'
    simp only []; rw [if_neg hz]
  | ok s' =>
    obtain ⟨s', b⟩ := s'
    rw [nxt_ok k0] at h0; injection h0 with h0 h1; injection h1 with h1 h1'; subst h0; subst h1; subst h1'
    simp only []
    cases k1 : rS 16 bs b with
    | error er =>
      obtain ⟨cd, b⟩ := er
      have hz : cd ≠ 0 := rS_nz k1
      rw [nxt_err k1] at h; injection h with h h1; injection h1 with h1 h1'; subst h1; subst h1'
      simp only []; rw [if_neg hz]
    | ok y =>
      obtain ⟨y, b⟩ := y
      rw [nxt_ok k1] at h; injection h with h h1; injection h1 with h1 h1'; subst h; subst h1; subst h1'
      simp only []; rfl
end Moi
namespace Go.Proofs.Ytocllhghbmbjpaa
open Go.RowKit Moi
attribute [local go_sem] toList_str str_size less_ltB store_float
theorem rList_nxt {bs : List UInt8} {k a1 a2 a3 e2 e3 cc m : Nat} (hk : k = 8 ∨ k = 9) (h1 : nxt (rUpto 32 bs) 0 a1 0 = (cc, a2, e2)) (h2 : nxt (rUpto 32 bs) 0 a2 e2 = (m, a3, e3)) :
    rBody k bs a1 = rListEnd k cc (eGo (decide (k = 9)) bs m [] a3 e3) := by
  unfold rBody
  rw [if_neg (by omega), if_neg (by omega), if_neg (by omega), if_neg (by omega)]
  cases k1 : rUpto 32 bs a1 with
  | error er =>
    obtain ⟨cd, b⟩ := er
    have hz : cd ≠ 0 := rUpto_nz k1
    rw [nxt_err k1] at h1; injection h1 with h h1; injection h1 with h1 h1'; subst h1; subst h1'
    rw [nxt_old hz] at h2; injection h2 with h h2; injection h2 with h2 h2'; subst h2; subst h2'
    simp only [eGo]; rw [if_neg hz]; rfl
  | ok y =>
    obtain ⟨y, b⟩ := y
    rw [nxt_ok k1] at h1; injection h1 with h h1; injection h1 with h1 h1'; subst h; subst h1; subst h1'
    simp only []
    cases k2 : rUpto 32 bs b with
    | error er =>
      obtain ⟨cd, b'⟩ := er
      have hz : cd ≠ 0 := rUpto_nz k2
      rw [nxt_err k2] at h2; injection h2 with h h2; injection h2 with h2 h2'; subst h2; subst h2'
      simp only [eGo]; rw [if_neg hz]; rfl
    | ok y2 =>
      obtain ⟨y2, b'⟩ := y2
      rw [nxt_ok k2] at h2; injection h2 with h h2; injection h2 with h2 h2'; subst h; subst h2; subst h2'
      simp only [eGo]; rfl
section
variable (p : Nat) (A : Option Addr) (n c : Nat) (bs : List UInt8) (a er : Nat) (w : World) (hE : IsE w p A n c bs a er)
include hE
theorem part_i_st (m : Int) {x : Int} {a' er' : Nat} (h : nxt (rI bs) 0 a er = (x, a', er')) : Calls Try.prog 71 #[.pointer (some ⟨p, 0, none⟩), .int .u8 105, .int .i64 m] w fun e w' =>
    (∃ (x0 x1 x3 : Int) (x4 : ByteArray) (x5 : Bool), e = .returned (.agg #[.int .u8 x0, .int .u64 x1, .int .i64 x, .int .u64 x3, .string x4, .bool x5])) ∧ IsE w' p A n c bs a' er' ∧ Kept (· = p) w w' := by
  by_cases hz : er = 0
  · subst hz
    refine (part_i p A n c bs a w hE m).mono ?_
    intro e w' hP
    cases hS : rI bs a with
    | error y =>
      obtain ⟨cd, a1⟩ := y
      rw [hS] at hP; obtain ⟨rfl, h1, h2⟩ := hP
      rw [nxt_err hS] at h; injection h with h3 h4; injection h4 with h4 h5; subst h3; subst h4; subst h5
      exact ⟨⟨_, _, _, _, _, rfl⟩, h1, h2⟩
    | ok y =>
      obtain ⟨y, a1⟩ := y
      rw [hS] at hP; obtain ⟨rfl, h1, h2⟩ := hP
      rw [nxt_ok hS] at h; injection h with h3 h4; injection h4 with h4 h5; subst h3; subst h4; subst h5
      exact ⟨⟨_, _, _, _, _, rfl⟩, h1, h2⟩
  · rw [nxt_old hz] at h; injection h with h3 h4; injection h4 with h4 h5; subst h3; subst h4; subst h5
    refine (eye_failed p A n c bs a er hz 105 m w hE).mono ?_
    rintro e w' ⟨rfl, hq⟩
    exact ⟨⟨_, _, _, _, _, rfl⟩, hE.cln hq, Kept.of_below hq⟩
theorem part_s_st (M : Nat) (hM : M ≤ 1000000) {x : List UInt8} {a' er' : Nat} (h : nxt (rS M bs) [] a er = (x, a', er')) : Calls Try.prog 71 #[.pointer (some ⟨p, 0, none⟩), .int .u8 115, .int .i64 (M : Nat)] w fun e w' =>
    (∃ (x0 x1 x2 x3 : Int) (x5 : Bool), e = .returned (.agg #[.int .u8 x0, .int .u64 x1, .int .i64 x2, .int .u64 x3, .string (str x), .bool x5])) ∧ IsE w' p A n c bs a' er' ∧ Kept (· = p) w w' := by
  by_cases hz : er = 0
  · subst hz
    refine (part_s p A n c bs a w hE M hM).mono ?_
    intro e w' hP
    cases hS : rS M bs a with
    | error y =>
      obtain ⟨cd, a1⟩ := y
      rw [hS] at hP; obtain ⟨rfl, h1, h2⟩ := hP
      rw [nxt_err hS] at h; injection h with h3 h4; injection h4 with h4 h5; subst h3; subst h4; subst h5
      exact ⟨⟨_, _, _, _, _, rfl⟩, h1, h2⟩
    | ok y =>
      obtain ⟨y, a1⟩ := y
      rw [hS] at hP; obtain ⟨rfl, h1, h2⟩ := hP
      rw [nxt_ok hS] at h; injection h with h3 h4; injection h4 with h4 h5; subst h3; subst h4; subst h5
      exact ⟨⟨_, _, _, _, _, rfl⟩, h1, h2⟩
  · rw [nxt_old hz] at h; injection h with h3 h4; injection h4 with h4 h5; subst h3; subst h4; subst h5
    refine (eye_failed p A n c bs a er hz 115 (M : Nat) w hE).mono ?_
    rintro e w' ⟨rfl, hq⟩
    exact ⟨⟨_, _, _, _, _, rfl⟩, hE.cln hq, Kept.of_below hq⟩
theorem part_f_st (m : Int) {x : Nat} {a' er' : Nat} (h : nxt (rF bs) (funkey 0) a er = (x, a', er')) : Calls Try.prog 71 #[.pointer (some ⟨p, 0, none⟩), .int .u8 102, .int .i64 m] w fun e w' =>
    (∃ (x0 x1 x2 : Int) (K : Nat) (x4 : ByteArray) (x5 : Bool), e = .returned (.agg #[.int .u8 x0, .int .u64 x1, .int .i64 x2, .int .u64 (K : Nat), .string x4, .bool x5]) ∧ K < 18446744073709551616 ∧ funkey K = x) ∧ IsE w' p A n c bs a' er' ∧ Kept (· = p) w w' := by
  by_cases hz : er = 0
  · subst hz
    refine (part_f p A n c bs a w hE m).mono ?_
    intro e w' hP
    cases hS : rF bs a with
    | error y =>
      obtain ⟨cd, a1⟩ := y
      rw [hS] at hP; obtain ⟨rfl, h1, h2⟩ := hP
      rw [nxt_err hS] at h; injection h with h3 h4; injection h4 with h4 h5; subst h3; subst h4; subst h5
      exact ⟨⟨_, _, _, 0, _, _, rfl, by decide, rfl⟩, h1, h2⟩
    | ok y =>
      obtain ⟨y, a1⟩ := y
      rw [hS] at hP; obtain ⟨rfl, h1, h2⟩ := hP
      rw [nxt_ok hS] at h; injection h with h3 h4; injection h4 with h4 h5; subst h3; subst h4; subst h5
      exact ⟨⟨_, _, _, fkey y, _, _, rfl, fkey_lt y (rF_lt hS), rF_back hS⟩, h1, h2⟩
  · rw [nxt_old hz] at h; injection h with h3 h4; injection h4 with h4 h5; subst h3; subst h4; subst h5
    refine (eye_failed p A n c bs a er hz 102 m w hE).mono ?_
    rintro e w' ⟨rfl, hq⟩
    exact ⟨⟨_, _, _, 0, _, _, rfl, by decide, rfl⟩, hE.cln hq, Kept.of_below hq⟩
theorem upto_st (M : Nat) (hM : M ≤ 1000000) {x : Nat} {a' er' : Nat} (h : nxt (rUpto M bs) 0 a er = (x, a', er')) : Calls Try.prog 69 #[.pointer (some ⟨p, 0, none⟩), .int .i64 (M : Nat)] w fun e w' =>
    e = .returned (.int .i64 (x : Nat)) ∧ IsE w' p A n c bs a' er' ∧ Kept (· = p) w w' := by
  by_cases hz : er = 0
  · subst hz
    refine (upto_new p A n c bs a M hM w hE).mono ?_
    intro e w' hP
    cases hS : rUpto M bs a with
    | error y =>
      obtain ⟨cd, a1⟩ := y
      rw [hS] at hP; obtain ⟨rfl, h1, h2⟩ := hP
      rw [nxt_err hS] at h; injection h with h3 h4; injection h4 with h4 h5; subst h3; subst h4; subst h5
      exact ⟨rfl, h1, h2⟩
    | ok y =>
      obtain ⟨y, a1⟩ := y
      rw [hS] at hP; obtain ⟨rfl, h1, h2⟩ := hP
      rw [nxt_ok hS] at h; injection h with h3 h4; injection h4 with h4 h5; subst h3; subst h4; subst h5
      exact ⟨rfl, h1, h2⟩
  · rw [nxt_old hz] at h; injection h with h3 h4; injection h4 with h4 h5; subst h3; subst h4; subst h5
    refine (upto_old p A n c bs a er hz (M : Nat) w hE).mono ?_
    rintro e w' ⟨rfl, hq⟩
    exact ⟨rfl, hE.cln hq, Kept.of_below hq⟩
end
end Go.Proofs.Ytocllhghbmbjpaa
