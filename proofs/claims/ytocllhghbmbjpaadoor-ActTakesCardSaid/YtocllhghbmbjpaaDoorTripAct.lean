/- Layer 4, plainly: acts there and back. -/
import Derived.Test.YtocllhghbmbjpaaDoorWAct5
import Derived.Test.YtocllhghbmbjpaaDoorPlain
set_option linter.unusedSimpArgs false
set_option linter.unusedVariables false
set_option maxRecDepth 20000
namespace Go.Proofs.YtocllhghbmbjpaaDoor
open Moi
structure FullA (a : MAct) : Prop where
  wf : a.WF
  sc : ∀ x ∈ a.make.list, x.score < 18446744073709551616
/-- An act with no record but where it has one. -/
def norm (a : MAct) : MAct := ⟨a.kind, a.key, a.n, a.x, a.s, if a.kind = 1 then a.make else zeroRec, a.must⟩
theorem rFlag_of {b rest : List UInt8} {m : Bool} {a : Nat} (h : b.drop a = wFlag m ++ rest) : rFlag b a = .ok (m, a + 1) := by
  obtain ⟨h1, _⟩ := rOne_of (x := if m then 1 else 0) h
  unfold rFlag
  rw [h1]
  cases m <;> rfl
theorem rFlag_at {b : List UInt8} {m : Bool} {a a' : Nat} (h : rFlag b a = .ok (m, a')) : a < a' ∧ b.drop a = wFlag m ++ b.drop a' := by
  unfold rFlag at h
  split at h
  · cases h
  · rename_i x a1 h1
    obtain ⟨e1, e2, e3⟩ := rOne_at h1
    split at h
    · cases h
    · rename_i h2
      injection h with h; injection h with h3 h4
      subst h3; subst h4
      refine ⟨by omega, ?_⟩
      rw [e3]
      have : x = 0 ∨ x = 1 := by omega
      rcases this with rfl | rfl <;> rfl
section
variable {b rest : List UInt8} {c : Bool} {a a' : Nat}
theorem optI_of {n : Int} (hn : -9223372036854775808 ≤ n ∧ n < 9223372036854775808) (h0 : c = false → n = 0) (h : b.drop a = (if c then wI n else []) ++ rest) :
    (if c then rI b a else .ok (0, a)) = .ok (n, a + (if c then wI n else []).length) := by
  cases c with
  | true => exact rI_of hn h
  | false => rw [h0 rfl]; rfl
theorem optF_of {x : Nat} (hx : x < 18446744073709551616) (hp : fproper x = true) (h0 : c = false → x = 0) (h : b.drop a = (if c then wF x else []) ++ rest) :
    (if c then rF b a else .ok (0, a)) = .ok (x, a + (if c then wF x else []).length) := by
  cases c with
  | true => exact rF_of hx hp h
  | false => rw [h0 rfl]; rfl
theorem optS_of {s : List UInt8} {most : Nat} (hs : s.length ≤ most) (hm : most < 18446744073709551616) (h0 : c = false → s = []) (h : b.drop a = (if c then wS s else []) ++ rest) :
    (if c then rS most b a else .ok ([], a)) = .ok (s, a + (if c then wS s else []).length) := by
  cases c with
  | true => exact rS_of hs hm h
  | false => rw [h0 rfl]; rfl
theorem optR_of {r : MRec} (hc : c = true → checkRec r = 0) (hf : r.Full) (h : b.drop a = (if c then wRec r else []) ++ rest) :
    (if c then rRec b a else .ok (zeroRec, a)) = .ok (if c then r else zeroRec, a + (if c then wRec r else []).length) := by
  cases c with
  | true => exact rRec_of (hc rfl) hf h
  | false => rfl
theorem optI_at {n : Int} (h : (if c then rI b a else .ok (0, a)) = .ok (n, a')) : a ≤ a' ∧ b.drop a = (if c then wI n else []) ++ b.drop a' := by
  cases c with
  | true => have := rI_at h; exact ⟨by omega, this.2⟩
  | false => injection h with h; injection h with h1 h2; subst h2; exact ⟨Nat.le_refl _, rfl⟩
theorem optF_at {n : Nat} (h : (if c then rF b a else .ok (0, a)) = .ok (n, a')) : a ≤ a' ∧ b.drop a = (if c then wF n else []) ++ b.drop a' := by
  cases c with
  | true => have := rF_at h; exact ⟨by omega, this.2⟩
  | false => injection h with h; injection h with h1 h2; subst h2; exact ⟨Nat.le_refl _, rfl⟩
theorem optS_at {n : List UInt8} {most : Nat} (h : (if c then rS most b a else .ok ([], a)) = .ok (n, a')) : a ≤ a' ∧ b.drop a = (if c then wS n else []) ++ b.drop a' := by
  cases c with
  | true => have := rS_at h; exact ⟨by omega, this.2.2⟩
  | false => injection h with h; injection h with h1 h2; subst h2; exact ⟨Nat.le_refl _, rfl⟩
theorem optR_at {r : MRec} (h : (if c then rRec b a else .ok (zeroRec, a)) = .ok (r, a')) : a ≤ a' ∧ b.drop a = (if c then wRec r else []) ++ b.drop a' ∧ (c = false → r = zeroRec) := by
  cases c with
  | true => have := rRec_at h; exact ⟨by omega, this.2.2, fun e => by cases e⟩
  | false => injection h with h; injection h with h1 h2; subst h2; exact ⟨Nat.le_refl _, rfl, fun _ => h1.symm⟩
end
theorem norm_check {a : MAct} (h : checkAct a = 0) : checkAct (norm a) = 0 := by
  by_cases hk : a.kind = 1
  · have : norm a = a := by unfold norm; rw [if_pos hk]
    rw [this]; exact h
  · obtain ⟨h1, h2, h3, h4, hb, h6, h7, h8⟩ := act_ok h
    have hm : hasF a.kind 109 = false := by
      obtain ⟨k, e⟩ : ∃ k : Nat, a.kind = (k : Int) := ⟨a.kind.toNat, by omega⟩
      rw [e, hasF_109 k (by omega)]; exact decide_eq_false (by omega)
    have hb' : bareA (norm a) = true := by
      unfold bareA at hb ⊢
      unfold norm
      rw [if_neg hk]
      simp only [Bool.and_eq_true] at hb ⊢
      refine ⟨hb.1, ?_⟩
      rw [hm]
      decide
    unfold checkAct at h ⊢
    rw [if_neg (by omega), if_neg (by omega), if_neg (by rw [hb]; decide)] at h
    rw [if_neg (by unfold norm; dsimp only; omega), if_neg (by unfold norm; dsimp only; omega), if_neg (by rw [hb']; decide)]
    unfold norm
    dsimp only
    simp only [if_neg hk] at h ⊢
    exact h
theorem norm_same (a : MAct) (h : checkAct a = 0) : sameAct (norm a) a = true := by
  by_cases hk : a.kind = 1
  · have : norm a = a := by unfold norm; rw [if_pos hk]
    rw [this]; simp [sameAct, fsame, sameRec_refl]
  · rcases act_make h with ⟨h1, _⟩ | ⟨_, h2⟩
    · exact absurd h1 hk
    · have h3 : sameRec zeroRec a.make = true := by
        simp only [sameRec, Bool.and_eq_true, beq_iff_eq] at h2 ⊢
        obtain ⟨⟨⟨⟨⟨⟨⟨e1, e2⟩, e3⟩, e4⟩, e5⟩, e6⟩, e7⟩, e8⟩ := h2
        refine ⟨⟨⟨⟨⟨⟨⟨e1.symm, e2.symm⟩, e3.symm⟩, e4.symm⟩, ?_⟩, e6.symm⟩, e7.symm⟩, ?_⟩
        · unfold fsame at e5 ⊢; simp at e5 ⊢; exact e5.symm
        · cases hl : a.make.list with
          | nil => rfl
          | cons x l => rw [hl] at e8; cases e8
      unfold norm sameAct
      rw [if_neg hk]
      simp [fsame, h3]
theorem rAct_of {b rest : List UInt8} {a : MAct} {p : Nat} (hc : checkAct a = 0) (hf : FullA a) (h : b.drop p = wAct a ++ rest) :
    rAct b p = .ok (norm a, p + (wAct a).length) := by
  obtain ⟨h1, h2, h3, h4, hb, h6, h7, h8⟩ := act_ok hc
  obtain ⟨k, e⟩ : ∃ k : Nat, a.kind = (k : Int) := ⟨a.kind.toNat, by omega⟩
  have hm := hasF_109 k (by omega)
  have hb' := hb
  unfold bareA at hb'
  simp only [Bool.and_eq_true, Bool.or_eq_true] at hb'
  obtain ⟨⟨⟨b1, b2⟩, b3⟩, b4⟩ := hb'
  rw [e] at b1 b2 b3 b4 h6
  have hlen : (wAct a).length = (wU k).length + ((wFlag a.must).length + ((wS a.key).length + ((if hasF k 110 then wI a.n else []).length + ((if hasF k 120 then wF a.x else []).length + ((if hasF k 115 then wS a.s else []).length + (if hasF k 109 then wRec a.make else []).length))))) := by
    unfold wAct; rw [e, Int.toNat_natCast]; simp only [List.length_append]
  have hw : wAct a ++ rest = wU k ++ (wFlag a.must ++ (wS a.key ++ ((if hasF k 110 then wI a.n else []) ++ ((if hasF k 120 then wF a.x else []) ++ ((if hasF k 115 then wS a.s else []) ++ ((if hasF k 109 then wRec a.make else []) ++ rest)))))) := by
    unfold wAct; rw [e, Int.toNat_natCast]; simp only [List.append_assoc]
  rw [hw] at h
  rw [hlen]
  have eU := rUpto_of (most := 21) (by omega) (by omega) h
  have dU := drop_step h
  have eF : rFlag b (p + (wU k).length) = .ok (a.must, p + (wU k).length + (wFlag a.must).length) := rFlag_of dU
  have dF := drop_step dU
  have eK := rS_of (most := 24) h4 (by omega) dF
  have dK := drop_step dF
  have eN := optI_of (c := hasF k 110) hf.wf.n (fun hz => by rw [hz] at b1; simpa using b1) dK
  have dN := drop_step dK
  have eX := optF_of (c := hasF k 120) hf.wf.x h7 (fun hz => by rw [hz] at b2; exact zero_score hf.wf.x h7 (by simpa using b2)) dN
  have dX := drop_step dN
  have eS := optS_of (c := hasF k 115) h6 (by unfold mostOf; split <;> omega) (fun hz => by rw [hz] at b3; simpa using b3) dX
  have dS := drop_step dX
  have eR := optR_of (c := hasF k 109) (fun hz => h8 (by rw [hm] at hz; have := of_decide_eq_true hz; omega)) ⟨hf.wf.make, hf.sc⟩ dS
  unfold rAct
  simp only [eU]
  rw [if_neg (by omega)]
  unfold aMust
  simp only [eF]
  unfold aKey
  simp only [eK]
  unfold aN
  simp only [eN]
  unfold aX
  simp only [eX]
  unfold aS
  simp only [eS]
  unfold aM
  simp only [eR]
  have hx : (⟨(k : Int), a.key, a.n, a.x, a.s, if hasF k 109 then a.make else zeroRec, a.must⟩ : MAct) = norm a := by
    unfold norm; rw [hm, ← e]
    by_cases hk : a.kind = 1
    · rw [if_pos hk, if_pos (by rw [decide_eq_true_iff]; omega)]
    · rw [if_neg hk, if_neg (by rw [decide_eq_true_iff]; omega)]
  rw [hx]
  unfold aDone
  rw [if_pos (norm_check hc)]
  simp only [Nat.add_assoc]
theorem aDone_at {x x' : MAct} {a a' : Nat} (h : aDone x a = .ok (x', a')) : x' = x ∧ a' = a ∧ checkAct x = 0 := by
  unfold aDone at h
  split at h
  · rename_i h1; injection h with h; injection h with h2 h3; exact ⟨h2.symm, h3.symm, h1⟩
  · cases h
theorem rAct_at {b : List UInt8} {x : MAct} {a a' : Nat} (h : rAct b a = .ok (x, a')) : a < a' ∧ checkAct x = 0 ∧ b.drop a = wAct x ++ b.drop a' := by
  unfold rAct at h
  split at h
  · cases h
  rename_i k a1 h1
  obtain ⟨l1, n1, d1⟩ := rUpto_at h1
  split at h
  · cases h
  rename_i hk0
  unfold aMust at h
  split at h
  · cases h
  rename_i must a2 h2
  obtain ⟨l2, d2⟩ := rFlag_at h2
  unfold aKey at h
  split at h
  · cases h
  rename_i key a3 h3
  obtain ⟨l3, n3, d3⟩ := rS_at h3
  unfold aN at h
  split at h
  · cases h
  rename_i n a4 h4
  obtain ⟨l4, d4⟩ := optI_at h4
  unfold aX at h
  split at h
  · cases h
  rename_i xx a5 h5
  obtain ⟨l5, d5⟩ := optF_at h5
  unfold aS at h
  split at h
  · cases h
  rename_i s a6 h6
  obtain ⟨l6, d6⟩ := optS_at h6
  unfold aM at h
  split at h
  · cases h
  rename_i m a7 h7
  obtain ⟨l7, d7, _⟩ := optR_at h7
  obtain ⟨e1, e2, e3⟩ := aDone_at h
  subst e1; subst e2
  refine ⟨by omega, e3, ?_⟩
  unfold wAct
  dsimp only
  rw [Int.toNat_natCast, d1, d2, d3, d4, d5, d6, d7]
  simp only [List.append_assoc]
/-- What was written of an act is read as this act. -/
theorem readAct_wAct {a : MAct} (hc : checkAct a = 0) (hf : FullA a) : readAct (wAct a) = (norm a, (0, 0)) := by
  have h := rAct_of (b := wAct a) (rest := []) (p := 0) hc hf (by simp)
  unfold readAct
  simp only [h]
  simp [rEnd]
/-- What is read as an act is what is written of it. -/
theorem readAct_at {b : List UInt8} {r : MAct} {e : RErr} (h : readAct b = (r, e)) (he : e.1 = 0) : checkAct r = 0 ∧ wAct r = b ∧ e = (0, 0) := by
  unfold readAct at h
  split at h
  · rename_i e' h1
    injection h with h2 h3; subst h3
    exact absurd he (rAct_nz h1)
  · rename_i r' a h1
    obtain ⟨l1, c, d⟩ := rAct_at h1
    split at h
    · rename_i e' h2
      injection h with h3 h4; subst h4
      exact absurd he (rEnd_nz h2)
    · rename_i h2
      injection h with h3 h4; subst h3; subst h4
      refine ⟨c, ?_, rfl⟩
      unfold rEnd at h2
      split at h2
      · cases h2
      · rw [List.drop_zero, List.drop_eq_nil_of_le (by omega), List.append_nil] at d
        exact d.symm
theorem sameAct_refl (a : MAct) : sameAct a a = true := by simp [sameAct, fsame, sameRec_refl]
theorem wAct_norm (a : MAct) (h : checkAct a = 0) : wAct (norm a) = wAct a := by
  obtain ⟨h1, h2, _⟩ := act_ok h
  obtain ⟨k, e⟩ : ∃ k : Nat, a.kind = (k : Int) := ⟨a.kind.toNat, by omega⟩
  have hm := hasF_109 k (by omega)
  unfold wAct norm
  dsimp only
  rw [e, hm]
  by_cases hk : k = 1
  · subst hk; rfl
  · rw [show decide (k = 1) = false from decide_eq_false hk]; rfl
theorem fsame_eu {r a b : Nat} (h : fsame r a = true) (k : fsame r b = true) : fsame a b = true := by
  have h := of_decide_eq_true h; have k := of_decide_eq_true k
  exact decide_eq_true (h.symm.trans k)
theorem sameItems_eu : ∀ {r a b : List MItem}, sameItems r a = true → sameItems r b = true → sameItems a b = true
  | [], [], [], _, _ => rfl
  | [], [], _ :: _, _, k => by cases k
  | [], _ :: _, _, h, _ => by cases h
  | _ :: _, [], _, h, _ => by cases h
  | _ :: _, _ :: _, [], _, k => by cases k
  | x :: r, y :: a, z :: b, h, k => by
    simp only [sameItems, Bool.and_eq_true, beq_iff_eq] at h k ⊢
    exact ⟨⟨h.1.1.symm.trans k.1.1, fsame_eu h.1.2 k.1.2⟩, sameItems_eu h.2 k.2⟩
theorem sameRec_eu {r a b : MRec} (h : sameRec r a = true) (k : sameRec r b = true) : sameRec a b = true := by
  simp only [sameRec, Bool.and_eq_true, beq_iff_eq] at h k ⊢
  obtain ⟨⟨⟨⟨⟨⟨⟨h1, h2⟩, h3⟩, h4⟩, h5⟩, h6⟩, h7⟩, h8⟩ := h
  obtain ⟨⟨⟨⟨⟨⟨⟨k1, k2⟩, k3⟩, k4⟩, k5⟩, k6⟩, k7⟩, k8⟩ := k
  exact ⟨⟨⟨⟨⟨⟨⟨h1.symm.trans k1, h2.symm.trans k2⟩, h3.symm.trans k3⟩, h4.symm.trans k4⟩, fsame_eu h5 k5⟩, h6.symm.trans k6⟩, h7.symm.trans k7⟩, sameItems_eu h8 k8⟩
/-- Of two acts that may be: they are the same if their bytes are. -/
theorem wAct_inj {a b : MAct} (ha : FullA a) (hb : FullA b) (ca : checkAct a = 0) (cb : checkAct b = 0) : (wAct a = wAct b) ↔ sameAct a b = true := by
  constructor
  · intro h
    have h1 := readAct_wAct ca ha
    rw [h, readAct_wAct cb hb] at h1
    injection h1 with h1 _
    have na := norm_same a ca
    have nb := norm_same b cb
    rw [h1] at nb
    simp only [sameAct, Bool.and_eq_true, beq_iff_eq] at na nb ⊢
    obtain ⟨⟨⟨⟨⟨⟨a1, a2⟩, a3⟩, a4⟩, a5⟩, a6⟩, a7⟩ := na
    obtain ⟨⟨⟨⟨⟨⟨b1, b2⟩, b3⟩, b4⟩, b5⟩, b6⟩, b7⟩ := nb
    refine ⟨⟨⟨⟨⟨⟨a1.symm.trans b1, a2.symm.trans b2⟩, a3.symm.trans b3⟩, ?_⟩, a5.symm.trans b5⟩, ?_⟩, a7.symm.trans b7⟩
    · exact fsame_eu a4 b4
    · exact sameRec_eu a6 b6
  · intro h
    simp only [sameAct, Bool.and_eq_true, beq_iff_eq] at h
    obtain ⟨⟨⟨⟨⟨⟨e1, e2⟩, e3⟩, e4⟩, e5⟩, e6⟩, e7⟩ := h
    obtain ⟨_, _, _, _, _, _, pa, qa⟩ := act_ok ca
    obtain ⟨_, _, _, _, _, _, pb, qb⟩ := act_ok cb
    have e4' := proper_same ha.wf.x hb.wf.x pa pb e4
    rw [← wAct_norm a ca, ← wAct_norm b cb]
    have : norm a = norm b := by
      unfold norm
      rw [e1, e2, e3, e4', e5, e7]
      by_cases hk : b.kind = 1
      · rw [if_pos hk, if_pos hk]
        have := (sameRec_eq ⟨ha.wf.make, ha.sc⟩ ⟨hb.wf.make, hb.sc⟩ (qa (by rw [e1]; exact hk)) (qb hk)).1 e6
        rw [this]
      · rw [if_neg hk, if_neg hk]
    rw [this]
end Go.Proofs.YtocllhghbmbjpaaDoor
