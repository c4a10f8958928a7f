/- Layer 3, plainly: records there and back. No program. -/
import Derived.Test.YtocllhghbmbjpaaTrip
set_option linter.unusedSimpArgs false
set_option linter.unusedVariables false
namespace Moi
theorem wItems_cons (top : Bool) (x : MItem) (l : List MItem) : wItems top (x :: l) = ((if top then wF x.score else []) ++ wS x.name) ++ wItems top l := rfl
theorem rItems_of {b : List UInt8} {top : Bool} : ∀ {l acc : List MItem} {a : Nat} {rest : List UInt8},
    (∀ x ∈ l, x.name.length ≤ 16 ∧ fproper x.score = true ∧ x.score < 18446744073709551616 ∧ (top = false → x.score = 0)) →
    b.drop a = wItems top l ++ rest → rItemsGo top b l.length acc a = .ok (acc ++ l, a + (wItems top l).length)
  | [], acc, a, rest, hx, h => by simp [rItemsGo, wItems]
  | x :: l, acc, a, rest, hx, h => by
    obtain ⟨h1, h2, h3, h4⟩ := hx x (List.mem_cons_self ..)
    have hx' := fun y hy => hx y (List.mem_cons_of_mem _ hy)
    rw [wItems_cons, List.append_assoc] at h
    rw [wItems_cons]
    cases top with
    | true =>
      simp only [if_true, List.append_assoc] at h
      have e1 := rF_of h3 h2 h
      have d1 := drop_step h
      have e2 := rS_of h1 (by omega) d1
      have d2 := drop_step d1
      rw [wF_len] at d1 d2 e2
      have e3 := rItems_of (acc := acc ++ [x]) hx' d2
      simp only [List.length_cons, rItemsGo, if_true, e1, e2]
      rw [show (⟨x.score, x.name⟩ : MItem) = x from rfl, e3]
      simp only [List.append_assoc, List.length_append, wF_len, List.singleton_append, Nat.add_assoc]
    | false =>
      simp only [Bool.false_eq_true, if_false, List.nil_append] at h
      have e2 := rS_of h1 (by omega) h
      have d2 := drop_step h
      have e3 := rItems_of (acc := acc ++ [x]) hx' d2
      simp only [List.length_cons, rItemsGo, Bool.false_eq_true, if_false, e2]
      rw [show (⟨0, x.name⟩ : MItem) = x from by rw [← h4 rfl], e3]
      simp only [List.append_assoc, List.length_append, List.nil_append, List.singleton_append, Nat.add_assoc]
theorem rItems_at {b : List UInt8} {top : Bool} : ∀ {k : Nat} {acc l : List MItem} {a a' : Nat}, rItemsGo top b k acc a = .ok (l, a') →
    a ≤ a' ∧ ∃ m : List MItem, l = acc ++ m ∧ m.length = k ∧ b.drop a = wItems top m ++ b.drop a'
  | 0, acc, l, a, a', h => by
    injection h with h; injection h with e1 e2; subst e1; subst e2
    exact ⟨Nat.le_refl _, [], by simp, rfl, rfl⟩
  | k + 1, acc, l, a, a', h => by
    unfold rItemsGo at h
    split at h
    · cases h
    · rename_i s a1 h1
      split at h
      · cases h
      · rename_i x a2 h2
        obtain ⟨l2, n2, d2⟩ := rS_at h2
        obtain ⟨l3, m, em, hm, d3⟩ := rItems_at h
        cases top with
        | true =>
          simp only [if_true] at h1
          obtain ⟨l1, d1⟩ := rF_at h1
          refine ⟨by omega, ⟨s, x⟩ :: m, by rw [em, List.append_assoc]; rfl, by simp [hm], ?_⟩
          rw [d1, d2, d3, wItems_cons]
          simp only [if_true, List.append_assoc]
        | false =>
          simp only [Bool.false_eq_true, if_false] at h1
          injection h1 with h1; injection h1 with e1 e2; subst e1; subst e2
          refine ⟨by omega, ⟨0, x⟩ :: m, by rw [em, List.append_assoc]; rfl, by simp [hm], ?_⟩
          rw [d2, d3, wItems_cons]
          simp only [Bool.false_eq_true, if_false, List.nil_append, List.append_assoc]
theorem rDone_at {r r' : MRec} {a a' : Nat} (h : rDone r a = .ok (r', a')) : r' = r ∧ a' = a ∧ checkRec r = 0 := by
  unfold rDone at h
  split at h
  · injection h with h; injection h with e1 e2; exact ⟨e1.symm, e2.symm, by assumption⟩
  · cases h
theorem rDone_of {r r' : MRec} {a : Nat} (e : r' = r) (h : checkRec r = 0) : rDone r' a = .ok (r, a) := by subst e; unfold rDone; rw [if_pos h]
theorem zero_score {x : Nat} (hx : x < 18446744073709551616) (px : fproper x = true) (h : fsame x 0 = true) : x = 0 :=
  proper_same hx (by omega) px (by decide) h
/-- Numbers within their kinds, the items' scores too. -/
structure MRec.Full (r : MRec) : Prop where
  wf : r.WF
  sc : ∀ x ∈ r.list, x.score < 18446744073709551616
theorem rRec_of {b rest : List UInt8} {r : MRec} {a : Nat} (hc : checkRec r = 0) (hf : r.Full) (h : b.drop a = wRec r ++ rest) :
    rRec b a = .ok (r, a + (wRec r).length) := by
  obtain ⟨p1, p2, pb, pt, p4, pr, p8⟩ := check_parts hc
  obtain ⟨pl, pi⟩ := check_list hc
  obtain ⟨b1, b2, b3, b4, b5⟩ := bare_parts pb
  have b4' : (shapeOf r.kind).real = false → r.real = 0 := fun e => zero_score hf.wf.real pr (b4 e)
  obtain ⟨K, hK⟩ : ∃ K : Nat, r.kind = K := ⟨r.kind.toNat, by omega⟩
  have hr : r = ⟨K, r.num, r.low, r.high, r.real, r.cap, r.text, r.list⟩ := by rw [← hK]
  have hwf := hf.wf
  have hsc := hf.sc
  clear hf
  generalize hnum : r.num = num at *
  generalize hlow : r.low = low at *
  generalize hhigh : r.high = high at *
  generalize hreal : r.real = real at *
  generalize hcap : r.cap = cap at *
  generalize htext : r.text = text at *
  generalize hlist : r.list = list at *
  have hw : wRec r = wU K ++ (if r.kind = 1 then wS text else if r.kind = 2 ∨ r.kind = 3 then wI num else if r.kind = 4 then wI low ++ (wI high ++ wI num)
    else if r.kind = 5 ∨ r.kind = 6 ∨ r.kind = 7 then wF real else wU cap.toNat ++ (wU list.length ++ wItems (decide (r.kind = 9)) list)) := by
    rw [wRec, hnum, hlow, hhigh, hreal, hcap, htext, hlist, hK, Int.toNat_natCast]
  have wn := hwf.num; have wl := hwf.low; have wh := hwf.high; have wr := hwf.real; have wc := hwf.cap
  rw [hnum] at wn; rw [hlow] at wl; rw [hhigh] at wh; rw [hreal] at wr; rw [hcap] at wc
  rw [hw] at h ⊢
  rw [hK] at h ⊢ p1 p2 p4 p8 b1 b2 b3 b4' b5
  rw [List.append_assoc] at h
  have eU := rUpto_of (most := 9) (by omega) (by omega) h
  have dU := drop_step h
  unfold rRec
  simp only [eU]
  rw [if_neg (by omega)]
  have hK9 : K = 1 ∨ (K = 2 ∨ K = 3) ∨ K = 4 ∨ (K = 5 ∨ K = 6 ∨ K = 7) ∨ (K = 8 ∨ K = 9) := by omega
  rw [List.length_append, ← Nat.add_assoc]
  generalize a + (wU K).length = a at dU ⊢
  rcases hK9 with e | e | e | e | e
  · subst e
    have n1 := b2 rfl; have n2 := b3 rfl; have n3 := b4' rfl; have n4 := b5 rfl
    rw [if_pos (by decide)] at dU ⊢
    simp only [rBody, if_true, rS_of pt (by omega) dU]
    exact rDone_of (by rw [hr, n1, n2.1, n2.2, n3, n4.1, n4.2]) hc
  · have n1 := b1 (by simp [shapeOf]; omega); have n2 := b3 (by simp [shapeOf]; omega); have n3 := b4' (by simp [shapeOf]; omega); have n4 := b5 (by simp [shapeOf]; omega)
    rw [if_neg (by omega), if_pos (by omega)] at dU ⊢
    unfold rBody
    rw [if_neg (by omega), if_pos e]
    simp only [rI_of wn dU]
    exact rDone_of (by rw [hr, n1, n2.1, n2.2, n3, n4.1, n4.2]) hc
  · subst e
    have n1 := b1 rfl; have n3 := b4' rfl; have n4 := b5 rfl
    rw [if_neg (by decide), if_neg (by decide), if_pos (by decide)] at dU ⊢
    rw [List.append_assoc] at dU
    have e1 := rI_of wl dU
    have d1 := drop_step dU
    rw [List.append_assoc] at d1
    have e2 := rI_of wh d1
    have d2 := drop_step d1
    have e3 := rI_of wn d2
    unfold rBody
    rw [if_neg (by decide), if_neg (by decide), if_pos rfl]
    simp only [e1, e2, e3, List.length_append, ← Nat.add_assoc]
    exact rDone_of (by rw [hr, n1, n3, n4.1, n4.2]) hc
  · have n1 := b1 (by simp [shapeOf]; omega); have n0 := b2 (by simp [shapeOf]; omega); have n2 := b3 (by simp [shapeOf]; omega); have n4 := b5 (by simp [shapeOf]; omega)
    rw [if_neg (by omega), if_neg (by omega), if_neg (by omega), if_pos (by omega)] at dU ⊢
    unfold rBody
    rw [if_neg (by omega), if_neg (by omega), if_neg (by omega), if_pos e]
    simp only [rF_of wr pr dU, wF_len]
    exact rDone_of (by rw [hr, n1, n0, n2.1, n2.2, n4.1, n4.2]) hc
  · have n1 := b1 (by simp [shapeOf]; omega); have n0 := b2 (by simp [shapeOf]; omega); have n2 := b3 (by simp [shapeOf]; omega); have n3 := b4' (by simp [shapeOf]; omega)
    obtain ⟨c1, c2, c3, c4⟩ := p8 (by omega)
    rw [if_neg (by omega), if_neg (by omega), if_neg (by omega), if_neg (by omega)] at dU ⊢
    have ed : decide ((K : Int) = 9) = decide (K = 9) := by rw [decide_eq_decide]; omega
    rw [ed] at dU ⊢
    unfold rBody
    rw [if_neg (by omega), if_neg (by omega), if_neg (by omega), if_neg (by omega)]
    rw [List.append_assoc] at dU
    have e1 := rUpto_of (most := 32) (by omega) (by omega) dU
    have d1 := drop_step dU
    rw [List.append_assoc] at d1
    have e2 := rUpto_of (most := 32) (by omega) (by omega) d1
    have d2 := drop_step d1
    have e3 := rItems_of (acc := []) (fun x hx => ⟨(pi x hx).1, (pi x hx).2, hsc x hx, fun ht => by
      have h8 : r.kind = 8 := by rw [hK]; simp at ht; omega
      rw [← hK] at c4
      exact zero_score (hsc x hx) (pi x hx).2 ((itemsErr_all c4 x hx).2.2 h8)⟩) d2
    simp only [e1, e2, e3, List.length_append, ← Nat.add_assoc]
    refine rDone_of ?_ hc
    rw [hr, n1, n0, n2.1, n2.2, n3, List.nil_append, Int.toNat_of_nonneg (by omega)]
theorem rBody_at {b : List UInt8} {r : MRec} {K a a' : Nat} (hk : 1 ≤ K ∧ K ≤ 9) (h : rBody K b a = .ok (r, a')) :
    a < a' ∧ checkRec r = 0 ∧ wU K ++ b.drop a = wRec r ++ b.drop a' := by
  unfold rBody at h
  have cong : ∀ {x y z : List UInt8}, y = z → x ++ y = x ++ z := fun e => by rw [e]
  split at h
  · rename_i e; subst e
    split at h
    · cases h
    · rename_i x a1 h1
      obtain ⟨e1, e2, e3⟩ := rDone_at h
      obtain ⟨l1, n1, d1⟩ := rS_at h1
      subst e1; subst e2
      refine ⟨by omega, e3, ?_⟩
      rw [wRec, if_pos (by rfl), List.append_assoc]
      exact cong d1
  · split at h
    · rename_i e0 e
      split at h
      · cases h
      · rename_i x a1 h1
        obtain ⟨e1, e2, e3⟩ := rDone_at h
        obtain ⟨l1, d1⟩ := rI_at h1
        subst e1; subst e2
        refine ⟨by omega, e3, ?_⟩
        rw [wRec, if_neg (by simp only; omega), if_pos (by simp only; omega), List.append_assoc, Int.toNat_natCast]
        exact cong d1
    · split at h
      · rename_i e0 e1 e; subst e
        split at h
        · cases h
        · rename_i x a1 h1
          split at h
          · cases h
          · rename_i y a2 h2
            split at h
            · cases h
            · rename_i z a3 h3
              obtain ⟨e1, e2, e3⟩ := rDone_at h
              obtain ⟨l1, d1⟩ := rI_at h1; obtain ⟨l2, d2⟩ := rI_at h2; obtain ⟨l3, d3⟩ := rI_at h3
              subst e1; subst e2
              refine ⟨by omega, e3, ?_⟩
              rw [wRec, if_neg (by simp only; omega), if_neg (by simp only; omega), if_pos (by rfl), d1, d2, d3]
              simp only [List.append_assoc]
              rfl
      · split at h
        · rename_i e0 e1 e2 e
          split at h
          · cases h
          · rename_i x a1 h1
            obtain ⟨e1, e2, e3⟩ := rDone_at h
            obtain ⟨l1, d1⟩ := rF_at h1
            subst e1; subst e2
            refine ⟨by omega, e3, ?_⟩
            rw [wRec, if_neg (by simp only; omega), if_neg (by simp only; omega), if_neg (by simp only; omega), if_pos (by simp only; omega), List.append_assoc, Int.toNat_natCast]
            exact cong d1
        · rename_i e0 e1 e2 e4
          split at h
          · cases h
          · rename_i c a1 h1
            split at h
            · cases h
            · rename_i m a2 h2
              split at h
              · cases h
              · rename_i l a3 h3
                obtain ⟨e1, e2, e3⟩ := rDone_at h
                obtain ⟨l1, n1, d1⟩ := rUpto_at h1; obtain ⟨l2, n2, d2⟩ := rUpto_at h2; obtain ⟨l3, m', em, hm, d3⟩ := rItems_at h3
                rw [List.nil_append] at em
                subst em; subst e1; subst e2; subst hm
                refine ⟨by omega, e3, ?_⟩
                have ed : decide ((K : Int) = 9) = decide (K = 9) := by rw [decide_eq_decide]; omega
                rw [wRec, if_neg (by simp only; omega), if_neg (by simp only; omega), if_neg (by simp only; omega), if_neg (by simp only; omega), d1, d2, d3]
                simp only [List.append_assoc, Int.toNat_natCast, ed]
theorem rRec_at {b : List UInt8} {r : MRec} {a a' : Nat} (h : rRec b a = .ok (r, a')) : a < a' ∧ checkRec r = 0 ∧ b.drop a = wRec r ++ b.drop a' := by
  unfold rRec at h
  split at h
  · cases h
  · rename_i K a1 h1
    obtain ⟨l1, n1, d1⟩ := rUpto_at h1
    split at h
    · cases h
    · obtain ⟨l2, c, d2⟩ := rBody_at ⟨by omega, n1⟩ h
      exact ⟨by omega, c, by rw [d1, d2]⟩
/-- What was written of a record is read as this record. -/
theorem readOut_wRec {r : MRec} (hc : checkRec r = 0) (hf : r.Full) : readOut (wRec r) = (r, (0, 0)) := by
  have h := rRec_of (b := wRec r) (rest := []) (a := 0) hc hf (by simp)
  unfold readOut
  simp only [h]
  simp [rEnd]
/-- What is read as a record is what is written of it. -/
theorem readOut_at {b : List UInt8} {r : MRec} {e : RErr} (h : readOut b = (r, e)) (he : e.1 = 0) : checkRec r = 0 ∧ wRec r = b ∧ e = (0, 0) := by
  unfold readOut at h
  split at h
  · rename_i e' h1
    injection h with h2 h3; subst h3
    exact absurd he (rRec_nz h1)
  · rename_i r' a h1
    obtain ⟨l1, c, d⟩ := rRec_at h1
    split at h
    · rename_i e' h2
      injection h with h3 h4; subst h4
      exact absurd he (rEnd_nz h2)
    · rename_i h2
      injection h with h3 h4; subst h3; subst h4
      refine ⟨c, ?_, rfl⟩
      unfold rEnd at h2
      split at h2
      · cases h2
      · rw [List.drop_zero, List.drop_eq_nil_of_le (by omega), List.append_nil] at d
        exact d.symm
theorem sameItems_refl : ∀ l : List MItem, sameItems l l = true
  | [] => rfl
  | x :: l => by simp [sameItems, sameItems_refl l, fsame]
theorem sameRec_refl (r : MRec) : sameRec r r = true := by simp [sameRec, fsame, sameItems_refl]
theorem sameItems_eq : ∀ {l m : List MItem}, (∀ x ∈ l, x.score < 18446744073709551616 ∧ fproper x.score = true) → (∀ x ∈ m, x.score < 18446744073709551616 ∧ fproper x.score = true) →
    sameItems l m = true → l = m
  | [], [], _, _, _ => rfl
  | [], _ :: _, _, _, h => by cases h
  | _ :: _, [], _, _, h => by cases h
  | x :: l, y :: m, hl, hm, h => by
    simp only [sameItems, Bool.and_eq_true, beq_iff_eq] at h
    obtain ⟨⟨h1, h2⟩, h3⟩ := h
    have hx := hl x (List.mem_cons_self ..); have hy := hm y (List.mem_cons_self ..)
    have e := proper_same hx.1 hy.1 hx.2 hy.2 h2
    rw [sameItems_eq (fun z hz => hl z (List.mem_cons_of_mem _ hz)) (fun z hz => hm z (List.mem_cons_of_mem _ hz)) h3]
    obtain ⟨s, n⟩ := x; obtain ⟨t, p⟩ := y
    simp only at h1 e
    rw [h1, e]
theorem sameRec_eq {a b : MRec} (ha : a.Full) (hb : b.Full) (ca : checkRec a = 0) (cb : checkRec b = 0) : sameRec a b = true ↔ a = b := by
  refine ⟨fun h => ?_, fun h => by rw [h]; exact sameRec_refl b⟩
  simp only [sameRec, Bool.and_eq_true, beq_iff_eq] at h
  obtain ⟨⟨⟨⟨⟨⟨⟨h1, h2⟩, h3⟩, h4⟩, h5⟩, h6⟩, h7⟩, h8⟩ := h
  have pa := (check_parts ca).2.2.2.2.2.1; have pb := (check_parts cb).2.2.2.2.2.1
  have e5 := proper_same ha.wf.real hb.wf.real pa pb h5
  have e8 := sameItems_eq (fun x hx => ⟨ha.sc x hx, ((check_list ca).2 x hx).2⟩) (fun x hx => ⟨hb.sc x hx, ((check_list cb).2 x hx).2⟩) h8
  cases a; cases b; simp_all
/-- Of two records that may be: they are the same if their bytes are. -/
theorem wRec_inj {a b : MRec} (ha : a.Full) (hb : b.Full) (ca : checkRec a = 0) (cb : checkRec b = 0) : (wRec a = wRec b) ↔ sameRec a b = true := by
  rw [sameRec_eq ha hb ca cb]
  refine ⟨fun h => ?_, fun h => by rw [h]⟩
  have h1 := readOut_wRec ca ha
  rw [h, readOut_wRec cb hb] at h1
  injection h1 with h1 _
  exact h1.symm
end Moi
