import Derived.Test.YtbemnfbndjolpaaGreatDoorWAct5
import Derived.Test.YtbemnfbndjolpaaGreatDoorPlain
/- Layer 4, plainly: acts there and back. -/
set_option linter.unusedSimpArgs false
set_option linter.unusedVariables false
set_option maxRecDepth 20000
namespace Go.Proofs.YtbemnfbndjolpaaGreatDoor
open Moi
structure FullA (a : MAct) : Prop where
 wf : a.WF
 sc : ∀ x ∈ a.make.list, x.score < 18446744073709551616
def norm (a : MAct) : MAct := ⟨a.kind, a.key, a.n, a.x, a.s, if a.kind = 1 then a.make else zeroRec, a.must⟩
theorem rFlag_of {b rest : List UInt8} {m : Bool} {a : Nat} (h : b.drop a = wFlag m ++ rest) : rFlag b a = .ok (m, a + 1) := by
 obtain ⟨h1, _⟩ := rOne_of (x := if m then 1 else 0) h
 unfold rFlag
 rw [h1]
 cases m <;> rfl
theorem rFlag_at {b : List UInt8} {m : Bool} {a a' : Nat} (h : rFlag b a = .ok (m, a')) : a < a' ∧ b.drop a = wFlag m ++ b.drop a' := by
 unfold rFlag at h
 split at h
 ·cases h
 ·rename_i x a1 h1
  obtain ⟨e1, e2, e3⟩ := rOne_at h1
  split at h
  ·cases h
  ·rename_i h2
   injection h with h; injection h with h3 h4
   subst h3; subst h4
   refine ⟨by omega, ?_⟩
   rw [e3]
   have : x = 0 ∨ x = 1 := by omega
   rcases this with rfl | rfl <;> rfl
section
variable {b rest : List UInt8} {c : Bool} {a a' : Nat}
theorem optI_of {n : Int} (hn : -9223372036854775808 ≤ n ∧ n < 9223372036854775808) (h0 : c = false → n = 0) (h : b.drop a = (if c then wI n else []) ++ rest) :
  (if c then rI b a else .ok (0, a)) = .ok (n, a + (if c then wI n else []).length) := by
 cases c with
 | true => exact rI_of hn h
 | false => rw [h0 rfl]; rfl
theorem optF_of {x : Nat} (hx : x < 18446744073709551616) (hp : fproper x = true) (h0 : c = false → x = 0) (h : b.drop a = (if c then wF x else []) ++ rest) :
  (if c then rF b a else .ok (0, a)) = .ok (x, a + (if c then wF x else []).length) := by
 cases c with
 | true => exact rF_of hx hp h
 | false => rw [h0 rfl]; rfl
theorem optS_of {s : List UInt8} {most : Nat} (hs : s.length ≤ most) (hm : most < 18446744073709551616) (h0 : c = false → s = []) (h : b.drop a = (if c then wS s else []) ++ rest) :
  (if c then rS most b a else .ok ([], a)) = .ok (s, a + (if c then wS s else []).length) := by
 cases c with
 | true => exact rS_of hs hm h
 | false => rw [h0 rfl]; rfl
theorem optR_of {r : MRec} (hc : c = true → checkRec r = 0) (hf : r.Full) (h : b.drop a = (if c then wRec r else []) ++ rest) :
  (if c then rRec b a else .ok (zeroRec, a)) = .ok (if c then r else zeroRec, a + (if c then wRec r else []).length) := by
 cases c with
 | true => exact rRec_of (hc rfl) hf h
 | false => rfl
theorem optI_at {n : Int} (h : (if c then rI b a else .ok (0, a)) = .ok (n, a')) : a ≤ a' ∧ b.drop a = (if c then wI n else []) ++ b.drop a' := by
 cases c with
 | true => have := rI_at h; exact ⟨by omega, this.2⟩
 | false => injection h with h; injection h with h1 h2; subst h2; exact ⟨Nat.le_refl _, rfl⟩
theorem optF_at {n : Nat} (h : (if c then rF b a else .ok (0, a)) = .ok (n, a')) : a ≤ a' ∧ b.drop a = (if c then wF n else []) ++ b.drop a' := by
 cases c with
 | true => have := rF_at h; exact ⟨by omega, this.2⟩
 | false => injection h with h; injection h with h1 h2; subst h2; exact ⟨Nat.le_refl _, rfl⟩
theorem optS_at {n : List UInt8} {most : Nat} (h : (if c then rS most b a else .ok ([], a)) = .ok (n, a')) : a ≤ a' ∧ b.drop a = (if c then wS n else []) ++ b.drop a' := by
 cases c with
 | true => have := rS_at h; exact ⟨by omega, this.2.2⟩
 | false => injection h with h; injection h with h1 h2; subst h2; exact ⟨Nat.le_refl _, rfl⟩
theorem optR_at {r : MRec} (h : (if c then rRec b a else .ok (zeroRec, a)) = .ok (r, a')) : a ≤ a' ∧ b.drop a = (if c then wRec r else []) ++ b.drop a' ∧ (c = false → r = zeroRec) := by
 cases c with
 | true => have := rRec_at h; exact ⟨by omega, this.2.2, fun e => by cases e⟩
 | false => injection h with h; injection h with h1 h2; subst h2; exact ⟨Nat.le_refl _, rfl, fun _ => h1.symm⟩
end
theorem norm_check {a : MAct} (h : checkAct a = 0) : checkAct (norm a) = 0 := by
 by_cases hk : a.kind = 1
 ·have : norm a = a := by unfold norm; rw [if_pos hk]
  rw [this]; exact h
 ·obtain ⟨h1, h2, h3, h4, hb, h6, h7, h8⟩ := act_ok h
  have hm : hasF a.kind 109 = false := by
   obtain ⟨k, e⟩ : ∃ k : Nat, a.kind = (k : Int) := ⟨a.kind.toNat, by omega⟩
   rw [e, hasF_109 k (by omega)]; exact decide_eq_false (by omega)
  have hb' : bareA (norm a) = true := by
   unfold bareA at hb ⊢
   unfold norm
   rw [if_neg hk]
   simp only [Bool.and_eq_true] at hb ⊢
   refine ⟨hb.1, ?_⟩
   rw [hm]
   decide
  unfold checkAct at h ⊢
  rw [if_neg (by omega), if_neg (by omega), if_neg (by rw [hb]; decide)] at h
  rw [if_neg (by unfold norm; dsimp only; omega), if_neg (by unfold norm; dsimp only; omega), if_neg (by rw [hb']; decide)]
  unfold norm
  dsimp only
  simp only [if_neg hk] at h ⊢
  exact h
theorem norm_same (a : MAct) (h : checkAct a = 0) : sameAct (norm a) a = true := by
 by_cases hk : a.kind = 1
 ·have : norm a = a := by unfold norm; rw [if_pos hk]
  rw [this]; simp [sameAct, fsame, sameRec_refl]
 ·rcases act_make h with ⟨h1, _⟩ | ⟨_, h2⟩
  ·exact absurd h1 hk
  ·have h3 : sameRec zeroRec a.make = true := by
    simp only [sameRec, Bool.and_eq_true, beq_iff_eq] at h2 ⊢
    obtain ⟨⟨⟨⟨⟨⟨⟨e1, e2⟩, e3⟩, e4⟩, e5⟩, e6⟩, e7⟩, e8⟩ := h2
    refine ⟨⟨⟨⟨⟨⟨⟨e1.symm, e2.symm⟩, e3.symm⟩, e4.symm⟩, ?_⟩, e6.symm⟩, e7.symm⟩, ?_⟩
    ·unfold fsame at e5 ⊢; simp at e5 ⊢; exact e5.symm
    ·cases hl : a.make.list with
     | nil => rfl
     | cons x l => rw [hl] at e8; cases e8
   unfold norm sameAct
   rw [if_neg hk]
   simp [fsame, h3]
theorem rAct_of {b rest : List UInt8} {a : MAct} {p : Nat} (hc : checkAct a = 0) (hf : FullA a) (h : b.drop p = wAct a ++ rest) :
  rAct b p = .ok (norm a, p + (wAct a).length) := by
 obtain ⟨h1, h2, h3, h4, hb, h6, h7, h8⟩ := act_ok hc
 obtain ⟨k, e⟩ : ∃ k : Nat, a.kind = (k : Int) := ⟨a.kind.toNat, by omega⟩
 have hm := hasF_109 k (by omega)
 have hb' := hb
 unfold bareA at hb'
 simp only [Bool.and_eq_true, Bool.or_eq_true] at hb'
 obtain ⟨⟨⟨b1, b2⟩, b3⟩, b4⟩ := hb'
 rw [e] at b1 b2 b3 b4 h6
 have hlen : (wAct a).length = (wU k).length + ((wFlag a.must).length + ((wS a.key).length + ((if hasF k 110 then wI a.n else []).length + ((if hasF k 120 then wF a.x else []).length + ((if hasF k 115 then wS a.s else []).length + (if hasF k 109 then wRec a.make else []).length))))) := by
  unfold wAct; rw [e, Int.toNat_natCast]; simp only [List.length_append]
 have hw : wAct a ++ rest = wU k ++ (wFlag a.must ++ (wS a.key ++ ((if hasF k 110 then wI a.n else []) ++ ((if hasF k 120 then wF a.x else []) ++ ((if hasF k 115 then wS a.s else []) ++ ((if hasF k 109 then wRec a.make else []) ++ rest)))))) := by
  unfold wAct; rw [e, Int.toNat_natCast]; simp only [List.append_assoc]
 rw [hw] at h
 rw [hlen]
 have eU := rUpto_of (most := 21) (by omega) (by omega) h
 have dU := drop_step h
 have eF : rFlag b (p + (wU k).length) = .ok (a.must, p + (wU k).length + (wFlag a.must).length) := rFlag_of dU
 have dF := drop_step dU
 have eK := rS_of (most := 24) h4 (by omega) dF
 have dK := drop_step dF
 have eN := optI_of (c := hasF k 110) hf.wf.n (fun hz => by rw [hz] at b1; simpa using b1) dK
 have dN := drop_step dK
 have eX := optF_of (c := hasF k 120) hf.wf.x h7 (fun hz => by rw [hz] at b2; exact zero_score hf.wf.x h7 (by simpa using b2)) dN
 have dX := drop_step dN
 have eS := optS_of (c := hasF k 115) h6 (by unfold mostOf; split <;> omega) (fun hz => by rw [hz] at b3; simpa using b3) dX
 have dS := drop_step dX
 have eR := optR_of (c := hasF k 109) (fun hz => h8 (by rw [hm] at hz; have := of_decide_eq_true hz; omega)) ⟨hf.wf.make, hf.sc⟩ dS
 unfold rAct
 simp only [eU]
 rw [if_neg (by omega)]
 unfold aMust
 simp only [eF]
 unfold aKey
 simp only [eK]
 unfold aN
 simp only [eN]
 unfold aX
 simp only [eX]
 unfold aS
 simp only [eS]
 unfold aM
 simp only [eR]
 have hx : (⟨(k : Int), a.key, a.n, a.x, a.s, if hasF k 109 then a.make else zeroRec, a.must⟩ : MAct) = norm a := by
  unfold norm; rw [hm, ← e]
  by_cases hk : a.kind = 1
  ·rw [if_pos hk, if_pos (by rw [decide_eq_true_iff]; omega)]
  ·rw [if_neg hk, if_neg (by rw [decide_eq_true_iff]; omega)]
 rw [hx]
 unfold aDone
 rw [if_pos (norm_check hc)]
 simp only [Nat.add_assoc]
theorem aDone_at {x x' : MAct} {a a' : Nat} (h : aDone x a = .ok (x', a')) : x' = x ∧ a' = a ∧ checkAct x = 0 := by
 unfold aDone at h
 split at h
 ·rename_i h1; injection h with h; injection h with h2 h3; exact ⟨h2.symm, h3.symm, h1⟩
 ·cases h
theorem rAct_at {b : List UInt8} {x : MAct} {a a' : Nat} (h : rAct b a = .ok (x, a')) : a < a' ∧ checkAct x = 0 ∧ b.drop a = wAct x ++ b.drop a' := by
 unfold rAct at h
 split at h
 ·cases h
 rename_i k a1 h1
 obtain ⟨l1, n1, d1⟩ := rUpto_at h1
 split at h
 ·cases h
 rename_i hk0
 unfold aMust at h
 split at h
 ·cases h
 rename_i must a2 h2
 obtain ⟨l2, d2⟩ := rFlag_at h2
 unfold aKey at h
 split at h
 ·cases h
 rename_i key a3 h3
 obtain ⟨l3, n3, d3⟩ := rS_at h3
 unfold aN at h
 split at h
 ·cases h
 rename_i n a4 h4
 obtain ⟨l4, d4⟩ := optI_at h4
 unfold aX at h
 split at h
 ·cases h
 rename_i xx a5 h5
 obtain ⟨l5, d5⟩ := optF_at h5
 unfold aS at h
 split at h
 ·cases h
 rename_i s a6 h6
 obtain ⟨l6, d6⟩ := optS_at h6
 unfold aM at h
 split at h
 ·cases h
 rename_i m a7 h7
 obtain ⟨l7, d7, _⟩ := optR_at h7
 obtain ⟨e1, e2, e3⟩ := aDone_at h
 subst e1; subst e2
 refine ⟨by omega, e3, ?_⟩
 unfold wAct
 dsimp only
 rw [Int.toNat_natCast, d1, d2, d3, d4, d5, d6, d7]
 simp only [List.append_assoc]
theorem sameAct_refl (a : MAct) : sameAct a a = true := by simp [sameAct, fsame, sameRec_refl]
theorem wAct_norm (a : MAct) (h : checkAct a = 0) : wAct (norm a) = wAct a := by
 obtain ⟨h1, h2, _⟩ := act_ok h
 obtain ⟨k, e⟩ : ∃ k : Nat, a.kind = (k : Int) := ⟨a.kind.toNat, by omega⟩
 have hm := hasF_109 k (by omega)
 unfold wAct norm
 dsimp only
 rw [e, hm]
 by_cases hk : k = 1
 ·subst hk; rfl
 ·rw [show decide (k = 1) = false from decide_eq_false hk]; rfl
end Go.Proofs.YtbemnfbndjolpaaGreatDoor

/- A row of acts that come in. (Printed by wip/tools/gen_lactt.py.) -/
namespace Go.Proofs.YtbemnfbndjolpaaGreatDoor
open Go.RowKit Moi
def actAt (l : List MAct) (i : Nat) : MAct := l.getD i zeroAct
theorem actAt_drop (l : List MAct) (i : Nat) (h : i < l.length) : l.drop i = actAt l i :: l.drop (i + 1) := by
 rw [List.drop_eq_getElem_cons h]; simp [actAt, List.getD, h]
structure ActCells (W : World) (b o : Nat) (r : MAct) (A : Option Addr) (n c : Nat) : Prop where
 c0 : W.cell? ⟨b, o, none⟩ = some (.int .i64 r.kind)
 c1 : W.cell? ⟨b, o + 1, none⟩ = some (.string (str r.key))
 c2 : W.cell? ⟨b, o + 2, none⟩ = some (.int .i64 r.n)
 c3 : W.cell? ⟨b, o + 3, none⟩ = some (.float .f64 r.x)
 c4 : W.cell? ⟨b, o + 4, none⟩ = some (.string (str r.s))
 c5 : W.cell? ⟨b, o + 5, none⟩ = some (.int .i64 r.make.kind)
 c6 : W.cell? ⟨b, o + 6, none⟩ = some (.int .i64 r.make.num)
 c7 : W.cell? ⟨b, o + 7, none⟩ = some (.int .i64 r.make.low)
 c8 : W.cell? ⟨b, o + 8, none⟩ = some (.int .i64 r.make.high)
 c9 : W.cell? ⟨b, o + 9, none⟩ = some (.float .f64 r.make.real)
 c10 : W.cell? ⟨b, o + 10, none⟩ = some (.int .i64 r.make.cap)
 c11 : W.cell? ⟨b, o + 11, none⟩ = some (.string (str r.make.text))
 c12 : W.cell? ⟨b, o + 12, none⟩ = some (.slice A n c)
 c13 : W.cell? ⟨b, o + 13, none⟩ = some (.bool r.must)
 it : RdItems W A n r.make.list
 wf : r.WF
theorem ActCells.full {W : World} {b o : Nat} {r : MAct} {A : Option Addr} {n c : Nat} (h : ActCells W b o r A n c) : FullA r := ⟨h.wf, fun x hx => by
  obtain ⟨i, hi, rfl⟩ := List.getElem_of_mem hx
  have := h.it.wf i
  simpa [itAt, hi] using this⟩
theorem ActCells.cln {W W' : World} {b o : Nat} {r : MAct} {A : Option Addr} {n c : Nat} (h : ActCells W b o r A n c) (k : Cln W W') : ActCells W' b o r A n c := by
 have k' := Kept.of_below (S := fun _ => False) k
 exact ⟨k'.cell h.c0 id, k'.cell h.c1 id, k'.cell h.c2 id, k'.cell h.c3 id, k'.cell h.c4 id, k'.cell h.c5 id, k'.cell h.c6 id, k'.cell h.c7 id, k'.cell h.c8 id, k'.cell h.c9 id, k'.cell h.c10 id, k'.cell h.c11 id, k'.cell h.c12 id, k'.cell h.c13 id, h.it.cln k, h.wf⟩
structure RdActs (W : World) (A : Option Addr) (n : Nat) (l : List MAct) : Prop where
 len : l.length = n
 rows : 0 < n → ∃ b o, A = some ⟨b, o, none⟩ ∧ b < W.heap.size ∧ ∀ i, i < n → ∃ Ai ni ci, ActCells W b (o + i * 14) (actAt l i) Ai ni ci
theorem RdActs.cln {W W' : World} {A : Option Addr} {n : Nat} {l : List MAct} (h : RdActs W A n l) (k : Cln W W') : RdActs W' A n l := by
 refine ⟨h.len, fun h0 => ?_⟩
 obtain ⟨b, o, rfl, hb, hi⟩ := h.rows h0
 refine ⟨b, o, rfl, Nat.lt_of_lt_of_le hb k.size, fun i hlt => ?_⟩
 obtain ⟨Ai, ni, ci, hc⟩ := hi i hlt
 exact ⟨Ai, ni, ci, hc.cln k⟩
end Go.Proofs.YtbemnfbndjolpaaGreatDoor

/- Layer 8, plainly: deals. No program. -/
namespace Moi
def actsErr : Nat → List MAct → Nat × Nat
 | _, [] => (0, 0)
 | i, a :: l => if checkAct a = 0 then actsErr (i + 1) l else (checkAct a, i + 1)
def checkDeal (l : List MAct) : Nat × Nat := if l.length < 1 ∨ 12 < l.length then (1, 0) else actsErr 0 l
def sameActs : List MAct → List MAct → Bool
 | [], [] => true
 | a :: l, b :: m => sameAct a b && sameActs l m
 | _, _ => false
def wDeal (l : List MAct) : List UInt8 := wU l.length ++ l.flatMap wAct
def bigDeal (l : List MAct) : Bool := decide (40 < l.length) || l.any bigAct
def rActsGo (b : List UInt8) : Nat → List MAct → Nat → RRes (List MAct)
 | 0, acc, a => .ok (acc, a)
 | k + 1, acc, a =>
  match rAct b a with
  | .error e => .error e
  | .ok (x, a) => rActsGo b k (acc ++ [x]) a
def rDeal (b : List UInt8) (a : Nat) : RRes (List MAct) :=
 match rUpto 12 b a with
 | .error e => .error e
 | .ok (k, a) => if k = 0 then .error (1, a) else rActsGo b k [] a
theorem actsErr_zero : ∀ (l : List MAct) (i : Nat), (actsErr i l).1 = 0 → (∀ a ∈ l, checkAct a = 0) ∧ actsErr i l = (0, 0)
 | [], _, _ => ⟨fun _ h => (by cases h), rfl⟩
 | a :: l, i, h => by
  unfold actsErr at h ⊢
  by_cases hc : checkAct a = 0
  ·rw [if_pos hc] at h ⊢
   obtain ⟨h1, h2⟩ := actsErr_zero l (i + 1) h
   exact ⟨fun x hx => (by rcases List.mem_cons.1 hx with rfl | hx; exact hc; exact h1 x hx), h2⟩
  ·rw [if_neg hc] at h; exact absurd h hc
theorem actsErr_of : ∀ (l : List MAct) (i : Nat), (∀ a ∈ l, checkAct a = 0) → actsErr i l = (0, 0)
 | [], _, _ => rfl
 | a :: l, i, h => by
  unfold actsErr
  rw [if_pos (h a (List.mem_cons_self ..))]
  exact actsErr_of l (i + 1) fun x hx => h x (List.mem_cons_of_mem _ hx)
theorem deal_ok {l : List MAct} (h : (checkDeal l).1 = 0) : 1 ≤ l.length ∧ l.length ≤ 12 ∧ (∀ a ∈ l, checkAct a = 0) ∧ checkDeal l = (0, 0) := by
 unfold checkDeal at h ⊢
 split at h
 ·cases h
 ·rename_i hn
  rw [if_neg hn]
  obtain ⟨h1, h2⟩ := actsErr_zero l 0 h
  exact ⟨by omega, by omega, h1, h2⟩
theorem deal_of {l : List MAct} (h1 : 1 ≤ l.length) (h2 : l.length ≤ 12) (h : ∀ a ∈ l, checkAct a = 0) : checkDeal l = (0, 0) := by
 unfold checkDeal
 rw [if_neg (by omega), actsErr_of l 0 h]
theorem sameActs_len : ∀ l m : List MAct, l.length ≠ m.length → sameActs l m = false
 | [], [], h => absurd rfl h
 | [], _ :: _, _ => rfl
 | _ :: _, [], _ => rfl
 | x :: l, y :: m, h => by rw [sameActs, sameActs_len l m (by simpa using h)]; simp
theorem rActsGo_nz {b : List UInt8} {e : RErr} : ∀ {k : Nat} {acc : List MAct} {a : Nat}, rActsGo b k acc a = .error e → e.1 ≠ 0
 | 0, acc, a, h => by cases h
 | k + 1, acc, a, h => by
  unfold rActsGo at h
  split at h
  ·rename_i h1; exact nz_of h (rAct_nz h1)
  ·exact rActsGo_nz h
theorem rDeal_nz {b : List UInt8} {a : Nat} {e : RErr} (h : rDeal b a = .error e) : e.1 ≠ 0 := by
 unfold rDeal at h
 split at h
 ·rename_i h1; exact nz_of h (rUpto_nz h1)
 split at h
 ·exact nz_of h (by simp)
 ·exact rActsGo_nz h
structure MLot where
 num : Int
 deals : List (List MAct)
def dealsErr : Nat → List (List MAct) → Nat × Nat
 | _, [] => (0, 0)
 | i, d :: l => if (checkDeal d).1 = 0 then dealsErr (i + 1) l else ((checkDeal d).1, i + 1)
def wLot (x : MLot) : List UInt8 := wU x.num.toNat ++ (wU x.deals.length ++ x.deals.flatMap wDeal)
def checkLot (x : MLot) : Nat × Nat :=
 if x.num < 1 ∨ 1099511627776 < x.num then (1, 0)
 else if 32 < x.deals.length then (8, 0)
 else if (dealsErr 0 x.deals).1 ≠ 0 then dealsErr 0 x.deals
 else if 2048 < (wLot x).length then (3, 0)
 else (0, 0)
def sameDeals : List (List MAct) → List (List MAct) → Bool
 | [], [] => true
 | a :: l, b :: m => sameActs a b && sameDeals l m
 | _, _ => false
def sameLot (x y : MLot) : Bool := x.num == y.num && sameDeals x.deals y.deals
def bigDeals (l : List (List MAct)) : Bool := decide (40 < l.length) || l.any bigDeal
def rDealsGo (b : List UInt8) : Nat → List (List MAct) → Nat → RRes (List (List MAct))
 | 0, acc, a => .ok (acc, a)
 | k + 1, acc, a =>
  match rDeal b a with
  | .error e => .error e
  | .ok (x, a) => rDealsGo b k (acc ++ [x]) a
def lDone (x : MLot) (a : Nat) : RRes MLot := if (checkLot x).1 = 0 then .ok (x, a) else .error ((checkLot x).1, a)
def lBody (k : Nat) (b : List UInt8) (a : Nat) : RRes MLot :=
 match rUpto 32 b a with
 | .error e => .error e
 | .ok (m, a) => match rDealsGo b m [] a with
  | .error e => .error e
  | .ok (l, a) => lDone ⟨k, l⟩ a
def rLot (b : List UInt8) (a : Nat) : RRes MLot :=
 match rUpto 1099511627776 b a with
 | .error e => .error e
 | .ok (k, a) => if k = 0 then .error (1, a) else lBody k b a
def zeroLot : MLot := ⟨0, []⟩
def readLot (bs : List UInt8) : MLot × RErr := match rLot bs 0 with
 | .error e => (zeroLot, e)
 | .ok (r, a) => match rEnd bs a with
  | .error e => (zeroLot, e)
  | .ok _ => (r, (0, 0))
theorem dealsErr_zero : ∀ (l : List (List MAct)) (i : Nat), (dealsErr i l).1 = 0 → (∀ d ∈ l, (checkDeal d).1 = 0) ∧ dealsErr i l = (0, 0)
 | [], _, _ => ⟨fun _ h => (by cases h), rfl⟩
 | a :: l, i, h => by
  unfold dealsErr at h ⊢
  by_cases hc : (checkDeal a).1 = 0
  ·rw [if_pos hc] at h ⊢
   obtain ⟨h1, h2⟩ := dealsErr_zero l (i + 1) h
   exact ⟨fun x hx => (by rcases List.mem_cons.1 hx with rfl | hx; exact hc; exact h1 x hx), h2⟩
  ·rw [if_neg hc] at h; exact absurd h hc
theorem dealsErr_of : ∀ (l : List (List MAct)) (i : Nat), (∀ d ∈ l, (checkDeal d).1 = 0) → dealsErr i l = (0, 0)
 | [], _, _ => rfl
 | a :: l, i, h => by
  unfold dealsErr
  rw [if_pos (h a (List.mem_cons_self ..))]
  exact dealsErr_of l (i + 1) fun x hx => h x (List.mem_cons_of_mem _ hx)
theorem lot_ok {x : MLot} (h : (checkLot x).1 = 0) : 1 ≤ x.num ∧ x.num ≤ 1099511627776 ∧ x.deals.length ≤ 32 ∧ (∀ d ∈ x.deals, (checkDeal d).1 = 0) ∧ (wLot x).length ≤ 2048 ∧ checkLot x = (0, 0) := by
 unfold checkLot at h ⊢
 split at h
 ·cases h
 ·rename_i h1
  split at h
  ·cases h
  ·rename_i h2
   split at h
   ·rename_i h3; exact absurd h h3
   ·rename_i h3
    split at h
    ·cases h
    ·rename_i h4
     rw [if_neg h1, if_neg h2, if_neg h3, if_neg h4]
     exact ⟨by omega, by omega, by omega, (dealsErr_zero _ 0 (by omega)).1, by omega, rfl⟩
theorem lot_of {x : MLot} (h1 : 1 ≤ x.num) (h2 : x.num ≤ 1099511627776) (h3 : x.deals.length ≤ 32) (h4 : ∀ d ∈ x.deals, (checkDeal d).1 = 0) (h5 : (wLot x).length ≤ 2048) : checkLot x = (0, 0) := by
 unfold checkLot
 rw [if_neg (by omega), if_neg (by omega), dealsErr_of _ 0 h4, if_neg (by simp), if_neg (by omega)]
theorem sameDeals_len : ∀ l m : List (List MAct), l.length ≠ m.length → sameDeals l m = false
 | [], [], h => absurd rfl h
 | [], _ :: _, _ => rfl
 | _ :: _, [], _ => rfl
 | x :: l, y :: m, h => by rw [sameDeals, sameDeals_len l m (by simpa using h)]; simp
theorem rDealsGo_nz {b : List UInt8} {e : RErr} : ∀ {k : Nat} {acc : List (List MAct)} {a : Nat}, rDealsGo b k acc a = .error e → e.1 ≠ 0
 | 0, acc, a, h => by cases h
 | k + 1, acc, a, h => by
  unfold rDealsGo at h
  split at h
  ·rename_i h1; exact nz_of h (rDeal_nz h1)
  ·exact rDealsGo_nz h
theorem rLot_nz {b : List UInt8} {a : Nat} {e : RErr} (h : rLot b a = .error e) : e.1 ≠ 0 := by
 unfold rLot at h
 split at h
 ·rename_i h1; exact nz_of h (rUpto_nz h1)
 split at h
 ·exact nz_of h (by simp)
 unfold lBody at h
 split at h
 ·rename_i h1; exact nz_of h (rUpto_nz h1)
 split at h
 ·rename_i h1; exact nz_of h (rDealsGo_nz h1)
 unfold lDone at h
 split at h
 ·cases h
 ·rename_i h1; exact nz_of h h1
end Moi

/- Layer 8, plainly: deals there and back. No program. -/
namespace Go.Proofs.YtbemnfbndjolpaaGreatDoor
open Moi
theorem sameActs_refl : ∀ l : List MAct, sameActs l l = true
 | [] => rfl
 | a :: l => by rw [sameActs, sameAct_refl, sameActs_refl l]; rfl
theorem sameActs_norm : ∀ l : List MAct, (∀ a ∈ l, checkAct a = 0) → sameActs (l.map norm) l = true
 | [], _ => rfl
 | a :: l, h => by
  rw [List.map_cons, sameActs, norm_same a (h a (List.mem_cons_self ..)), sameActs_norm l fun x hx => h x (List.mem_cons_of_mem _ hx)]; rfl
theorem rActsGo_of {b : List UInt8} : ∀ {l acc : List MAct} {a : Nat} {rest : List UInt8}, (∀ x ∈ l, checkAct x = 0 ∧ FullA x) →
  b.drop a = l.flatMap wAct ++ rest → rActsGo b l.length acc a = .ok (acc ++ l.map norm, a + (l.flatMap wAct).length)
 | [], acc, a, rest, hx, h => by simp [rActsGo]
 | x :: l, acc, a, rest, hx, h => by
  obtain ⟨h1, h2⟩ := hx x (List.mem_cons_self ..)
  rw [List.flatMap_cons, List.append_assoc] at h
  have e1 := rAct_of h1 h2 h
  have e2 := rActsGo_of (acc := acc ++ [norm x]) (fun y hy => hx y (List.mem_cons_of_mem _ hy)) (drop_step h)
  simp only [List.length_cons, rActsGo, e1, e2, List.map_cons, List.flatMap_cons, List.append_assoc, List.singleton_append, List.length_append, Nat.add_assoc]
theorem rActsGo_at {b : List UInt8} : ∀ {k : Nat} {acc l : List MAct} {a a' : Nat}, rActsGo b k acc a = .ok (l, a') →
  a ≤ a' ∧ ∃ m : List MAct, l = acc ++ m ∧ m.length = k ∧ (∀ x ∈ m, checkAct x = 0) ∧ b.drop a = m.flatMap wAct ++ b.drop a'
 | 0, acc, l, a, a', h => by
  injection h with h; injection h with e1 e2; subst e1; subst e2
  exact ⟨Nat.le_refl _, [], by simp, rfl, fun _ h => (by cases h), rfl⟩
 | k + 1, acc, l, a, a', h => by
  unfold rActsGo at h
  split at h
  ·cases h
  ·rename_i x a1 h1
   obtain ⟨l1, c1, d1⟩ := rAct_at h1
   obtain ⟨l2, m, em, hm, hc, d2⟩ := rActsGo_at h
   refine ⟨by omega, x :: m, by rw [em, List.append_assoc]; rfl, by simp [hm], fun y hy => ?_, ?_⟩
   ·rcases List.mem_cons.1 hy with rfl | hy; exact c1; exact hc y hy
   ·rw [d1, d2, List.flatMap_cons, List.append_assoc]
theorem rDeal_of {b rest : List UInt8} {l : List MAct} {p : Nat} (hc : (checkDeal l).1 = 0) (hf : ∀ x ∈ l, FullA x) (h : b.drop p = wDeal l ++ rest) :
  rDeal b p = .ok (l.map norm, p + (wDeal l).length) := by
 obtain ⟨h1, h2, h3, _⟩ := deal_ok hc
 rw [wDeal, List.append_assoc] at h
 have e1 := rUpto_of (most := 12) (by omega) (by omega) h
 have e2 := rActsGo_of (acc := []) (fun x hx => ⟨h3 x hx, hf x hx⟩) (drop_step h)
 unfold rDeal
 simp only [e1]
 rw [if_neg (by omega), e2, List.nil_append, wDeal, List.length_append, Nat.add_assoc]
theorem rDeal_at {b : List UInt8} {l : List MAct} {a a' : Nat} (h : rDeal b a = .ok (l, a')) : a < a' ∧ checkDeal l = (0, 0) ∧ b.drop a = wDeal l ++ b.drop a' := by
 unfold rDeal at h
 split at h
 ·cases h
 ·rename_i k a1 h1
  split at h
  ·cases h
  ·rename_i hk
   have hk2 := rUpto_le h1
   obtain ⟨l1, _, d1⟩ := rUpto_at h1
   obtain ⟨l2, m, em, hm, hc, d2⟩ := rActsGo_at h
   rw [List.nil_append] at em
   subst em
   refine ⟨by omega, deal_of (by omega) (by omega) hc, ?_⟩
   rw [d1, d2, wDeal, hm, List.append_assoc]
def normDeals (l : List (List MAct)) : List (List MAct) := l.map fun d => d.map norm
theorem sameDeals_refl : ∀ l : List (List MAct), sameDeals l l = true
 | [] => rfl
 | a :: l => by rw [sameDeals, sameActs_refl, sameDeals_refl l]; rfl
theorem sameLot_refl (x : MLot) : sameLot x x = true := by simp [sameLot, sameDeals_refl]
theorem sameDeals_norm : ∀ l : List (List MAct), (∀ d ∈ l, (checkDeal d).1 = 0) → sameDeals (normDeals l) l = true
 | [], _ => rfl
 | a :: l, h => by
  rw [normDeals, List.map_cons, sameDeals, sameActs_norm a (deal_ok (h a (List.mem_cons_self ..))).2.2.1]
  exact sameDeals_norm l fun x hx => h x (List.mem_cons_of_mem _ hx)
theorem wActs_norm : ∀ l : List MAct, (∀ a ∈ l, checkAct a = 0) → (l.map norm).flatMap wAct = l.flatMap wAct
 | [], _ => rfl
 | a :: l, h => by
  rw [List.map_cons, List.flatMap_cons, List.flatMap_cons, wAct_norm a (h a (List.mem_cons_self ..)), wActs_norm l fun x hx => h x (List.mem_cons_of_mem _ hx)]
theorem wDeal_norm {l : List MAct} (h : (checkDeal l).1 = 0) : wDeal (l.map norm) = wDeal l := by
 rw [wDeal, wDeal, wActs_norm l (deal_ok h).2.2.1, List.length_map]
theorem wDeals_norm : ∀ l : List (List MAct), (∀ d ∈ l, (checkDeal d).1 = 0) → (normDeals l).flatMap wDeal = l.flatMap wDeal
 | [], _ => rfl
 | a :: l, h => by
  rw [normDeals, List.map_cons, List.flatMap_cons, List.flatMap_cons, wDeal_norm (h a (List.mem_cons_self ..))]
  have := wDeals_norm l fun x hx => h x (List.mem_cons_of_mem _ hx)
  rw [normDeals] at this
  rw [this]
theorem deal_norm {d : List MAct} (h : (checkDeal d).1 = 0) : (checkDeal (d.map norm)).1 = 0 := by
 obtain ⟨h1, h2, h3, _⟩ := deal_ok h
 rw [deal_of (by simpa using h1) (by simpa using h2) fun a ha => by
  obtain ⟨x, hx, rfl⟩ := List.mem_map.1 ha; exact norm_check (h3 x hx)]
theorem lot_norm {x : MLot} (h : (checkLot x).1 = 0) : checkLot ⟨x.num, normDeals x.deals⟩ = (0, 0) := by
 obtain ⟨h1, h2, h3, h4, h5, _⟩ := lot_ok h
 refine lot_of h1 h2 (by simpa [normDeals] using h3) (fun d hd => ?_) ?_
 ·obtain ⟨e, he, rfl⟩ := List.mem_map.1 hd; exact deal_norm (h4 e he)
 ·show (wU x.num.toNat ++ (wU (normDeals x.deals).length ++ (normDeals x.deals).flatMap wDeal)).length ≤ 2048
  rw [wDeals_norm _ h4, show (normDeals x.deals).length = x.deals.length from by simp [normDeals]]
  exact h5
theorem rDealsGo_of {b : List UInt8} : ∀ {l acc : List (List MAct)} {a : Nat} {rest : List UInt8}, (∀ d ∈ l, (checkDeal d).1 = 0 ∧ ∀ x ∈ d, FullA x) →
  b.drop a = l.flatMap wDeal ++ rest → rDealsGo b l.length acc a = .ok (acc ++ normDeals l, a + (l.flatMap wDeal).length)
 | [], acc, a, rest, hx, h => by simp [rDealsGo, normDeals]
 | x :: l, acc, a, rest, hx, h => by
  obtain ⟨h1, h2⟩ := hx x (List.mem_cons_self ..)
  rw [List.flatMap_cons, List.append_assoc] at h
  have e1 := rDeal_of h1 h2 h
  have e2 := rDealsGo_of (acc := acc ++ [x.map norm]) (fun y hy => hx y (List.mem_cons_of_mem _ hy)) (drop_step h)
  simp only [List.length_cons, rDealsGo, e1, e2, normDeals, List.map_cons, List.flatMap_cons, List.append_assoc, List.singleton_append, List.length_append, Nat.add_assoc]
theorem rDealsGo_at {b : List UInt8} : ∀ {k : Nat} {acc l : List (List MAct)} {a a' : Nat}, rDealsGo b k acc a = .ok (l, a') →
  a ≤ a' ∧ ∃ m : List (List MAct), l = acc ++ m ∧ m.length = k ∧ b.drop a = m.flatMap wDeal ++ b.drop a'
 | 0, acc, l, a, a', h => by
  injection h with h; injection h with e1 e2; subst e1; subst e2
  exact ⟨Nat.le_refl _, [], by simp, rfl, rfl⟩
 | k + 1, acc, l, a, a', h => by
  unfold rDealsGo at h
  split at h
  ·cases h
  ·rename_i x a1 h1
   obtain ⟨l1, c1, d1⟩ := rDeal_at h1
   obtain ⟨l2, m, em, hm, d2⟩ := rDealsGo_at h
   refine ⟨by omega, x :: m, by rw [em, List.append_assoc]; rfl, by simp [hm], ?_⟩
   rw [d1, d2, List.flatMap_cons, List.append_assoc]
theorem rLot_of {b rest : List UInt8} {x : MLot} {p : Nat} (hc : (checkLot x).1 = 0) (hf : ∀ d ∈ x.deals, ∀ a ∈ d, FullA a) (h : b.drop p = wLot x ++ rest) :
  rLot b p = .ok (⟨x.num, normDeals x.deals⟩, p + (wLot x).length) := by
 obtain ⟨h1, h2, h3, h4, h5, _⟩ := lot_ok hc
 obtain ⟨k, hk⟩ : ∃ k : Nat, x.num = k := ⟨x.num.toNat, by omega⟩
 have hn := lot_norm hc
 rw [wLot, List.append_assoc, List.append_assoc, hk, Int.toNat_natCast] at h
 have e1 := rUpto_of (most := 1099511627776) (by omega) (by omega) h
 have d1 := drop_step h
 have e2 := rUpto_of (most := 32) (by omega) h3 d1
 have d2 := drop_step d1
 have e3 := rDealsGo_of (acc := []) (fun d hd => ⟨h4 d hd, hf d hd⟩) d2
 unfold rLot
 simp only [e1]
 rw [if_neg (by omega)]
 unfold lBody
 simp only [e2, e3, List.nil_append]
 unfold lDone
 rw [hk] at hn ⊢
 rw [if_pos (by rw [hn]), wLot, hk, Int.toNat_natCast]
 simp only [List.length_append, Nat.add_assoc]
theorem rLot_at {b : List UInt8} {x : MLot} {a a' : Nat} (h : rLot b a = .ok (x, a')) : a < a' ∧ checkLot x = (0, 0) ∧ b.drop a = wLot x ++ b.drop a' := by
 unfold rLot at h
 split at h
 ·cases h
 ·rename_i k a1 h1
  split at h
  ·cases h
  ·rename_i hk
   obtain ⟨l1, _, d1⟩ := rUpto_at h1
   unfold lBody at h
   split at h
   ·cases h
   ·rename_i m a2 h2
    obtain ⟨l2, _, d2⟩ := rUpto_at h2
    split at h
    ·cases h
    ·rename_i l a3 h3
     obtain ⟨l3, l', em, hm, d3⟩ := rDealsGo_at h3
     rw [List.nil_append] at em
     subst em
     unfold lDone at h
     split at h
     ·rename_i hc
      injection h with h; injection h with e1 e2; subst e1; subst e2
      refine ⟨by omega, (lot_ok hc).2.2.2.2.2, ?_⟩
      rw [d1, d2, d3, wLot, hm, Int.toNat_natCast]
      simp only [List.append_assoc]
     ·cases h
theorem readLot_wLot {x : MLot} (hc : (checkLot x).1 = 0) (hf : ∀ d ∈ x.deals, ∀ a ∈ d, FullA a) : readLot (wLot x) = (⟨x.num, normDeals x.deals⟩, (0, 0)) := by
 have h := rLot_of (b := wLot x) (rest := []) (p := 0) hc hf (by simp)
 unfold readLot
 simp only [h]
 simp [rEnd]
theorem readLot_at {b : List UInt8} {x : MLot} {e : RErr} (h : readLot b = (x, e)) (he : e.1 = 0) : (checkLot x).1 = 0 ∧ wLot x = b ∧ e = (0, 0) := by
 unfold readLot at h
 split at h
 ·rename_i h1
  injection h with h2 h3; subst h3
  exact absurd he (rLot_nz h1)
 ·rename_i r a h1
  obtain ⟨l1, c1, d1⟩ := rLot_at h1
  split at h
  ·rename_i h2
   injection h with h3 h4; subst h4
   exact absurd he (rEnd_nz h2)
  ·rename_i h2
   injection h with h3 h4; subst h3; subst h4
   refine ⟨by rw [c1], ?_, rfl⟩
   unfold rEnd at h2
   split at h2
   ·cases h2
   ·rename_i hlt
    rw [List.drop_zero, List.drop_eq_nil_of_le (by omega), List.append_nil] at d1
    exact d1.symm
end Go.Proofs.YtbemnfbndjolpaaGreatDoor

/- A row of deals that comes in. -/
namespace Go.Proofs.YtbemnfbndjolpaaGreatDoor
open Go.RowKit Moi
def dealAt (l : List (List MAct)) (i : Nat) : List MAct := l.getD i []
theorem dealAt_drop (l : List (List MAct)) (i : Nat) (h : i < l.length) : l.drop i = dealAt l i :: l.drop (i + 1) := by
 rw [List.drop_eq_getElem_cons h]; simp [dealAt, List.getD, h]
theorem dealAt_mem (l : List (List MAct)) (i : Nat) (h : i < l.length) : dealAt l i ∈ l := by simp [dealAt, List.getD, h]
theorem actAt_mem (l : List MAct) (i : Nat) (h : i < l.length) : actAt l i ∈ l := by simp [actAt, List.getD, h]
structure DealCell (W : World) (b o : Nat) (d : List MAct) (A : Option Addr) (n c : Nat) : Prop where
 c0 : W.cell? ⟨b, o, none⟩ = some (.slice A n c)
 it : RdActs W A n d
theorem DealCell.cln {W W' : World} {b o : Nat} {d : List MAct} {A : Option Addr} {n c : Nat} (h : DealCell W b o d A n c) (k : Cln W W') : DealCell W' b o d A n c :=
 ⟨(Kept.of_below (S := fun _ => False) k).cell h.c0 id, h.it.cln k⟩
structure RdDeals (W : World) (A : Option Addr) (n : Nat) (l : List (List MAct)) : Prop where
 len : l.length = n
 rows : 0 < n → ∃ b o, A = some ⟨b, o, none⟩ ∧ b < W.heap.size ∧ ∀ i, i < n → ∃ Ai ni ci, DealCell W b (o + i) (dealAt l i) Ai ni ci
theorem RdDeals.cln {W W' : World} {A : Option Addr} {n : Nat} {l : List (List MAct)} (h : RdDeals W A n l) (k : Cln W W') : RdDeals W' A n l := by
 refine ⟨h.len, fun h0 => ?_⟩
 obtain ⟨b, o, rfl, hb, hi⟩ := h.rows h0
 refine ⟨b, o, rfl, Nat.lt_of_lt_of_le hb k.size, fun i hlt => ?_⟩
 obtain ⟨Ai, ni, ci, hc⟩ := hi i hlt
 exact ⟨Ai, ni, ci, hc.cln k⟩
theorem RdActs.full {W : World} {A : Option Addr} {n : Nat} {l : List MAct} (h : RdActs W A n l) : ∀ a ∈ l, FullA a := by
 intro a ha
 obtain ⟨i, hi, rfl⟩ := List.getElem_of_mem ha
 have hl := h.len
 obtain ⟨b, o, _, _, hr⟩ := h.rows (by omega)
 obtain ⟨Ai, ni, ci, hc⟩ := hr i (by omega)
 have := hc.full
 simpa [actAt, hi] using this
theorem RdDeals.full {W : World} {A : Option Addr} {n : Nat} {l : List (List MAct)} (h : RdDeals W A n l) : ∀ d ∈ l, ∀ a ∈ d, FullA a := by
 intro d hd
 obtain ⟨i, hi, rfl⟩ := List.getElem_of_mem hd
 have hl := h.len
 obtain ⟨b, o, _, _, hr⟩ := h.rows (by omega)
 obtain ⟨Ai, ni, ci, hc⟩ := hr i (by omega)
 have := hc.it.full
 simpa [dealAt, hi] using this
end Go.Proofs.YtbemnfbndjolpaaGreatDoor
