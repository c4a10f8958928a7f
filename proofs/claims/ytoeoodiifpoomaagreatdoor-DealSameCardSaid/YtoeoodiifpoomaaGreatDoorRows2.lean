import Derived.Test.YtoeoodiifpoomaaGreatDoorWAct5
import Derived.Test.YtoeoodiifpoomaaGreatDoorPlain
/- Layer 4, plainly: acts there and back. -/
set_option linter.unusedSimpArgs false
set_option linter.unusedVariables false
set_option maxRecDepth 20000
namespace Go.Proofs.YtoeoodiifpoomaaGreatDoor
open Moi
structure FullA (a : MAct) : Prop where
 wf : a.WF
 sc : ∀ x ∈ a.make.list, x.score < 18446744073709551616
def norm (a : MAct) : MAct := ⟨a.kind, a.key, a.n, a.x, a.s, if a.kind = 1 then a.make else zeroRec, a.must⟩
theorem rFlag_of {b rest : List UInt8} {m : Bool} {a : Nat} (h : b.drop a = wFlag m ++ rest) : rFlag b a = .ok (m, a + 1) := by
 obtain ⟨h1, _⟩ := rOne_of (x := if m then 1 else 0) h
 unfold rFlag
 rw [h1]
 cases m <;> rfl
section
variable {b rest : List UInt8} {c : Bool} {a a' : Nat}
theorem optI_of {n : Int} (hn : -9223372036854775808 ≤ n ∧ n < 9223372036854775808) (h0 : c = false → n = 0) (h : b.drop a = (if c then wI n else []) ++ rest) :
  (if c then rI b a else .ok (0, a)) = .ok (n, a + (if c then wI n else []).length) := by
 cases c with
 | true => exact rI_of hn h
 | false => rw [h0 rfl]; rfl
theorem optF_of {x : Nat} (hx : x < 18446744073709551616) (hp : fproper x = true) (h0 : c = false → x = 0) (h : b.drop a = (if c then wF x else []) ++ rest) :
  (if c then rF b a else .ok (0, a)) = .ok (x, a + (if c then wF x else []).length) := by
 cases c with
 | true => exact rF_of hx hp h
 | false => rw [h0 rfl]; rfl
theorem optS_of {s : List UInt8} {most : Nat} (hs : s.length ≤ most) (hm : most < 18446744073709551616) (h0 : c = false → s = []) (h : b.drop a = (if c then wS s else []) ++ rest) :
  (if c then rS most b a else .ok ([], a)) = .ok (s, a + (if c then wS s else []).length) := by
 cases c with
 | true => exact rS_of hs hm h
 | false => rw [h0 rfl]; rfl
theorem optR_of {r : MRec} (hc : c = true → checkRec r = 0) (hf : r.Full) (h : b.drop a = (if c then wRec r else []) ++ rest) :
  (if c then rRec b a else .ok (zeroRec, a)) = .ok (if c then r else zeroRec, a + (if c then wRec r else []).length) := by
 cases c with
 | true => exact rRec_of (hc rfl) hf h
 | false => rfl
end
theorem norm_check {a : MAct} (h : checkAct a = 0) : checkAct (norm a) = 0 := by
 by_cases hk : a.kind = 1
 ·have : norm a = a := by unfold norm; rw [if_pos hk]
  rw [this]; exact h
 ·obtain ⟨h1, h2, h3, h4, hb, h6, h7, h8⟩ := act_ok h
  have hm : hasF a.kind 109 = false := by
   obtain ⟨k, e⟩ : ∃ k : Nat, a.kind = (k : Int) := ⟨a.kind.toNat, by omega⟩
   rw [e, hasF_109 k (by omega)]; exact decide_eq_false (by omega)
  have hb' : bareA (norm a) = true := by
   unfold bareA at hb ⊢
   unfold norm
   rw [if_neg hk]
   simp only [Bool.and_eq_true] at hb ⊢
   refine ⟨hb.1, ?_⟩
   rw [hm]
   decide
  unfold checkAct at h ⊢
  rw [if_neg (by omega), if_neg (by omega), if_neg (by rw [hb]; decide)] at h
  rw [if_neg (by unfold norm; dsimp only; omega), if_neg (by unfold norm; dsimp only; omega), if_neg (by rw [hb']; decide)]
  unfold norm
  dsimp only
  simp only [if_neg hk] at h ⊢
  exact h
theorem rAct_of {b rest : List UInt8} {a : MAct} {p : Nat} (hc : checkAct a = 0) (hf : FullA a) (h : b.drop p = wAct a ++ rest) :
  rAct b p = .ok (norm a, p + (wAct a).length) := by
 obtain ⟨h1, h2, h3, h4, hb, h6, h7, h8⟩ := act_ok hc
 obtain ⟨k, e⟩ : ∃ k : Nat, a.kind = (k : Int) := ⟨a.kind.toNat, by omega⟩
 have hm := hasF_109 k (by omega)
 have hb' := hb
 unfold bareA at hb'
 simp only [Bool.and_eq_true, Bool.or_eq_true] at hb'
 obtain ⟨⟨⟨b1, b2⟩, b3⟩, b4⟩ := hb'
 rw [e] at b1 b2 b3 b4 h6
 have hlen : (wAct a).length = (wU k).length + ((wFlag a.must).length + ((wS a.key).length + ((if hasF k 110 then wI a.n else []).length + ((if hasF k 120 then wF a.x else []).length + ((if hasF k 115 then wS a.s else []).length + (if hasF k 109 then wRec a.make else []).length))))) := by
  unfold wAct; rw [e, Int.toNat_natCast]; simp only [List.length_append]
 have hw : wAct a ++ rest = wU k ++ (wFlag a.must ++ (wS a.key ++ ((if hasF k 110 then wI a.n else []) ++ ((if hasF k 120 then wF a.x else []) ++ ((if hasF k 115 then wS a.s else []) ++ ((if hasF k 109 then wRec a.make else []) ++ rest)))))) := by
  unfold wAct; rw [e, Int.toNat_natCast]; simp only [List.append_assoc]
 rw [hw] at h
 rw [hlen]
 have eU := rUpto_of (most := 21) (by omega) (by omega) h
 have dU := drop_step h
 have eF : rFlag b (p + (wU k).length) = .ok (a.must, p + (wU k).length + (wFlag a.must).length) := rFlag_of dU
 have dF := drop_step dU
 have eK := rS_of (most := 24) h4 (by omega) dF
 have dK := drop_step dF
 have eN := optI_of (c := hasF k 110) hf.wf.n (fun hz => by rw [hz] at b1; simpa using b1) dK
 have dN := drop_step dK
 have eX := optF_of (c := hasF k 120) hf.wf.x h7 (fun hz => by rw [hz] at b2; exact zero_score hf.wf.x h7 (by simpa using b2)) dN
 have dX := drop_step dN
 have eS := optS_of (c := hasF k 115) h6 (by unfold mostOf; split <;> omega) (fun hz => by rw [hz] at b3; simpa using b3) dX
 have dS := drop_step dX
 have eR := optR_of (c := hasF k 109) (fun hz => h8 (by rw [hm] at hz; have := of_decide_eq_true hz; omega)) ⟨hf.wf.make, hf.sc⟩ dS
 unfold rAct
 simp only [eU]
 rw [if_neg (by omega)]
 unfold aMust
 simp only [eF]
 unfold aKey
 simp only [eK]
 unfold aN
 simp only [eN]
 unfold aX
 simp only [eX]
 unfold aS
 simp only [eS]
 unfold aM
 simp only [eR]
 have hx : (⟨(k : Int), a.key, a.n, a.x, a.s, if hasF k 109 then a.make else zeroRec, a.must⟩ : MAct) = norm a := by
  unfold norm; rw [hm, ← e]
  by_cases hk : a.kind = 1
  ·rw [if_pos hk, if_pos (by rw [decide_eq_true_iff]; omega)]
  ·rw [if_neg hk, if_neg (by rw [decide_eq_true_iff]; omega)]
 rw [hx]
 unfold aDone
 rw [if_pos (norm_check hc)]
 simp only [Nat.add_assoc]
theorem sameAct_refl (a : MAct) : sameAct a a = true := by simp [sameAct, fsame, sameRec_refl]
end Go.Proofs.YtoeoodiifpoomaaGreatDoor

/- A row of acts that come in. (Printed by wip/tools/gen_lactt.py.) -/
namespace Go.Proofs.YtoeoodiifpoomaaGreatDoor
open Go.RowKit Moi
def actAt (l : List MAct) (i : Nat) : MAct := l.getD i zeroAct
theorem actAt_drop (l : List MAct) (i : Nat) (h : i < l.length) : l.drop i = actAt l i :: l.drop (i + 1) := by
 rw [List.drop_eq_getElem_cons h]; simp [actAt, List.getD, h]
structure ActCells (W : World) (b o : Nat) (r : MAct) (A : Option Addr) (n c : Nat) : Prop where
 c0 : W.cell? ⟨b, o, none⟩ = some (.int .i64 r.kind)
 c1 : W.cell? ⟨b, o + 1, none⟩ = some (.string (str r.key))
 c2 : W.cell? ⟨b, o + 2, none⟩ = some (.int .i64 r.n)
 c3 : W.cell? ⟨b, o + 3, none⟩ = some (.float .f64 r.x)
 c4 : W.cell? ⟨b, o + 4, none⟩ = some (.string (str r.s))
 c5 : W.cell? ⟨b, o + 5, none⟩ = some (.int .i64 r.make.kind)
 c6 : W.cell? ⟨b, o + 6, none⟩ = some (.int .i64 r.make.num)
 c7 : W.cell? ⟨b, o + 7, none⟩ = some (.int .i64 r.make.low)
 c8 : W.cell? ⟨b, o + 8, none⟩ = some (.int .i64 r.make.high)
 c9 : W.cell? ⟨b, o + 9, none⟩ = some (.float .f64 r.make.real)
 c10 : W.cell? ⟨b, o + 10, none⟩ = some (.int .i64 r.make.cap)
 c11 : W.cell? ⟨b, o + 11, none⟩ = some (.string (str r.make.text))
 c12 : W.cell? ⟨b, o + 12, none⟩ = some (.slice A n c)
 c13 : W.cell? ⟨b, o + 13, none⟩ = some (.bool r.must)
 it : RdItems W A n r.make.list
 wf : r.WF
theorem ActCells.cln {W W' : World} {b o : Nat} {r : MAct} {A : Option Addr} {n c : Nat} (h : ActCells W b o r A n c) (k : Cln W W') : ActCells W' b o r A n c := by
 have k' := Kept.of_below (S := fun _ => False) k
 exact ⟨k'.cell h.c0 id, k'.cell h.c1 id, k'.cell h.c2 id, k'.cell h.c3 id, k'.cell h.c4 id, k'.cell h.c5 id, k'.cell h.c6 id, k'.cell h.c7 id, k'.cell h.c8 id, k'.cell h.c9 id, k'.cell h.c10 id, k'.cell h.c11 id, k'.cell h.c12 id, k'.cell h.c13 id, h.it.cln k, h.wf⟩
structure RdActs (W : World) (A : Option Addr) (n : Nat) (l : List MAct) : Prop where
 len : l.length = n
 rows : 0 < n → ∃ b o, A = some ⟨b, o, none⟩ ∧ b < W.heap.size ∧ ∀ i, i < n → ∃ Ai ni ci, ActCells W b (o + i * 14) (actAt l i) Ai ni ci
theorem RdActs.cln {W W' : World} {A : Option Addr} {n : Nat} {l : List MAct} (h : RdActs W A n l) (k : Cln W W') : RdActs W' A n l := by
 refine ⟨h.len, fun h0 => ?_⟩
 obtain ⟨b, o, rfl, hb, hi⟩ := h.rows h0
 refine ⟨b, o, rfl, Nat.lt_of_lt_of_le hb k.size, fun i hlt => ?_⟩
 obtain ⟨Ai, ni, ci, hc⟩ := hi i hlt
 exact ⟨Ai, ni, ci, hc.cln k⟩
end Go.Proofs.YtoeoodiifpoomaaGreatDoor

/- Layer 8, plainly: deals. No program. -/
namespace Moi
def actsErr : Nat → List MAct → Nat × Nat
 | _, [] => (0, 0)
 | i, a :: l => if checkAct a = 0 then actsErr (i + 1) l else (checkAct a, i + 1)
def checkDeal (l : List MAct) : Nat × Nat := if l.length < 1 ∨ 12 < l.length then (1, 0) else actsErr 0 l
def sameActs : List MAct → List MAct → Bool
 | [], [] => true
 | a :: l, b :: m => sameAct a b && sameActs l m
 | _, _ => false
def wDeal (l : List MAct) : List UInt8 := wU l.length ++ l.flatMap wAct
def bigDeal (l : List MAct) : Bool := decide (40 < l.length) || l.any bigAct
def rActsGo (b : List UInt8) : Nat → List MAct → Nat → RRes (List MAct)
 | 0, acc, a => .ok (acc, a)
 | k + 1, acc, a =>
  match rAct b a with
  | .error e => .error e
  | .ok (x, a) => rActsGo b k (acc ++ [x]) a
def rDeal (b : List UInt8) (a : Nat) : RRes (List MAct) :=
 match rUpto 12 b a with
 | .error e => .error e
 | .ok (k, a) => if k = 0 then .error (1, a) else rActsGo b k [] a
def readDeal (bs : List UInt8) : List MAct × RErr := match rDeal bs 0 with
 | .error e => ([], e)
 | .ok (r, a) => match rEnd bs a with
  | .error e => ([], e)
  | .ok _ => (r, (0, 0))
theorem actsErr_zero : ∀ (l : List MAct) (i : Nat), (actsErr i l).1 = 0 → (∀ a ∈ l, checkAct a = 0) ∧ actsErr i l = (0, 0)
 | [], _, _ => ⟨fun _ h => (by cases h), rfl⟩
 | a :: l, i, h => by
  unfold actsErr at h ⊢
  by_cases hc : checkAct a = 0
  ·rw [if_pos hc] at h ⊢
   obtain ⟨h1, h2⟩ := actsErr_zero l (i + 1) h
   exact ⟨fun x hx => (by rcases List.mem_cons.1 hx with rfl | hx; exact hc; exact h1 x hx), h2⟩
  ·rw [if_neg hc] at h; exact absurd h hc
theorem deal_ok {l : List MAct} (h : (checkDeal l).1 = 0) : 1 ≤ l.length ∧ l.length ≤ 12 ∧ (∀ a ∈ l, checkAct a = 0) ∧ checkDeal l = (0, 0) := by
 unfold checkDeal at h ⊢
 split at h
 ·cases h
 ·rename_i hn
  rw [if_neg hn]
  obtain ⟨h1, h2⟩ := actsErr_zero l 0 h
  exact ⟨by omega, by omega, h1, h2⟩
theorem sameActs_len : ∀ l m : List MAct, l.length ≠ m.length → sameActs l m = false
 | [], [], h => absurd rfl h
 | [], _ :: _, _ => rfl
 | _ :: _, [], _ => rfl
 | x :: l, y :: m, h => by rw [sameActs, sameActs_len l m (by simpa using h)]; simp
theorem rActsGo_nz {b : List UInt8} {e : RErr} : ∀ {k : Nat} {acc : List MAct} {a : Nat}, rActsGo b k acc a = .error e → e.1 ≠ 0
 | 0, acc, a, h => by cases h
 | k + 1, acc, a, h => by
  unfold rActsGo at h
  split at h
  ·rename_i h1; exact nz_of h (rAct_nz h1)
  ·exact rActsGo_nz h
theorem rDeal_nz {b : List UInt8} {a : Nat} {e : RErr} (h : rDeal b a = .error e) : e.1 ≠ 0 := by
 unfold rDeal at h
 split at h
 ·rename_i h1; exact nz_of h (rUpto_nz h1)
 split at h
 ·exact nz_of h (by simp)
 ·exact rActsGo_nz h
end Moi

/- Layer 8, plainly: deals there and back. No program. -/
namespace Go.Proofs.YtoeoodiifpoomaaGreatDoor
open Moi
theorem sameActs_refl : ∀ l : List MAct, sameActs l l = true
 | [] => rfl
 | a :: l => by rw [sameActs, sameAct_refl, sameActs_refl l]; rfl
theorem rActsGo_of {b : List UInt8} : ∀ {l acc : List MAct} {a : Nat} {rest : List UInt8}, (∀ x ∈ l, checkAct x = 0 ∧ FullA x) →
  b.drop a = l.flatMap wAct ++ rest → rActsGo b l.length acc a = .ok (acc ++ l.map norm, a + (l.flatMap wAct).length)
 | [], acc, a, rest, hx, h => by simp [rActsGo]
 | x :: l, acc, a, rest, hx, h => by
  obtain ⟨h1, h2⟩ := hx x (List.mem_cons_self ..)
  rw [List.flatMap_cons, List.append_assoc] at h
  have e1 := rAct_of h1 h2 h
  have e2 := rActsGo_of (acc := acc ++ [norm x]) (fun y hy => hx y (List.mem_cons_of_mem _ hy)) (drop_step h)
  simp only [List.length_cons, rActsGo, e1, e2, List.map_cons, List.flatMap_cons, List.append_assoc, List.singleton_append, List.length_append, Nat.add_assoc]
theorem rDeal_of {b rest : List UInt8} {l : List MAct} {p : Nat} (hc : (checkDeal l).1 = 0) (hf : ∀ x ∈ l, FullA x) (h : b.drop p = wDeal l ++ rest) :
  rDeal b p = .ok (l.map norm, p + (wDeal l).length) := by
 obtain ⟨h1, h2, h3, _⟩ := deal_ok hc
 rw [wDeal, List.append_assoc] at h
 have e1 := rUpto_of (most := 12) (by omega) (by omega) h
 have e2 := rActsGo_of (acc := []) (fun x hx => ⟨h3 x hx, hf x hx⟩) (drop_step h)
 unfold rDeal
 simp only [e1]
 rw [if_neg (by omega), e2, List.nil_append, wDeal, List.length_append, Nat.add_assoc]
end Go.Proofs.YtoeoodiifpoomaaGreatDoor

/- A row of deals that comes in. -/
namespace Go.Proofs.YtoeoodiifpoomaaGreatDoor
open Go.RowKit Moi
def dealAt (l : List (List MAct)) (i : Nat) : List MAct := l.getD i []
theorem actAt_mem (l : List MAct) (i : Nat) (h : i < l.length) : actAt l i ∈ l := by simp [actAt, List.getD, h]
structure DealCell (W : World) (b o : Nat) (d : List MAct) (A : Option Addr) (n c : Nat) : Prop where
 c0 : W.cell? ⟨b, o, none⟩ = some (.slice A n c)
 it : RdActs W A n d
theorem DealCell.cln {W W' : World} {b o : Nat} {d : List MAct} {A : Option Addr} {n c : Nat} (h : DealCell W b o d A n c) (k : Cln W W') : DealCell W' b o d A n c :=
 ⟨(Kept.of_below (S := fun _ => False) k).cell h.c0 id, h.it.cln k⟩
structure RdDeals (W : World) (A : Option Addr) (n : Nat) (l : List (List MAct)) : Prop where
 len : l.length = n
 rows : 0 < n → ∃ b o, A = some ⟨b, o, none⟩ ∧ b < W.heap.size ∧ ∀ i, i < n → ∃ Ai ni ci, DealCell W b (o + i) (dealAt l i) Ai ni ci
theorem RdDeals.cln {W W' : World} {A : Option Addr} {n : Nat} {l : List (List MAct)} (h : RdDeals W A n l) (k : Cln W W') : RdDeals W' A n l := by
 refine ⟨h.len, fun h0 => ?_⟩
 obtain ⟨b, o, rfl, hb, hi⟩ := h.rows h0
 refine ⟨b, o, rfl, Nat.lt_of_lt_of_le hb k.size, fun i hlt => ?_⟩
 obtain ⟨Ai, ni, ci, hc⟩ := hi i hlt
 exact ⟨Ai, ni, ci, hc.cln k⟩
end Go.Proofs.YtoeoodiifpoomaaGreatDoor
