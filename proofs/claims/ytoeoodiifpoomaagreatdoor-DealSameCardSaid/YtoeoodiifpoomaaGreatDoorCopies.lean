import Derived.Test.YtoeoodiifpoomaaGreatDoorRecs
import Derived.Test.YtoeoodiifpoomaaGreatDoorOwns
import Derived.Lib.SliceRun
import Derived.Deep.RegionLaw
/- Answers, plainly; rows of answers. (Printed by wip/tools/gen_ans.py.) -/
set_option linter.unusedSimpArgs false
set_option linter.unusedVariables false
set_option maxRecDepth 20000
namespace Moi
structure MAns where
 code : Int
 num : Int
 r : MRec
def zeroAns : MAns := ⟨0, 0, zeroRec⟩
def ansAt (l : List MAns) (i : Nat) : MAns := l.getD i zeroAns
def sameAns (a b : MAns) : Bool := a.code == b.code && a.num == b.num && sameRec a.r b.r
def sameAnss : List MAns → List MAns → Bool
 | [], [] => true
 | a :: l, b :: m => sameAns a b && sameAnss l m
 | _, _ => false
theorem ansAt_drop (l : List MAns) (i : Nat) (h : i < l.length) : l.drop i = ansAt l i :: l.drop (i + 1) := by
 rw [List.drop_eq_getElem_cons h]; simp [ansAt, List.getD, h]
theorem sameAnss_len : ∀ l m : List MAns, l.length ≠ m.length → sameAnss l m = false
 | [], [], h => absurd rfl h
 | [], _ :: _, _ => rfl
 | _ :: _, [], _ => rfl
 | x :: l, y :: m, h => by rw [sameAnss, sameAnss_len l m (by simpa using h)]; simp
theorem sameAnss_step (l m : List MAns) (i : Nat) (hl : i < l.length) (hm : i < m.length) :
  sameAnss (l.drop i) (m.drop i) = (sameAns (ansAt l i) (ansAt m i) && sameAnss (l.drop (i + 1)) (m.drop (i + 1))) := by
 rw [ansAt_drop l i hl, ansAt_drop m i hm, sameAnss]
end Moi
namespace Go.Proofs.YtoeoodiifpoomaaGreatDoor
open Go.RowKit Moi
structure AnsCells (W : World) (b o : Nat) (x : MAns) (A : Option Addr) (n c : Nat) : Prop where
 c0 : W.cell? ⟨b, o, none⟩ = some (.int .i64 x.code)
 c1 : W.cell? ⟨b, o + 1, none⟩ = some (.int .i64 x.num)
 c2 : W.cell? ⟨b, o + 2, none⟩ = some (.int .i64 x.r.kind)
 c3 : W.cell? ⟨b, o + 3, none⟩ = some (.int .i64 x.r.num)
 c4 : W.cell? ⟨b, o + 4, none⟩ = some (.int .i64 x.r.low)
 c5 : W.cell? ⟨b, o + 5, none⟩ = some (.int .i64 x.r.high)
 c6 : W.cell? ⟨b, o + 6, none⟩ = some (.float .f64 x.r.real)
 c7 : W.cell? ⟨b, o + 7, none⟩ = some (.int .i64 x.r.cap)
 c8 : W.cell? ⟨b, o + 8, none⟩ = some (.string (str x.r.text))
 c9 : W.cell? ⟨b, o + 9, none⟩ = some (.slice A n c)
 it : RdItems W A n x.r.list
 wf : x.r.WF
theorem AnsCells.cln {W W' : World} {b o : Nat} {x : MAns} {A : Option Addr} {n c : Nat} (h : AnsCells W b o x A n c) (k : Cln W W') : AnsCells W' b o x A n c := by
 have k' := Kept.of_below (S := fun _ => False) k
 exact ⟨k'.cell h.c0 id, k'.cell h.c1 id, k'.cell h.c2 id, k'.cell h.c3 id, k'.cell h.c4 id, k'.cell h.c5 id, k'.cell h.c6 id, k'.cell h.c7 id, k'.cell h.c8 id, k'.cell h.c9 id, h.it.cln k, h.wf⟩
structure RdAns (W : World) (A : Option Addr) (n : Nat) (l : List MAns) : Prop where
 len : l.length = n
 rows : 0 < n → ∃ b o, A = some ⟨b, o, none⟩ ∧ b < W.heap.size ∧ ∀ i, i < n → ∃ Ai ni ci, AnsCells W b (o + i * 10) (ansAt l i) Ai ni ci
theorem RdAns.cln {W W' : World} {A : Option Addr} {n : Nat} {l : List MAns} (h : RdAns W A n l) (k : Cln W W') : RdAns W' A n l := by
 refine ⟨h.len, fun h0 => ?_⟩
 obtain ⟨b, o, rfl, hb, hi⟩ := h.rows h0
 refine ⟨b, o, rfl, Nat.lt_of_lt_of_le hb k.size, fun i hlt => ?_⟩
 obtain ⟨Ai, ni, ci, hc⟩ := hi i hlt
 exact ⟨Ai, ni, ci, hc.cln k⟩
end Go.Proofs.YtoeoodiifpoomaaGreatDoor

/- The walks of slices.Clone over acts, and of deal.Clone. (Printed by wip/tools/gen_clone.py.) -/
namespace Go.Proofs.YtoeoodiifpoomaaGreatDoor
open Go.RowKit Moi
attribute [local go_sem] toList_str str_size less_ltB store_float
theorem own_set {w : World} {base e sz n c g j : Nat} {xs : List Value} (h : w.ownsRow base e sz (.slice (some ⟨g, 0, none⟩) n c) n xs) (hj : j < n * sz) (u : Value) : (w.setCell ⟨g, j, none⟩ u).ownsRow base e sz (.slice (some ⟨g, 0, none⟩) n c) n (xs.set j u) := by
 refine ⟨by rw [List.length_set]; exact h.1, ?_⟩
 rcases h.2 with ⟨hv, _⟩ | ⟨g', cap, cur, hv, hb, hg, hn, hm, hsz, htake⟩
 ·cases hv
 ·injection hv with h1 h2 h3
  injection h1 with h1; injection h1 with h1
  subst h1; subst h3
  refine .inr ⟨g, c, cur.setIfInBounds j u, rfl, hb, Blk.set_ hg j u, hn, hm, by simpa using hsz, ?_⟩
  rw [← htake, Array.toList_setIfInBounds, List.take_set]
theorem aq_one_cell (l : List AQ) : ∀ u ∈ aqVals l, u.oneCell' = true := by
 intro u hu
 obtain ⟨x, _, hx⟩ := List.mem_flatMap.1 hu
 simp [AQ.vals] at hx
 rcases hx with rfl | rfl | rfl | rfl | rfl | rfl | rfl | rfl | rfl | rfl | rfl | rfl | rfl | rfl <;> rfl
def aqAt (l : List AQ) (i : Nat) : AQ := l.getD i ⟨zeroAct, none, 0, 0⟩
theorem acts_aq {w : World} {A : Option Addr} {n : Nat} {l : List MAct} (h : RdActs w A n l) :
  ∃ q : List AQ, q.map (·.a) = l ∧ (∀ ad, A = some ad → ∀ j u, (aqVals q)[j]? = some u → w.cell? (ad.add j) = some u) ∧ (A = none → n = 0) ∧ ∀ x ∈ q, x.a.WF ∧ RdItems w x.A x.n x.a.make.list := by
 have hl := h.len
 rcases Nat.eq_zero_or_pos n with h0 | h0
 ·have : l = [] := List.eq_nil_of_length_eq_zero (by omega)
  subst this
  exact ⟨[], rfl, fun _ _ j u hu => by simp [aqVals] at hu, fun _ => h0, fun _ hx => by cases hx⟩
 obtain ⟨b, o, rfl, hb, hr⟩ := h.rows h0
 have key : ∀ i, i < n → ∃ x : AQ, x.a = actAt l i ∧ ActCells w b (o + i * 14) x.a x.A x.n x.c := fun i hi => by
  obtain ⟨Ai, ni, ci, hc⟩ := hr i hi
  exact ⟨⟨actAt l i, Ai, ni, ci⟩, rfl, hc⟩
 have hF : ∃ F : Nat → AQ, ∀ i, i < n → (F i).a = actAt l i ∧ ActCells w b (o + i * 14) (F i).a (F i).A (F i).n (F i).c :=
  ⟨fun i => if h : i < n then Classical.choose (key i h) else ⟨zeroAct, none, 0, 0⟩, fun i h => by simp only [dif_pos h]; exact Classical.choose_spec (key i h)⟩
 obtain ⟨F, hF⟩ := hF
 have hat : ∀ i, i < n → ((List.range n).map F).getD i ⟨zeroAct, none, 0, 0⟩ = F i := by intro i hi; simp [hi]
 refine ⟨(List.range n).map F, ?_, ?_, fun e => (by cases e), ?_⟩
 ·apply List.ext_getElem
  ·simp [hl]
  ·intro i h1 h2
   simp only [List.getElem_map, List.getElem_range]
   rw [(hF i (by omega)).1]; simp [actAt, List.getD, h2]
 ·intro ad e j u hu
  injection e with e; subst e
  have hj : j < n * 14 := by
   have := (List.getElem?_eq_some_iff.1 hu).1
   rw [aqVals_length] at this; simpa using this
  have hi : j / 14 < n := by omega
  have h1 := aqVals_get ((List.range n).map F) (j / 14) (j % 14) (by simpa using hi) (by omega)
  rw [hat _ hi, show j / 14 * 14 + j % 14 = j from by omega, hu] at h1
  have hc := (hF _ hi).2
  have e2 : (⟨b, o, none⟩ : Addr).add j = ⟨b, o + j, none⟩ := by unfold Addr.add; split <;> simp_all
  rw [e2, show o + j = o + j / 14 * 14 + j % 14 from by omega]
  have hm : j % 14 < 14 := by omega
  generalize j / 14 = i at h1 hc
  generalize j % 14 = k at h1 hm
  have hk : k = 0 ∨ k = 1 ∨ k = 2 ∨ k = 3 ∨ k = 4 ∨ k = 5 ∨ k = 6 ∨ k = 7 ∨ k = 8 ∨ k = 9 ∨ k = 10 ∨ k = 11 ∨ k = 12 ∨ k = 13 := by omega
  rcases hk with rfl | rfl | rfl | rfl | rfl | rfl | rfl | rfl | rfl | rfl | rfl | rfl | rfl | rfl <;> (simp [AQ.vals] at h1; subst h1)
  ·exact hc.c0
  ·exact hc.c1
  ·exact hc.c2
  ·exact hc.c3
  ·exact hc.c4
  ·exact hc.c5
  ·exact hc.c6
  ·exact hc.c7
  ·exact hc.c8
  ·exact hc.c9
  ·exact hc.c10
  ·exact hc.c11
  ·exact hc.c12
  ·exact hc.c13
 ·intro x hx
  obtain ⟨i, hi, rfl⟩ := List.mem_map.1 hx
  have := (hF i (by simpa using hi)).2
  exact ⟨this.wf, this.it⟩
set_option maxHeartbeats 4000000 in
theorem scloneA_any (l : List MAct) (A : Option Addr) (n c : Nat) (w0 w : World) (hcl0 : Cln w0 w) (hr0 : RdActs w0 A n l) (hn : n ≤ 1048576) :
  Calls Tryz.prog 92 #[.slice A n c] w fun e w' => ∃ (A' : Option Addr) (c' : Nat) (q : List AQ), e = .returned (.slice A' n c') ∧ q.map (·.a) = l ∧ w'.ownsRow w.heap.size 90 14 (.slice A' n c') n (aqVals q) ∧ (∀ x ∈ q, x.a.WF ∧ RdItems w0 x.A x.n x.a.make.list) ∧ Cln w w' := by
 obtain ⟨i0, hi, hz0, hz1, hz2⟩ := info_parts Tryz.info90
 obtain ⟨q, hq, hsrc0, hnone, hit⟩ := acts_aq hr0
 have hsrc : ∀ ad, A = some ad → ∀ j u, (aqVals q)[j]? = some u → w.cell? (ad.add j) = some u := fun ad e j u hu => (Kept.of_below (S := fun _ => False) hcl0).cell (hsrc0 ad e j u hu) id
 clear hsrc0
 have hlen : (aqVals q).length = n * 14 := by rw [aqVals_length, ← hr0.len, ← hq, List.length_map]
 have hq' := Lib.hid hq
 have hit' := Lib.hid hit
 rcases A with _ | ad
 ·obtain rfl := hnone rfl
  have hl0 : q = [] := List.eq_nil_of_length_eq_zero (by rw [aqVals_length] at hlen; omega)
  have heq : ∀ W : World, (binOp .eql 46 (.slice none 0 c) (.slice none 0 0)).run Tryz.prog W = .ok (.bool true) W := fun W => Lib.run_eql_slice_nil W _ 90 none 0 c 0 0 Tryz.underlying46
  clear hq hit hsrc hnone hlen
  subst hl0
  go_enter Tryz.func92, Tryz.ntmps92
  go_wp2_with (simp only [heq])
  go_ret
  exact ⟨none, 0, [], rfl, hq'.out, World.ownsRow_nil _ _ _ _, hit'.out, Below.refl _ _⟩
 ·have hlen' := Lib.hid hlen
  have heq : ∀ W : World, (binOp .eql 46 (.slice (some ad) n c) (.slice none 0 0)).run Tryz.prog W = .ok (.bool false) W := fun W => Lib.run_eql_slice_nil W _ 90 (some ad) n c 0 0 Tryz.underlying46
  have hlit := World.ownsRow_lit (base := w.heap.size) (e := 90) (size := 14) w #[] 0 (Nat.le_refl _) (Nat.zero_le _) rfl
  have hcln : Cln w (w.alloc (.cells #[] 90)) := (Below.refl _ _).alloc (Nat.le_refl _) _
  have hsrc2 : Hid (∀ ad' : Addr, some ad = some ad' → ∀ j u, (aqVals q)[j]? = some u → (w.alloc (.cells #[] 90)).cell? (ad'.add j) = some u) := fun ad' e j u hu => (Kept.of_below (S := fun _ => False) hcln).cell (hsrc ad' e j u hu) id
  have hnone2 : Hid (some ad = none → n = 0) := fun e => by cases e
  clear hq hit hsrc hnone hlen
  go_enter Tryz.func92, Tryz.ntmps92
  go_wp2_with (first | simp only [heq] | (
   at_builtin
   refine wpList_cat rfl _ _ 46 rfl w.heap.size 90 i0 (.agg #[.int .i64 0, .string ⟨#[]⟩, .int .i64 0, .float .f64 0, .string ⟨#[]⟩, .int .i64 0, .int .i64 0, .int .i64 0, .int .i64 0, .float .f64 0, .int .i64 0, .string ⟨#[]⟩, .slice none 0 0, .bool false]) 14 152 Tryz.underlying46 hi hz0 hz1 hz2 rfl (by decide) (by decide) (.slice (some ⟨w.heap.size, 0, none⟩) 0 0) 0 [] (some ad) n c (aqVals q) hlen'.out (aq_one_cell q) hsrc2.out hnone2.out rfl rfl hlit (by omega) (by simp) ?_
   intro v' w1 hown1 hg1
   rw [Nat.zero_add, List.nil_append] at hown1
   obtain ⟨A', c', rfl, hA', _⟩ := own_form hown1
   have hkeep := Lib.hid (And.intro hown1 (hcln.grown hg1 (by simp) (fun k hk => by simp [Value.ownBlock] at hk; omega)))
   clear hown1 hg1 hA'))
  go_ret
  first | exact ⟨A', c', q, rfl, hq'.out, hkeep.out.1, hit'.out, hkeep.out.2⟩ | exact ⟨A', c', rfl, q, hq'.out, hkeep.out.1, hit'.out, hkeep.out.2⟩
theorem set_same {α : Type} {l : List α} {i : Nat} {u : α} (h : l[i]? = some u) : l.set i u = l := by
 apply List.ext_getElem?
 intro j
 rw [List.getElem?_set]
 split
 ·rename_i e; subst e
  have hl := (List.getElem?_eq_some_iff.1 h).1
  rw [if_pos hl, h]
 ·rfl
theorem aq_set : ∀ (Q : List AQ) (i : Nat), i < Q.length → ∀ (A : Option Addr) (n c : Nat), (aqVals Q).set (i * 14 + 12) (.slice A n c) = aqVals (Q.set i ⟨(aqAt Q i).a, A, n, c⟩)
 | [], i, h, _, _, _ => by simp at h
 | x :: Q, 0, _, A, n, c => by
  show ([_, _, _, _, _, _, _, _, _, _, _, _, _, _] ++ aqVals Q).set 12 _ = _
  simp [aqVals, AQ.vals, aqAt]
 | x :: Q, i + 1, h, A, n, c => by
  have ih := aq_set Q i (by simpa using h) A n c
  have e : aqVals (x :: Q) = x.vals ++ aqVals Q := rfl
  have hx : x.vals.length = 14 := rfl
  rw [e, show (i + 1) * 14 + 12 = x.vals.length + (i * 14 + 12) from by omega, List.set_append_right _ _ (by omega), Nat.add_sub_cancel_left, ih]
  rfl
theorem aqVals_at (Q : List AQ) (i j : Nat) (hi : i < Q.length) (hj : j < 14) : (aqVals Q)[i * 14 + j]? = (aqAt Q i).vals[j]? := aqVals_get Q i j hi hj
structure SQ where
 a : MAns
 A : Option Addr
 n : Nat
 c : Nat
def SQ.vals (q : SQ) : List Value := [.int .i64 q.a.code, .int .i64 q.a.num, .int .i64 q.a.r.kind, .int .i64 q.a.r.num, .int .i64 q.a.r.low, .int .i64 q.a.r.high, .float .f64 q.a.r.real, .int .i64 q.a.r.cap, .string (str q.a.r.text), .slice q.A q.n q.c]
def sqVals (l : List SQ) : List Value := l.flatMap SQ.vals
theorem sqVals_length (l : List SQ) : (sqVals l).length = l.length * 10 := by
 induction l with
 | nil => rfl
 | cons x l ih => simp only [sqVals, List.flatMap_cons, List.length_append, List.length_cons] at *; rw [ih]; simp [SQ.vals]; omega
theorem sqVals_get (l : List SQ) : ∀ i j, i < l.length → j < 10 → (sqVals l)[i * 10 + j]? = ((l.getD i ⟨zeroAns, none, 0, 0⟩).vals)[j]? := by
 induction l with
 | nil => intro i j hi; simp at hi
 | cons x l ih =>
  intro i j hi hj
  have hx : x.vals.length = 10 := rfl
  cases i with
  | zero => simp only [sqVals, List.flatMap_cons, Nat.zero_mul, Nat.zero_add, List.getD_cons_zero]; rw [List.getElem?_append_left (by omega)]
  | succ i =>
   simp only [sqVals, List.flatMap_cons, List.getD_cons_succ]
   rw [List.getElem?_append_right (by omega), show (i + 1) * 10 + j - x.vals.length = i * 10 + j from by omega]
   exact ih i j (by simpa using hi) hj
theorem own_ans {W : World} {base n c : Nat} {A : Option Addr} {l : List SQ} (h : W.ownsRow base 85 10 (.slice A n c) n (sqVals l)) (hit : ∀ q ∈ l, q.a.r.WF ∧ RdItems W q.A q.n q.a.r.list) : RdAns W A n (l.map (·.a)) := by
 have hl := h.1
 rw [sqVals_length] at hl
 have hl' : l.length = n := by omega
 refine ⟨by simpa using hl', fun h0 => ?_⟩
 rcases h.2 with ⟨hv, h00⟩ | ⟨g, cap, cur, hv, _, hg, _⟩
 ·omega
 ·injection hv with h1 h2 h3
  subst h1
  refine ⟨g, 0, rfl, lt_of_block hg, fun i hi => ?_⟩
  have hmem : l.getD i ⟨zeroAns, none, 0, 0⟩ ∈ l := by simp [List.getD, show i < l.length by omega]
  have hq := hit _ hmem
  have hat : ansAt (l.map (·.a)) i = (l.getD i ⟨zeroAns, none, 0, 0⟩).a := by simp [ansAt, List.getD, show i < l.length by omega]
  rw [hat]
  have hx := fun j (hj : j < 10) => sqVals_get l i j (by omega) hj
  generalize l.getD i ⟨zeroAns, none, 0, 0⟩ = q at hq hx
  have hc : ∀ j u, j < 10 → q.vals[j]? = some u → W.cell? ⟨g, 0 + i * 10 + j, none⟩ = some u := fun j u hj hu => by
   have := h.cells (g := g) rfl (i * 10 + j) u ((hx j hj).trans hu)
   have e : (⟨g, 0, none⟩ : Addr).add (i * 10 + j) = ⟨g, 0 + i * 10 + j, none⟩ := by unfold Addr.add; split <;> simp_all
   rwa [e] at this
  exact ⟨q.A, q.n, q.c, hc 0 _ (by decide) rfl, hc 1 _ (by decide) rfl, hc 2 _ (by decide) rfl, hc 3 _ (by decide) rfl, hc 4 _ (by decide) rfl, hc 5 _ (by decide) rfl, hc 6 _ (by decide) rfl, hc 7 _ (by decide) rfl, hc 8 _ (by decide) rfl, hc 9 _ (by decide) rfl, hq.2, hq.1⟩
theorem sq_one_cell (l : List SQ) : ∀ u ∈ sqVals l, u.oneCell' = true := by
 intro u hu
 obtain ⟨x, _, hx⟩ := List.mem_flatMap.1 hu
 simp [SQ.vals] at hx
 rcases hx with rfl | rfl | rfl | rfl | rfl | rfl | rfl | rfl | rfl | rfl <;> rfl
def sqAt (l : List SQ) (i : Nat) : SQ := l.getD i ⟨zeroAns, none, 0, 0⟩
theorem ans_sq {w : World} {A : Option Addr} {n : Nat} {l : List MAns} (h : RdAns w A n l) :
  ∃ q : List SQ, q.map (·.a) = l ∧ (∀ ad, A = some ad → ∀ j u, (sqVals q)[j]? = some u → w.cell? (ad.add j) = some u) ∧ (A = none → n = 0) ∧ ∀ x ∈ q, x.a.r.WF ∧ RdItems w x.A x.n x.a.r.list := by
 have hl := h.len
 rcases Nat.eq_zero_or_pos n with h0 | h0
 ·have : l = [] := List.eq_nil_of_length_eq_zero (by omega)
  subst this
  exact ⟨[], rfl, fun _ _ j u hu => by simp [sqVals] at hu, fun _ => h0, fun _ hx => by cases hx⟩
 obtain ⟨b, o, rfl, hb, hr⟩ := h.rows h0
 have key : ∀ i, i < n → ∃ x : SQ, x.a = ansAt l i ∧ AnsCells w b (o + i * 10) x.a x.A x.n x.c := fun i hi => by
  obtain ⟨Ai, ni, ci, hc⟩ := hr i hi
  exact ⟨⟨ansAt l i, Ai, ni, ci⟩, rfl, hc⟩
 have hF : ∃ F : Nat → SQ, ∀ i, i < n → (F i).a = ansAt l i ∧ AnsCells w b (o + i * 10) (F i).a (F i).A (F i).n (F i).c :=
  ⟨fun i => if h : i < n then Classical.choose (key i h) else ⟨zeroAns, none, 0, 0⟩, fun i h => by simp only [dif_pos h]; exact Classical.choose_spec (key i h)⟩
 obtain ⟨F, hF⟩ := hF
 have hat : ∀ i, i < n → ((List.range n).map F).getD i ⟨zeroAns, none, 0, 0⟩ = F i := by intro i hi; simp [hi]
 refine ⟨(List.range n).map F, ?_, ?_, fun e => (by cases e), ?_⟩
 ·apply List.ext_getElem
  ·simp [hl]
  ·intro i h1 h2
   simp only [List.getElem_map, List.getElem_range]
   rw [(hF i (by omega)).1]; simp [ansAt, List.getD, h2]
 ·intro ad e j u hu
  injection e with e; subst e
  have hj : j < n * 10 := by
   have := (List.getElem?_eq_some_iff.1 hu).1
   rw [sqVals_length] at this; simpa using this
  have hi : j / 10 < n := by omega
  have h1 := sqVals_get ((List.range n).map F) (j / 10) (j % 10) (by simpa using hi) (by omega)
  rw [hat _ hi, show j / 10 * 10 + j % 10 = j from by omega, hu] at h1
  have hc := (hF _ hi).2
  have e2 : (⟨b, o, none⟩ : Addr).add j = ⟨b, o + j, none⟩ := by unfold Addr.add; split <;> simp_all
  rw [e2, show o + j = o + j / 10 * 10 + j % 10 from by omega]
  have hm : j % 10 < 10 := by omega
  generalize j / 10 = i at h1 hc
  generalize j % 10 = k at h1 hm
  have hk : k = 0 ∨ k = 1 ∨ k = 2 ∨ k = 3 ∨ k = 4 ∨ k = 5 ∨ k = 6 ∨ k = 7 ∨ k = 8 ∨ k = 9 := by omega
  rcases hk with rfl | rfl | rfl | rfl | rfl | rfl | rfl | rfl | rfl | rfl <;> (simp [SQ.vals] at h1; subst h1)
  ·exact hc.c0
  ·exact hc.c1
  ·exact hc.c2
  ·exact hc.c3
  ·exact hc.c4
  ·exact hc.c5
  ·exact hc.c6
  ·exact hc.c7
  ·exact hc.c8
  ·exact hc.c9
 ·intro x hx
  obtain ⟨i, hi, rfl⟩ := List.mem_map.1 hx
  have := (hF i (by simpa using hi)).2
  exact ⟨this.wf, this.it⟩
set_option maxHeartbeats 4000000 in
theorem scloneS_any (l : List MAns) (A : Option Addr) (n c : Nat) (w0 w : World) (hcl0 : Cln w0 w) (hr0 : RdAns w0 A n l) (hn : n ≤ 1048576) :
  Calls Tryz.prog 90 #[.slice A n c] w fun e w' => ∃ (A' : Option Addr) (c' : Nat) (q : List SQ), e = .returned (.slice A' n c') ∧ q.map (·.a) = l ∧ w'.ownsRow w.heap.size 85 10 (.slice A' n c') n (sqVals q) ∧ (∀ x ∈ q, x.a.r.WF ∧ RdItems w0 x.A x.n x.a.r.list) ∧ Cln w w' := by
 obtain ⟨i0, hi, hz0, hz1, hz2⟩ := info_parts (P := Tryz.prog) (e := 85) (z := (.agg #[.int .i64 0, .int .i64 0, .int .i64 0, .int .i64 0, .int .i64 0, .int .i64 0, .float .f64 0, .int .i64 0, .string ⟨#[]⟩, .slice none 0 0])) (size := 10) (bytes := 104) (by kernel_rfl)
 obtain ⟨q, hq, hsrc0, hnone, hit⟩ := ans_sq hr0
 have hsrc : ∀ ad, A = some ad → ∀ j u, (sqVals q)[j]? = some u → w.cell? (ad.add j) = some u := fun ad e j u hu => (Kept.of_below (S := fun _ => False) hcl0).cell (hsrc0 ad e j u hu) id
 clear hsrc0
 have hlen : (sqVals q).length = n * 10 := by rw [sqVals_length, ← hr0.len, ← hq, List.length_map]
 have hq' := Lib.hid hq
 have hit' := Lib.hid hit
 rcases A with _ | ad
 ·obtain rfl := hnone rfl
  have hl0 : q = [] := List.eq_nil_of_length_eq_zero (by rw [sqVals_length] at hlen; omega)
  have heq : ∀ W : World, (binOp .eql 74 (.slice none 0 c) (.slice none 0 0)).run Tryz.prog W = .ok (.bool true) W := fun W => Lib.run_eql_slice_nil W _ 85 none 0 c 0 0 Tryz.underlying74
  clear hq hit hsrc hnone hlen
  subst hl0
  go_enter Tryz.func90, Tryz.ntmps90
  go_wp2_with (simp only [heq])
  go_ret
  exact ⟨none, 0, [], rfl, hq'.out, World.ownsRow_nil _ _ _ _, hit'.out, Below.refl _ _⟩
 ·have hlen' := Lib.hid hlen
  have heq : ∀ W : World, (binOp .eql 74 (.slice (some ad) n c) (.slice none 0 0)).run Tryz.prog W = .ok (.bool false) W := fun W => Lib.run_eql_slice_nil W _ 85 (some ad) n c 0 0 Tryz.underlying74
  have hlit := World.ownsRow_lit (base := w.heap.size) (e := 85) (size := 10) w #[] 0 (Nat.le_refl _) (Nat.zero_le _) rfl
  have hcln : Cln w (w.alloc (.cells #[] 85)) := (Below.refl _ _).alloc (Nat.le_refl _) _
  have hsrc2 : Hid (∀ ad' : Addr, some ad = some ad' → ∀ j u, (sqVals q)[j]? = some u → (w.alloc (.cells #[] 85)).cell? (ad'.add j) = some u) := fun ad' e j u hu => (Kept.of_below (S := fun _ => False) hcln).cell (hsrc ad' e j u hu) id
  have hnone2 : Hid (some ad = none → n = 0) := fun e => by cases e
  clear hq hit hsrc hnone hlen
  go_enter Tryz.func90, Tryz.ntmps90
  go_wp2_with (first | simp only [heq] | (
   at_builtin
   refine wpList_cat rfl _ _ 74 rfl w.heap.size 85 i0 (.agg #[.int .i64 0, .int .i64 0, .int .i64 0, .int .i64 0, .int .i64 0, .int .i64 0, .float .f64 0, .int .i64 0, .string ⟨#[]⟩, .slice none 0 0]) 10 104 Tryz.underlying74 hi hz0 hz1 hz2 rfl (by decide) (by decide) (.slice (some ⟨w.heap.size, 0, none⟩) 0 0) 0 [] (some ad) n c (sqVals q) hlen'.out (sq_one_cell q) hsrc2.out hnone2.out rfl rfl hlit (by omega) (by simp) ?_
   intro v' w1 hown1 hg1
   rw [Nat.zero_add, List.nil_append] at hown1
   obtain ⟨A', c', rfl, hA', _⟩ := own_form hown1
   have hkeep := Lib.hid (And.intro hown1 (hcln.grown hg1 (by simp) (fun k hk => by simp [Value.ownBlock] at hk; omega)))
   clear hown1 hg1 hA'))
  go_ret
  first | exact ⟨A', c', q, rfl, hq'.out, hkeep.out.1, hit'.out, hkeep.out.2⟩ | exact ⟨A', c', rfl, q, hq'.out, hkeep.out.1, hit'.out, hkeep.out.2⟩
theorem sq_set : ∀ (Q : List SQ) (i : Nat), i < Q.length → ∀ (A : Option Addr) (n c : Nat), (sqVals Q).set (i * 10 + 9) (.slice A n c) = sqVals (Q.set i ⟨(sqAt Q i).a, A, n, c⟩)
 | [], i, h, _, _, _ => by simp at h
 | x :: Q, 0, _, A, n, c => by
  show ([_, _, _, _, _, _, _, _, _, _] ++ sqVals Q).set 9 _ = _
  simp [sqVals, SQ.vals, sqAt]
 | x :: Q, i + 1, h, A, n, c => by
  have ih := sq_set Q i (by simpa using h) A n c
  have e : sqVals (x :: Q) = x.vals ++ sqVals Q := rfl
  have hx : x.vals.length = 10 := rfl
  rw [e, show (i + 1) * 10 + 9 = x.vals.length + (i * 10 + 9) from by omega, List.set_append_right _ _ (by omega), Nat.add_sub_cancel_left, ih]
  rfl
theorem sqVals_at (Q : List SQ) (i j : Nat) (hi : i < Q.length) (hj : j < 10) : (sqVals Q)[i * 10 + j]? = (sqAt Q i).vals[j]? := sqVals_get Q i j hi hj
theorem scloneL_any (l : List MItem) (A : Option Addr) (n c : Nat) (w : World) (hr : RdItems w A n l) (hn : n ≤ 5864062014805) :
  Calls Tryz.prog 130 #[.slice A n c] w fun e w' => ∃ A' c', e = .returned (.slice A' n c') ∧ w'.ownsRow w.heap.size 87 2 (.slice A' n c') n (itemVals l) ∧ Cln w w' := by
 obtain ⟨i0, hi, hz0, hz1, hz2⟩ := info_parts Tryz.info87
 obtain ⟨hsrc, hnone⟩ := itemVals_cells hr
 have hlen : (itemVals l).length = n * 2 := by rw [itemVals_length, hr.len]
 rcases A with _ | ad
 ·obtain rfl := hnone rfl
  have hl0 : l = [] := List.eq_nil_of_length_eq_zero hr.len
  subst hl0
  have heq : ∀ W : World, (binOp .eql 81 (.slice none 0 c) (.slice none 0 0)).run Tryz.prog W = .ok (.bool true) W := fun W => Lib.run_eql_slice_nil W _ 87 none 0 c 0 0 Tryz.underlying81
  go_enter Tryz.func130, Tryz.ntmps130
  go_wp2_with (simp only [heq])
  go_ret
  exact ⟨none, 0, rfl, World.ownsRow_nil _ _ _ _, Below.refl _ _⟩
 ·have hsrc' := Lib.hid hsrc; have hnone' := Lib.hid hnone; clear hsrc hnone
  have hlen' := Lib.hid hlen; clear hlen
  have heq : ∀ W : World, (binOp .eql 81 (.slice (some ad) n c) (.slice none 0 0)).run Tryz.prog W = .ok (.bool false) W := fun W => Lib.run_eql_slice_nil W _ 87 (some ad) n c 0 0 Tryz.underlying81
  have hlit := World.ownsRow_lit (base := w.heap.size) (e := 87) (size := 2) w #[] 0 (Nat.le_refl _) (Nat.zero_le _) rfl
  have hcln : Cln w (w.alloc (.cells #[] 87)) := (Below.refl _ _).alloc (Nat.le_refl _) _
  have hsrc2 := itemVals_cells (hr.cln hcln)
  go_enter Tryz.func130, Tryz.ntmps130
  go_wp2_with (first | simp only [heq] | (
   at_builtin
   refine wpList_cat rfl _ _ 81 rfl w.heap.size 87 i0 (.agg #[.float .f64 0, .string ⟨#[]⟩]) 2 24 Tryz.underlying81 hi hz0 hz1 hz2 rfl (by decide) (by decide) (.slice (some ⟨w.heap.size, 0, none⟩) 0 0) 0 [] (some ad) n c (itemVals l) hlen'.out (itemVals_one_cell l) hsrc2.1 hsrc2.2 rfl rfl hlit (by omega) (by simp) ?_
   intro v' w1 hown1 hg1
   rw [Nat.zero_add, List.nil_append] at hown1
   obtain ⟨A', c', rfl, hA', _⟩ := own_form hown1
   have hkeep := Lib.hid (And.intro hown1 (hcln.grown hg1 (by simp) (fun k hk => by simp [Value.ownBlock] at hk; omega)))
   clear hown1 hg1 hA'))
  go_ret
  exact ⟨A', c', rfl, hkeep.out⟩

set_option maxHeartbeats 400000 in
theorem cloneL_any (r : MRec) (A : Option Addr) (n c : Nat) (w : World) (hr : RdItems w A n r.list) (hn : n ≤ 5864062014805) :
  Calls Tryz.prog 91 #[recVal r A n c] w fun e w' => ∃ A' c', e = .returned (recVal r A' n c') ∧ w'.ownsRow (w.heap.size + 2) 87 2 (.slice A' n c') n (itemVals r.list) ∧ Cln w w' := by
 unfold recVal
 go_enter Tryz.func91, Tryz.ntmps91
 go_wp2_with fail
 refine (scloneL_any r.list A n c _ (hr.cln (by (repeat with_reducible first | exact cR _ | assumption | refine cA ?_ _ | refine cD ?_ | refine cN ?_ _ | refine cS ?_ (by first | omega | (simp <;> omega)) _))) hn).mono ?_
 rintro e w1 ⟨A', c', rfl, hown, hq⟩
 have hb1 := ((Blk.new w 83 #[.int .i64 r.kind, .int .i64 r.num, .int .i64 r.low, .int .i64 r.high, .float .f64 r.real, .int .i64 r.cap, .string (str r.text), .slice A n c]).alloc (.cells #[.int .i64 0, .int .i64 0, .int .i64 0, .int .i64 0, .float .f64 0, .int .i64 0, .string ⟨#[]⟩, .slice none 0 0] 83)).cln hq
 have hb2 := (Blk.new (w.alloc (.cells #[.int .i64 r.kind, .int .i64 r.num, .int .i64 r.low, .int .i64 r.high, .float .f64 r.real, .int .i64 r.cap, .string (str r.text), .slice A n c] 83)) 83 #[.int .i64 0, .int .i64 0, .int .i64 0, .int .i64 0, .float .f64 0, .int .i64 0, .string ⟨#[]⟩, .slice none 0 0]).cln hq
 have hcl : Cln w w1 := cln_trans (by (repeat with_reducible first | exact cR _ | assumption | refine cA ?_ _ | refine cD ?_ | refine cN ?_ _ | refine cS ?_ (by first | omega | (simp <;> omega)) _)) hq
 simp only [World.size_alloc] at hb2 hown
 have hlt1 := hb1.lt
 have hlt2 := hb2.lt
 have hc1 := hb1.cell
 have hf1 := hb1.frozen
 have hc2 := hb2.cell
 have hf2 := hb2.frozen
 have hown' := Lib.hid hown
 clear hown hb1
 have hb2' := Lib.hid hb2; clear hb2
 go_wp2_with fail
 have hfin := (hb2'.out.far (p := ⟨w.heap.size, 7, none⟩) (by simp) (.slice A' n c')).store8 (v0 := .int .i64 r.kind) (v1 := .int .i64 r.num) (v2 := .int .i64 r.low) (v3 := .int .i64 r.high) (v4 := .float .f64 r.real) (v5 := .int .i64 r.cap) (v6 := .string (str r.text)) (v7 := .slice A' n c')
 have t1 : (Tryz.prog.info? 83).map (·.size) = some 8 := by kernel_rfl
 refine bodyPost_ret ?_ rfl ⟨A', c', rfl, ?_, ?_⟩
 ·refine results_cell_row Tryz.results91 _ _ (w.heap.size + 1) 83 #[.int .i64 r.kind, .int .i64 r.num, .int .i64 r.low, .int .i64 r.high, .float .f64 r.real, .int .i64 r.cap, .string (str r.text), .slice A' n c'] (0, 0) _ ?_ ?_ Tryz.underlying83 ?_ ?_
  ·rfl
  ·exact hfin
  ·rfl
  ·exact t1
 ·iterate 9 (refine ownsRow_setCell_below ?_ (by simp) _)
  exact hown'.out
 ·(repeat with_reducible first | exact cR _ | assumption | refine cA ?_ _ | refine cD ?_ | refine cN ?_ _ | refine cS ?_ (by first | omega | (simp <;> omega)) _)
theorem own_down {w : World} {base b2 e size n : Nat} {v : Value} {xs : List Value} (h : w.ownsRow base e size v n xs) (hb : b2 ≤ base) : w.ownsRow b2 e size v n xs := by
 refine ⟨h.1, ?_⟩
 rcases h.2 with h1 | ⟨g, cap, cur, hv, hg, r⟩
 ·exact .inl h1
 ·exact .inr ⟨g, cap, cur, hv, by omega, r⟩
def ListOwn (W : World) (base : Nat) (v : Value) (q : SQ) : Prop :=
 ∃ b1, base ≤ b1 ∧ (∀ g, v.ownBlock = some g → g < b1) ∧ W.ownsRow b1 87 2 (.slice q.A q.n q.c) q.n (itemVals q.a.r.list) ∧ ∀ i, (itAt q.a.r.list i).score < 18446744073709551616
structure OwnAns (W : World) (base : Nat) (v : Value) (n : Nat) (l : List SQ) : Prop where
 own : W.ownsRow base 85 10 v n (sqVals l)
 it : ∀ q ∈ l, q.a.r.WF ∧ ListOwn W base v q
set_option maxHeartbeats 4000000 in
theorem copyo_any (rc rt : Int) (l : List MAns) (A : Option Addr) (n c : Nat) (w : World) (hr : RdAns w A n l) (hn : n ≤ 1048576) (hsz : ∀ a ∈ l, a.r.list.length ≤ 5864062014805) :
  Calls Tryz.prog 50 #[.agg #[.int .i64 rc, .int .i64 rt, .slice A n c]] w fun e w' => ∃ (A' : Option Addr) (c' : Nat) (Q : List SQ), e = .returned (.agg #[.int .i64 rc, .int .i64 rt, .slice A' n c']) ∧ Q.map (·.a) = l ∧ OwnAns w' w.heap.size (.slice A' n c') n Q ∧ Cln w w' := by
 have hlen := hr.len
 have hb0 := (Blk.new w 76 #[.int .i64 rc, .int .i64 rt, .slice A n c]).alloc (.cells #[.int .i64 0, .int .i64 0, .slice none 0 0] 76)
 have hb1 := Blk.new (w.alloc (.cells #[.int .i64 rc, .int .i64 rt, .slice A n c] 76)) 76 #[.int .i64 0, .int .i64 0, .slice none 0 0]
 have hcl0 : Cln w ((w.alloc (.cells #[.int .i64 rc, .int .i64 rt, .slice A n c] 76)).alloc (.cells #[.int .i64 0, .int .i64 0, .slice none 0 0] 76)) := by (repeat with_reducible first | exact cR _ | assumption | refine cA ?_ _ | refine cD ?_ | refine cN ?_ _ | refine cS ?_ (by first | omega | (simp <;> omega)) _)
 simp only [World.size_alloc] at hb1
 go_enter Tryz.func50, Tryz.ntmps50
 go_wp2_with fail
 refine (scloneS_any l A n c w _ hcl0 hr hn).mono ?_
 rintro e w1 ⟨A', c', q, rfl, hq, hown, hit, hcl1⟩
 replace hb0 := hb0.cln hcl1
 replace hb1 := hb1.cln hcl1
 simp only [World.size_alloc] at hown
 have hC1 := cln_trans hcl0 hcl1
 have c0 := hb0.cell; have f0 := hb0.frozen; have l0 := hb0.lt
 have hsz1 : w.heap.size + 1 + 1 ≤ w1.heap.size := by have := hcl1.size; simpa using this
 have hb0' := Lib.hid (hb0.set_ 2 (.slice A' n c'))
 have hb1' := Lib.hid (hb1.far (p := ⟨w.heap.size, 2, none⟩) (by simp) (.slice A' n c'))
 have hown' := Lib.hid (ownsRow_setCell_below hown (a := ⟨w.heap.size, 2, none⟩) (show w.heap.size < w.heap.size + 1 + 1 by omega) (.slice A' n c'))
 have hC1' := Lib.hid (((Kept.of_below (S := fun i => w.heap.size ≤ i) hC1).setCell (p := ⟨w.heap.size, 2, none⟩) (fun _ => Nat.le_refl _) (.slice A' n c')).toBelow (Nat.le_refl _) (fun i hi h => by omega))
 have hk0 := Lib.hid ((Kept.refl (fun i => i = w.heap.size) w1).setCell (p := ⟨w.heap.size, 2, none⟩) (fun _ => rfl) (.slice A' n c'))
 have hs1' := Lib.hid hsz1
 have hit0 := Lib.hid hit
 have hqH := Lib.hid hq
 have hql : q.length = n := by rw [← hlen, ← hq, List.length_map]
 clear hb0 hb1 hown hC1 hcl1 hcl0 hit hq
 go_wp2_with fail
 clear c0 f0 l0
 go_loopw [11] (fun v wr => ∃ (i : Nat) (Q : List SQ), i ≤ n ∧ v = .int .i64 (i : Nat) ∧ Hid (Q.map (·.a) = l) ∧ Hid (wr.ownsRow (w.heap.size + 1 + 1) 85 10 (.slice A' n c') n (sqVals Q)) ∧ Hid (Blk wr w.heap.size 76 #[.int .i64 rc, .int .i64 rt, .slice A' n c']) ∧ Hid (Blk wr (w.heap.size + 1) 76 #[.int .i64 0, .int .i64 0, .slice none 0 0]) ∧ Hid (Cln w wr) ∧ Hid (∀ x ∈ Q, x.a.r.WF) ∧
  Hid (∀ j, j < i → ListOwn wr (w.heap.size + 1 + 1) (.slice A' n c') (sqAt Q j)) ∧ Hid (∀ j, i ≤ j → j < n → RdItems w (sqAt Q j).A (sqAt Q j).n (sqAt Q j).a.r.list)) (fun v _ => (n - intOf v).toNat)
 case atStart =>
  refine ⟨0, q, Nat.zero_le _, rfl, hqH, hown', hb0', hb1', hC1', fun x hx => (hit0.out x hx).1, fun j hj => by omega, fun j _ hj => ?_⟩
  have hm : sqAt q j ∈ q := by simp [sqAt, List.getD, show j < q.length by omega]
  exact (hit0.out _ hm).2
 case round =>
  clear hqH hown' hb0' hb1' hC1' hk0 hs1' hit0 hql
  obtain ⟨i, Q, hi, rfl, hQ, hO, hb0, hb1, hcl, hwf, hnew, hold⟩ := hrel
  have hql : Q.length = n := by rw [← hlen, ← hQ.out, List.length_map]
  have c0 := hb0.out.cell; have l0 := hb0.out.lt
  by_cases hlt : i < n
  ·have t3 : decide ((i : Int) < (n : Int)) = true := decide_eq_true (by omega)
   have hcs := hO.out.2
   obtain ⟨g, cap, cur, hv, hgb, hgg, hncap, hcm, hcsz, htake⟩ : ∃ g cap cur, Value.slice A' n c' = .slice (some ⟨g, 0, none⟩) n cap ∧ w.heap.size + 1 + 1 ≤ g ∧ wr.heap[g]? = some (.cells cur 85 (0, 0)) ∧ n ≤ cap ∧ cap ≤ maxLen ∧ cur.size = cap * 10 ∧ cur.toList.take (n * 10) = sqVals Q := by
    rcases hcs with ⟨_, h0⟩ | h
    ·omega
    ·exact h
   injection hv with hv1 hv2 hv3
   subst hv1; subst hv3
   have hgB : Blk wr g 85 cur := hgg
   have hgl := hgB.lt
   have hgf := hgB.frozen
   have hat : ∀ k u, k < 10 → (sqAt Q i).vals[k]? = some u → wr.cell? ⟨g, i * 10 + k, none⟩ = some u := fun k u hk hu => by
    have h1 := sqVals_at Q i k (by omega) hk
    have h2 := hO.out.cells (g := g) rfl (i * 10 + k) u (h1.trans hu)
    have e : (⟨g, 0, none⟩ : Addr).add (i * 10 + k) = ⟨g, i * 10 + k, none⟩ := by unfold Addr.add; split <;> simp_all
    rwa [e] at h2
   have hgx := hold.out i (Nat.le_refl _) hlt
   have hmx : (sqAt Q i).a.r.list.length ≤ 5864062014805 := by
    have h1 : (sqAt Q i).a ∈ l := by rw [← hQ.out]; exact List.mem_map.2 ⟨_, by simp [sqAt, List.getD, hql, hlt], rfl⟩
    exact hsz _ h1
   have hxn : (sqAt Q i).n ≤ 5864062014805 := by rw [← hgx.len]; exact hmx
   have hsetH : Hid (∀ (A2 : Option Addr) (c2 : Nat), (sqVals Q).set (i * 10 + 9) (.slice A2 (sqAt Q i).n c2) = sqVals (Q.set i ⟨(sqAt Q i).a, A2, (sqAt Q i).n, c2⟩)) := fun A2 c2 => sq_set Q i (by omega) A2 _ c2
   have hvalH : Hid (∀ k, k < 10 → (sqVals Q)[i * 10 + k]? = (sqAt Q i).vals[k]?) := fun k hk => sqVals_at Q i k (by omega) hk
   have hgx' := Lib.hid hgx
   have hgi := hgx.wf
   have hxe : Hid (∃ x, x = sqAt Q i) := ⟨_, rfl⟩
   obtain ⟨x, hxe⟩ := hxe.out
   rw [← hxe] at hat hgx' hxn hsetH hvalH hgi
   have hxe' := Lib.hid hxe
   have cC : Calls Tryz.prog 91 #[.agg #[.int .i64 x.a.r.kind, .int .i64 x.a.r.num, .int .i64 x.a.r.low, .int .i64 x.a.r.high, .float .f64 x.a.r.real, .int .i64 x.a.r.cap, .string (str x.a.r.text), .slice x.A x.n x.c]] wr.drew fun e w5 => ∃ (A2 : Option Addr) (c2 : Nat), e = .returned (.agg #[.int .i64 x.a.r.kind, .int .i64 x.a.r.num, .int .i64 x.a.r.low, .int .i64 x.a.r.high, .float .f64 x.a.r.real, .int .i64 x.a.r.cap, .string (str x.a.r.text), .slice A2 x.n c2]) ∧ Hid (w5.ownsRow (wr.heap.size + 2) 87 2 (.slice A2 x.n c2) x.n (itemVals x.a.r.list)) ∧ Blk w5 w.heap.size 76 #[.int .i64 rc, .int .i64 rt, .slice (some ⟨g, 0, none⟩) n c'] ∧ Blk w5 g 85 cur ∧ Hid (Cln wr w5) := by
    refine (cloneL_any x.a.r x.A x.n x.c wr.drew ((hgx'.out.cln hcl.out).cln (Below.drew (Below.refl _ _))) hxn).mono ?_
    rintro e w5 ⟨A2, c2, rfl, hown2, hq2⟩
    have hq3 : Cln wr w5 := cln_trans (Below.drew (Below.refl _ _)) hq2
    exact ⟨A2, c2, rfl, hown2, hb0.out.cln hq3, hgB.cln hq3, hq3⟩
   have ig1 : (0 : Int) ≤ (i : Int) := by omega
   have ig2 : (i : Int) < (n : Int) := by omega
   have r5 : wr.cell? ⟨g, i * 10 + 2, none⟩ = some (.int .i64 x.a.r.kind) := hat 2 _ (by decide) rfl
   have r6 : wr.cell? ⟨g, i * 10 + 3, none⟩ = some (.int .i64 x.a.r.num) := hat 3 _ (by decide) rfl
   have r7 : wr.cell? ⟨g, i * 10 + 4, none⟩ = some (.int .i64 x.a.r.low) := hat 4 _ (by decide) rfl
   have r8 : wr.cell? ⟨g, i * 10 + 5, none⟩ = some (.int .i64 x.a.r.high) := hat 5 _ (by decide) rfl
   have r9 : wr.cell? ⟨g, i * 10 + 6, none⟩ = some (.float .f64 x.a.r.real) := hat 6 _ (by decide) rfl
   have r10 : wr.cell? ⟨g, i * 10 + 7, none⟩ = some (.int .i64 x.a.r.cap) := hat 7 _ (by decide) rfl
   have r11 : wr.cell? ⟨g, i * 10 + 8, none⟩ = some (.string (str x.a.r.text)) := hat 8 _ (by decide) rfl
   have r12 : wr.cell? ⟨g, i * 10 + 9, none⟩ = some (.slice x.A x.n x.c) := hat 9 _ (by decide) rfl
   clear hgx hmx hxe hcs hat hgx'
   go_wp2_with fail
   go_region_law (go_simp; go_at_call 91; with_reducible refine cC.mono ?_; rintro e w5 ⟨A2, c2, rfl, hfr, hb5, hg5, hq5⟩; have c5 := hb5.cell; have l5 := hb5.lt; have gl5 := hg5.lt; have gf5 := hg5.frozen; have s5 : w5.cell? ⟨g, i * 10 + 2, none⟩ = some (.int .i64 x.a.r.kind) := (Kept.of_below (S := fun _ => False) hq5.out).cell r5 id; have s6 : w5.cell? ⟨g, i * 10 + 2 + 1, none⟩ = some (.int .i64 x.a.r.num) := (Kept.of_below (S := fun _ => False) hq5.out).cell r6 id; have s7 : w5.cell? ⟨g, i * 10 + 2 + 2, none⟩ = some (.int .i64 x.a.r.low) := (Kept.of_below (S := fun _ => False) hq5.out).cell r7 id; have s8 : w5.cell? ⟨g, i * 10 + 2 + 3, none⟩ = some (.int .i64 x.a.r.high) := (Kept.of_below (S := fun _ => False) hq5.out).cell r8 id; have s9 : w5.cell? ⟨g, i * 10 + 2 + 4, none⟩ = some (.float .f64 x.a.r.real) := (Kept.of_below (S := fun _ => False) hq5.out).cell r9 id; have s10 : w5.cell? ⟨g, i * 10 + 2 + 5, none⟩ = some (.int .i64 x.a.r.cap) := (Kept.of_below (S := fun _ => False) hq5.out).cell r10 id; have s11 : w5.cell? ⟨g, i * 10 + 2 + 6, none⟩ = some (.string (str x.a.r.text)) := (Kept.of_below (S := fun _ => False) hq5.out).cell r11 id; have s12 : w5.cell? ⟨g, i * 10 + 2 + 7, none⟩ = some (.slice x.A x.n x.c) := (Kept.of_below (S := fun _ => False) hq5.out).cell r12 id)
   all_goals
    have hO5 := own_same hO.out (fun k hk => hq5.out.block k (own_ge hO.out k hk).2)
    have hvv : ∀ k, k < 10 → (sqVals Q)[i * 10 + k]? = x.vals[k]? := hvalH.out
    have hO9 : Hid (((((((((w5.setCell ⟨g, i * 10 + 2, none⟩ (.int .i64 x.a.r.kind)).setCell ⟨g, i * 10 + 2 + 1, none⟩ (.int .i64 x.a.r.num)).setCell ⟨g, i * 10 + 2 + 2, none⟩ (.int .i64 x.a.r.low)).setCell ⟨g, i * 10 + 2 + 3, none⟩ (.int .i64 x.a.r.high)).setCell ⟨g, i * 10 + 2 + 4, none⟩ (.float .f64 x.a.r.real)).setCell ⟨g, i * 10 + 2 + 5, none⟩ (.int .i64 x.a.r.cap)).setCell ⟨g, i * 10 + 2 + 6, none⟩ (.string (str x.a.r.text))).setCell ⟨g, i * 10 + 2 + 7, none⟩ (.slice A2 x.n c2)).ownsRow (w.heap.size + 1 + 1) 85 10 (.slice (some ⟨g, 0, none⟩) n c') n (sqVals (Q.set i ⟨x.a, A2, x.n, c2⟩))) := by
     have e5 := own_set hO5 (j := i * 10 + 2) (by omega) (.int .i64 x.a.r.kind)
     rw [set_same (show (sqVals Q)[i * 10 + 2]? = _ from hvv 2 (by decide))] at e5
     have e6 := own_set e5 (j := i * 10 + 2 + 1) (by omega) (.int .i64 x.a.r.num)
     rw [set_same (show (sqVals Q)[i * 10 + 2 + 1]? = _ from hvv 3 (by decide))] at e6
     have e7 := own_set e6 (j := i * 10 + 2 + 2) (by omega) (.int .i64 x.a.r.low)
     rw [set_same (show (sqVals Q)[i * 10 + 2 + 2]? = _ from hvv 4 (by decide))] at e7
     have e8 := own_set e7 (j := i * 10 + 2 + 3) (by omega) (.int .i64 x.a.r.high)
     rw [set_same (show (sqVals Q)[i * 10 + 2 + 3]? = _ from hvv 5 (by decide))] at e8
     have e9 := own_set e8 (j := i * 10 + 2 + 4) (by omega) (.float .f64 x.a.r.real)
     rw [set_same (show (sqVals Q)[i * 10 + 2 + 4]? = _ from hvv 6 (by decide))] at e9
     have e10 := own_set e9 (j := i * 10 + 2 + 5) (by omega) (.int .i64 x.a.r.cap)
     rw [set_same (show (sqVals Q)[i * 10 + 2 + 5]? = _ from hvv 7 (by decide))] at e10
     have e11 := own_set e10 (j := i * 10 + 2 + 6) (by omega) (.string (str x.a.r.text))
     rw [set_same (show (sqVals Q)[i * 10 + 2 + 6]? = _ from hvv 8 (by decide))] at e11
     have e12 := own_set e11 (j := i * 10 + 2 + 7) (by omega) (.slice A2 x.n c2)
     have e13 := hsetH.out A2 c2
     rw [show i * 10 + 9 = i * 10 + 2 + 7 from rfl] at e13
     rw [e13] at e12
     exact e12
    have hKg : Hid (Kept (fun k => k = g) w5 ((((((((w5.setCell ⟨g, i * 10 + 2, none⟩ (.int .i64 x.a.r.kind)).setCell ⟨g, i * 10 + 2 + 1, none⟩ (.int .i64 x.a.r.num)).setCell ⟨g, i * 10 + 2 + 2, none⟩ (.int .i64 x.a.r.low)).setCell ⟨g, i * 10 + 2 + 3, none⟩ (.int .i64 x.a.r.high)).setCell ⟨g, i * 10 + 2 + 4, none⟩ (.float .f64 x.a.r.real)).setCell ⟨g, i * 10 + 2 + 5, none⟩ (.int .i64 x.a.r.cap)).setCell ⟨g, i * 10 + 2 + 6, none⟩ (.string (str x.a.r.text))).setCell ⟨g, i * 10 + 2 + 7, none⟩ (.slice A2 x.n c2))) := by
     unfold Hid
     iterate 8 refine Kept.setCell (S := fun k => k = g) ?_ (fun _ => rfl) _
     exact Kept.refl _ _
    have hb9 := Lib.hid (hb5.kept hKg.out (show ¬ w.heap.size = g by omega))
    have hb19 := Lib.hid ((hb1.out.cln hq5.out).kept hKg.out (show ¬ w.heap.size + 1 = g by omega))
    have hcl9 : Hid (Cln w ((((((((w5.setCell ⟨g, i * 10 + 2, none⟩ (.int .i64 x.a.r.kind)).setCell ⟨g, i * 10 + 2 + 1, none⟩ (.int .i64 x.a.r.num)).setCell ⟨g, i * 10 + 2 + 2, none⟩ (.int .i64 x.a.r.low)).setCell ⟨g, i * 10 + 2 + 3, none⟩ (.int .i64 x.a.r.high)).setCell ⟨g, i * 10 + 2 + 4, none⟩ (.float .f64 x.a.r.real)).setCell ⟨g, i * 10 + 2 + 5, none⟩ (.int .i64 x.a.r.cap)).setCell ⟨g, i * 10 + 2 + 6, none⟩ (.string (str x.a.r.text))).setCell ⟨g, i * 10 + 2 + 7, none⟩ (.slice A2 x.n c2))) := ((Kept.of_below (S := fun k => k = g) (cln_trans hcl.out hq5.out)).trans hKg.out).toBelow (Nat.le_refl _) (fun k hk e => by have e : k = g := e; omega)
    have hsz9 : wr.heap.size ≤ ((((((((w5.setCell ⟨g, i * 10 + 2, none⟩ (.int .i64 x.a.r.kind)).setCell ⟨g, i * 10 + 2 + 1, none⟩ (.int .i64 x.a.r.num)).setCell ⟨g, i * 10 + 2 + 2, none⟩ (.int .i64 x.a.r.low)).setCell ⟨g, i * 10 + 2 + 3, none⟩ (.int .i64 x.a.r.high)).setCell ⟨g, i * 10 + 2 + 4, none⟩ (.float .f64 x.a.r.real)).setCell ⟨g, i * 10 + 2 + 5, none⟩ (.int .i64 x.a.r.cap)).setCell ⟨g, i * 10 + 2 + 6, none⟩ (.string (str x.a.r.text))).setCell ⟨g, i * 10 + 2 + 7, none⟩ (.slice A2 x.n c2)).heap.size := Nat.le_trans hq5.out.size hKg.out.size
    have hset : ∀ j, sqAt (Q.set i ⟨x.a, A2, x.n, c2⟩) j = if j = i then ⟨x.a, A2, x.n, c2⟩ else sqAt Q j := fun j => by
     simp only [sqAt, List.getD_eq_getElem?_getD, List.getElem?_set]
     by_cases hji : j = i
     ·subst hji; simp [show j < Q.length by omega]
     ·rw [if_neg (fun e => hji e.symm), if_neg hji]
    have hx0 : sqAt Q i = x := hxe'.out.symm
    have hQ9 : Hid ((Q.set i ⟨x.a, A2, x.n, c2⟩).map (·.a) = l) := by
     unfold Hid
     rw [List.map_set, ← hQ.out]
     refine set_same ?_
     rw [List.getElem?_map]
     have : Q[i]? = some x := by rw [← hx0]; simp [sqAt, List.getD, show i < Q.length by omega]
     rw [this]; rfl
    have hwf9 : Hid (∀ y ∈ Q.set i ⟨x.a, A2, x.n, c2⟩, y.a.r.WF) := fun y hy => by
     rcases List.mem_or_eq_of_mem_set hy with h | h
     ·exact hwf.out y h
     ·subst h
      exact hwf.out x (by rw [← hx0]; simp [sqAt, List.getD, show i < Q.length by omega])
    have hnew9 : Hid (∀ j, j < i + 1 → ListOwn ((((((((w5.setCell ⟨g, i * 10 + 2, none⟩ (.int .i64 x.a.r.kind)).setCell ⟨g, i * 10 + 2 + 1, none⟩ (.int .i64 x.a.r.num)).setCell ⟨g, i * 10 + 2 + 2, none⟩ (.int .i64 x.a.r.low)).setCell ⟨g, i * 10 + 2 + 3, none⟩ (.int .i64 x.a.r.high)).setCell ⟨g, i * 10 + 2 + 4, none⟩ (.float .f64 x.a.r.real)).setCell ⟨g, i * 10 + 2 + 5, none⟩ (.int .i64 x.a.r.cap)).setCell ⟨g, i * 10 + 2 + 6, none⟩ (.string (str x.a.r.text))).setCell ⟨g, i * 10 + 2 + 7, none⟩ (.slice A2 x.n c2)) (w.heap.size + 1 + 1) (.slice (some ⟨g, 0, none⟩) n c') (sqAt (Q.set i ⟨x.a, A2, x.n, c2⟩) j)) := fun j hj => by
     rw [hset j]
     by_cases hji : j = i
     ·rw [if_pos hji]
      refine ⟨wr.heap.size + 2, by have := hb1.out.lt; omega, fun g2 e => (by have e : some g = some g2 := e; injection e with e; have := (own_ge hO.out g rfl).2; omega), own_same hfr.out (fun k hk => hKg.out.block k (own_ge hfr.out k hk).2 (fun e => ?_)), hgi⟩
      have e : k = g := e; have := (own_ge hfr.out k hk).1; omega
     ·rw [if_neg hji]
      obtain ⟨b1, h1, h2, h3, h4⟩ := hnew.out j (by omega)
      refine ⟨b1, h1, h2, own_same h3 (fun k hk => (hKg.out.block k (Nat.lt_of_lt_of_le (own_ge h3 k hk).2 hq5.out.size) (fun e => ?_)).trans (hq5.out.block k (own_ge h3 k hk).2)), h4⟩
      have e : k = g := e; have := (own_ge h3 k hk).1; have := h2 g rfl; omega
    have hold9 : Hid (∀ j, i + 1 ≤ j → j < n → RdItems w (sqAt (Q.set i ⟨x.a, A2, x.n, c2⟩) j).A (sqAt (Q.set i ⟨x.a, A2, x.n, c2⟩) j).n (sqAt (Q.set i ⟨x.a, A2, x.n, c2⟩) j).a.r.list) := fun j h1 h2 => by
     rw [hset j, if_neg (by omega)]
     exact hold.out j (by omega) h2
    clear hO5 hvv hset hx0 hO hb0 hb1 hcl hQ hwf hnew hold hxe' hsetH hvalH hfr hb5 hg5 hq5 hsz9 r5 r6 r7 r8 r9 r10 r11 r12 s5 s6 s7 s8 s9 s10 s11 s12 c5 l5 gl5 gf5
    go_wp2_with fail
    go_roundw
    case rel => exact ⟨i + 1, _, hlt, by go_num, hQ9, hO9, hb9, hb19, hcl9, hwf9, hnew9, hold9⟩
    case measure => simp [intOf]; omega
  ·obtain rfl : i = n := by omega
   have t3 : decide ((i : Int) < (i : Int)) = false := decide_eq_false (by omega)
   have c1 := hb1.out.cell; have l1 := hb1.out.lt; have f1 := hb1.out.frozen
   have s1 : (Tryz.prog.info? 76).map (·.size) = some 3 := by kernel_rfl
   go_wp2_with fail
   have hset := ((keptSet wr (w.heap.size + 1) 0 (.int .i64 rc)).trans (keptSet _ (w.heap.size + 1) 1 (.int .i64 rt))).trans (keptSet _ (w.heap.size + 1) 2 (.slice A' i c'))
   refine bodyPost_ret (v := .agg #[.int .i64 rc, .int .i64 rt, .slice A' i c']) ?_ rfl ⟨A', c', Q, rfl, hQ.out, ?_, ?_⟩
   ·refine results_cell_row Tryz.results50 _ _ (w.heap.size + 1) 76 #[.int .i64 rc, .int .i64 rt, .slice A' i c'] (0, 0) _ ?_ ?_ Tryz.underlying76 ?_ ?_
    ·rfl
    ·exact ((hb1.out.set_ 0 (.int .i64 rc)).set_ 1 (.int .i64 rt)).set_ 2 (.slice A' i c')
    ·rfl
    ·exact s1
   ·have hown9 := own_same hO.out (fun k hk => hset.block k (own_ge hO.out k hk).2 (fun e => by have e : k = w.heap.size + 1 := e; have := (own_ge hO.out k hk).1; omega))
    refine ⟨own_down hown9 (by omega), fun x hx => ?_⟩
    obtain ⟨j, hj, rfl⟩ := List.getElem_of_mem hx
    obtain ⟨b1, h1, h2, h3, h4⟩ := hnew.out j (by omega)
    have e : sqAt Q j = Q[j] := by simp [sqAt, List.getD, hj]
    rw [e] at h3 h4
    exact ⟨hwf.out _ hx, b1, by omega, h2, own_same h3 (fun k hk => hset.block k (own_ge h3 k hk).2 (fun e => by have e : k = w.heap.size + 1 := e; have := (own_ge h3 k hk).1; omega)), h4⟩
   ·exact ((Kept.of_below (S := fun k => k = w.heap.size + 1) hcl.out).trans hset).toBelow (Nat.le_refl _) (fun k hk e => by have e : k = w.heap.size + 1 := e; omega)
def ListOwnA (W : World) (base : Nat) (v : Value) (q : AQ) : Prop :=
 ∃ b1, base ≤ b1 ∧ (∀ g, v.ownBlock = some g → g < b1) ∧ W.ownsRow b1 87 2 (.slice q.A q.n q.c) q.n (itemVals q.a.make.list) ∧ ∀ i, (itAt q.a.make.list i).score < 18446744073709551616
structure OwnActL (W : World) (base : Nat) (v : Value) (n : Nat) (l : List AQ) : Prop where
 own : W.ownsRow base 90 14 v n (aqVals l)
 it : ∀ q ∈ l, q.a.WF ∧ ListOwnA W base v q
set_option maxHeartbeats 4000000 in
theorem dcloneo_any (l : List MAct) (A : Option Addr) (n c : Nat) (w : World) (hr : RdActs w A n l) (hn : n ≤ 1048576) (hsz : ∀ a ∈ l, a.make.list.length ≤ 1048576) :
  Calls Tryz.prog 51 #[.agg #[.slice A n c]] w fun e w' => ∃ (A' : Option Addr) (c' : Nat) (Q : List AQ), e = .returned (.agg #[.slice A' n c']) ∧ Q.map (·.a) = l ∧ OwnActL w' w.heap.size (.slice A' n c') n Q ∧ Cln w w' := by
 have hlen := hr.len
 have hb0 := (Blk.new w 48 #[.slice A n c]).alloc (.cells #[.slice none 0 0] 48)
 have hb1 := Blk.new (w.alloc (.cells #[.slice A n c] 48)) 48 #[.slice none 0 0]
 have hcl0 : Cln w ((w.alloc (.cells #[.slice A n c] 48)).alloc (.cells #[.slice none 0 0] 48)) := by (repeat with_reducible first | exact cR _ | assumption | refine cA ?_ _ | refine cD ?_ | refine cN ?_ _ | refine cS ?_ (by first | omega | (simp <;> omega)) _)
 simp only [World.size_alloc] at hb1
 go_enter Tryz.func51, Tryz.ntmps51
 go_wp2_with fail
 refine (scloneA_any l A n c w _ hcl0 hr hn).mono ?_
 rintro e w1 ⟨A', c', q, rfl, hq, hown, hit, hcl1⟩
 replace hb0 := hb0.cln hcl1
 replace hb1 := hb1.cln hcl1
 simp only [World.size_alloc] at hown
 have hC1 := cln_trans hcl0 hcl1
 have c0 := hb0.cell; have f0 := hb0.frozen; have l0 := hb0.lt
 have hsz1 : w.heap.size + 1 + 1 ≤ w1.heap.size := by have := hcl1.size; simpa using this
 have hb0' := Lib.hid (hb0.set_ 0 (.slice A' n c'))
 have hb1' := Lib.hid (hb1.far (p := ⟨w.heap.size, 0, none⟩) (by simp) (.slice A' n c'))
 have hown' := Lib.hid (ownsRow_setCell_below hown (a := ⟨w.heap.size, 0, none⟩) (show w.heap.size < w.heap.size + 1 + 1 by omega) (.slice A' n c'))
 have hC1' := Lib.hid (((Kept.of_below (S := fun i => w.heap.size ≤ i) hC1).setCell (p := ⟨w.heap.size, 0, none⟩) (fun _ => Nat.le_refl _) (.slice A' n c')).toBelow (Nat.le_refl _) (fun i hi h => by omega))
 have hk0 := Lib.hid ((Kept.refl (fun i => i = w.heap.size) w1).setCell (p := ⟨w.heap.size, 0, none⟩) (fun _ => rfl) (.slice A' n c'))
 have hs1' := Lib.hid hsz1
 have hit0 := Lib.hid hit
 have hqH := Lib.hid hq
 have hql : q.length = n := by rw [← hlen, ← hq, List.length_map]
 clear hb0 hb1 hown hC1 hcl1 hcl0 hit hq
 go_wp2_with fail
 clear c0 f0 l0
 go_loopw [11] (fun v wr => ∃ (i : Nat) (Q : List AQ), i ≤ n ∧ v = .int .i64 (i : Nat) ∧ Hid (Q.map (·.a) = l) ∧ Hid (wr.ownsRow (w.heap.size + 1 + 1) 90 14 (.slice A' n c') n (aqVals Q)) ∧ Hid (Blk wr w.heap.size 48 #[.slice A' n c']) ∧ Hid (Blk wr (w.heap.size + 1) 48 #[.slice none 0 0]) ∧ Hid (Cln w wr) ∧ Hid (∀ x ∈ Q, x.a.WF) ∧
  Hid (∀ j, j < i → ListOwnA wr (w.heap.size + 1 + 1) (.slice A' n c') (aqAt Q j)) ∧ Hid (∀ j, i ≤ j → j < n → RdItems w (aqAt Q j).A (aqAt Q j).n (aqAt Q j).a.make.list)) (fun v _ => (n - intOf v).toNat)
 case atStart =>
  refine ⟨0, q, Nat.zero_le _, rfl, hqH, hown', hb0', hb1', hC1', fun x hx => (hit0.out x hx).1, fun j hj => by omega, fun j _ hj => ?_⟩
  have hm : aqAt q j ∈ q := by simp [aqAt, List.getD, show j < q.length by omega]
  exact (hit0.out _ hm).2
 case round =>
  clear hqH hown' hb0' hb1' hC1' hk0 hs1' hit0 hql
  obtain ⟨i, Q, hi, rfl, hQ, hO, hb0, hb1, hcl, hwf, hnew, hold⟩ := hrel
  have hql : Q.length = n := by rw [← hlen, ← hQ.out, List.length_map]
  have c0 := hb0.out.cell; have l0 := hb0.out.lt
  by_cases hlt : i < n
  ·have t3 : decide ((i : Int) < (n : Int)) = true := decide_eq_true (by omega)
   have hcs := hO.out.2
   obtain ⟨g, cap, cur, hv, hgb, hgg, hncap, hcm, hcsz, htake⟩ : ∃ g cap cur, Value.slice A' n c' = .slice (some ⟨g, 0, none⟩) n cap ∧ w.heap.size + 1 + 1 ≤ g ∧ wr.heap[g]? = some (.cells cur 90 (0, 0)) ∧ n ≤ cap ∧ cap ≤ maxLen ∧ cur.size = cap * 14 ∧ cur.toList.take (n * 14) = aqVals Q := by
    rcases hcs with ⟨_, h0⟩ | h
    ·omega
    ·exact h
   injection hv with hv1 hv2 hv3
   subst hv1; subst hv3
   have hgB : Blk wr g 90 cur := hgg
   have hgl := hgB.lt
   have hgf := hgB.frozen
   have hat : ∀ k u, k < 14 → (aqAt Q i).vals[k]? = some u → wr.cell? ⟨g, i * 14 + k, none⟩ = some u := fun k u hk hu => by
    have h1 := aqVals_at Q i k (by omega) hk
    have h2 := hO.out.cells (g := g) rfl (i * 14 + k) u (h1.trans hu)
    have e : (⟨g, 0, none⟩ : Addr).add (i * 14 + k) = ⟨g, i * 14 + k, none⟩ := by unfold Addr.add; split <;> simp_all
    rwa [e] at h2
   have hgx := hold.out i (Nat.le_refl _) hlt
   have hmx : (aqAt Q i).a.make.list.length ≤ 1048576 := by
    have h1 : (aqAt Q i).a ∈ l := by rw [← hQ.out]; exact List.mem_map.2 ⟨_, by simp [aqAt, List.getD, hql, hlt], rfl⟩
    exact hsz _ h1
   have hxn : (aqAt Q i).n ≤ 1048576 := by rw [← hgx.len]; exact hmx
   have hsetH : Hid (∀ (A2 : Option Addr) (c2 : Nat), (aqVals Q).set (i * 14 + 12) (.slice A2 (aqAt Q i).n c2) = aqVals (Q.set i ⟨(aqAt Q i).a, A2, (aqAt Q i).n, c2⟩)) := fun A2 c2 => aq_set Q i (by omega) A2 _ c2
   have hvalH : Hid (∀ k, k < 14 → (aqVals Q)[i * 14 + k]? = (aqAt Q i).vals[k]?) := fun k hk => aqVals_at Q i k (by omega) hk
   have hgx' := Lib.hid hgx
   have hgi := hgx.wf
   have hxe : Hid (∃ x, x = aqAt Q i) := ⟨_, rfl⟩
   obtain ⟨x, hxe⟩ := hxe.out
   rw [← hxe] at hat hgx' hxn hsetH hvalH hgi
   have hxe' := Lib.hid hxe
   have cC : Calls Tryz.prog 91 #[.agg #[.int .i64 x.a.make.kind, .int .i64 x.a.make.num, .int .i64 x.a.make.low, .int .i64 x.a.make.high, .float .f64 x.a.make.real, .int .i64 x.a.make.cap, .string (str x.a.make.text), .slice x.A x.n x.c]] wr.drew fun e w5 => ∃ (A2 : Option Addr) (c2 : Nat), e = .returned (.agg #[.int .i64 x.a.make.kind, .int .i64 x.a.make.num, .int .i64 x.a.make.low, .int .i64 x.a.make.high, .float .f64 x.a.make.real, .int .i64 x.a.make.cap, .string (str x.a.make.text), .slice A2 x.n c2]) ∧ Hid (w5.ownsRow (wr.heap.size + 2) 87 2 (.slice A2 x.n c2) x.n (itemVals x.a.make.list)) ∧ Blk w5 w.heap.size 48 #[.slice (some ⟨g, 0, none⟩) n c'] ∧ Blk w5 g 90 cur ∧ Hid (Cln wr w5) := by
    refine (clone_any x.a.make x.A x.n x.c wr.drew ((hgx'.out.cln hcl.out).cln (Below.drew (Below.refl _ _))) hxn).mono ?_
    rintro e w5 ⟨A2, c2, rfl, hown2, hq2⟩
    have hq3 : Cln wr w5 := cln_trans (Below.drew (Below.refl _ _)) hq2
    exact ⟨A2, c2, rfl, hown2, hb0.out.cln hq3, hgB.cln hq3, hq3⟩
   have ig1 : (0 : Int) ≤ (i : Int) := by omega
   have ig2 : (i : Int) < (n : Int) := by omega
   have r5 : wr.cell? ⟨g, i * 14 + 5, none⟩ = some (.int .i64 x.a.make.kind) := hat 5 _ (by decide) rfl
   have r6 : wr.cell? ⟨g, i * 14 + 6, none⟩ = some (.int .i64 x.a.make.num) := hat 6 _ (by decide) rfl
   have r7 : wr.cell? ⟨g, i * 14 + 7, none⟩ = some (.int .i64 x.a.make.low) := hat 7 _ (by decide) rfl
   have r8 : wr.cell? ⟨g, i * 14 + 8, none⟩ = some (.int .i64 x.a.make.high) := hat 8 _ (by decide) rfl
   have r9 : wr.cell? ⟨g, i * 14 + 9, none⟩ = some (.float .f64 x.a.make.real) := hat 9 _ (by decide) rfl
   have r10 : wr.cell? ⟨g, i * 14 + 10, none⟩ = some (.int .i64 x.a.make.cap) := hat 10 _ (by decide) rfl
   have r11 : wr.cell? ⟨g, i * 14 + 11, none⟩ = some (.string (str x.a.make.text)) := hat 11 _ (by decide) rfl
   have r12 : wr.cell? ⟨g, i * 14 + 12, none⟩ = some (.slice x.A x.n x.c) := hat 12 _ (by decide) rfl
   clear hgx hmx hxe hcs hat hgx'
   go_wp2_with fail
   go_region_law (go_simp; go_at_call 91; with_reducible refine cC.mono ?_; rintro e w5 ⟨A2, c2, rfl, hfr, hb5, hg5, hq5⟩; have c5 := hb5.cell; have l5 := hb5.lt; have gl5 := hg5.lt; have gf5 := hg5.frozen; have s5 : w5.cell? ⟨g, i * 14 + 5, none⟩ = some (.int .i64 x.a.make.kind) := (Kept.of_below (S := fun _ => False) hq5.out).cell r5 id; have s6 : w5.cell? ⟨g, i * 14 + 5 + 1, none⟩ = some (.int .i64 x.a.make.num) := (Kept.of_below (S := fun _ => False) hq5.out).cell r6 id; have s7 : w5.cell? ⟨g, i * 14 + 5 + 2, none⟩ = some (.int .i64 x.a.make.low) := (Kept.of_below (S := fun _ => False) hq5.out).cell r7 id; have s8 : w5.cell? ⟨g, i * 14 + 5 + 3, none⟩ = some (.int .i64 x.a.make.high) := (Kept.of_below (S := fun _ => False) hq5.out).cell r8 id; have s9 : w5.cell? ⟨g, i * 14 + 5 + 4, none⟩ = some (.float .f64 x.a.make.real) := (Kept.of_below (S := fun _ => False) hq5.out).cell r9 id; have s10 : w5.cell? ⟨g, i * 14 + 5 + 5, none⟩ = some (.int .i64 x.a.make.cap) := (Kept.of_below (S := fun _ => False) hq5.out).cell r10 id; have s11 : w5.cell? ⟨g, i * 14 + 5 + 6, none⟩ = some (.string (str x.a.make.text)) := (Kept.of_below (S := fun _ => False) hq5.out).cell r11 id; have s12 : w5.cell? ⟨g, i * 14 + 5 + 7, none⟩ = some (.slice x.A x.n x.c) := (Kept.of_below (S := fun _ => False) hq5.out).cell r12 id)
   all_goals
    have hO5 := own_same hO.out (fun k hk => hq5.out.block k (own_ge hO.out k hk).2)
    have hvv : ∀ k, k < 14 → (aqVals Q)[i * 14 + k]? = x.vals[k]? := hvalH.out
    have hO9 : Hid (((((((((w5.setCell ⟨g, i * 14 + 5, none⟩ (.int .i64 x.a.make.kind)).setCell ⟨g, i * 14 + 5 + 1, none⟩ (.int .i64 x.a.make.num)).setCell ⟨g, i * 14 + 5 + 2, none⟩ (.int .i64 x.a.make.low)).setCell ⟨g, i * 14 + 5 + 3, none⟩ (.int .i64 x.a.make.high)).setCell ⟨g, i * 14 + 5 + 4, none⟩ (.float .f64 x.a.make.real)).setCell ⟨g, i * 14 + 5 + 5, none⟩ (.int .i64 x.a.make.cap)).setCell ⟨g, i * 14 + 5 + 6, none⟩ (.string (str x.a.make.text))).setCell ⟨g, i * 14 + 5 + 7, none⟩ (.slice A2 x.n c2)).ownsRow (w.heap.size + 1 + 1) 90 14 (.slice (some ⟨g, 0, none⟩) n c') n (aqVals (Q.set i ⟨x.a, A2, x.n, c2⟩))) := by
     have e5 := own_set hO5 (j := i * 14 + 5) (by omega) (.int .i64 x.a.make.kind)
     rw [set_same (show (aqVals Q)[i * 14 + 5]? = _ from hvv 5 (by decide))] at e5
     have e6 := own_set e5 (j := i * 14 + 5 + 1) (by omega) (.int .i64 x.a.make.num)
     rw [set_same (show (aqVals Q)[i * 14 + 5 + 1]? = _ from hvv 6 (by decide))] at e6
     have e7 := own_set e6 (j := i * 14 + 5 + 2) (by omega) (.int .i64 x.a.make.low)
     rw [set_same (show (aqVals Q)[i * 14 + 5 + 2]? = _ from hvv 7 (by decide))] at e7
     have e8 := own_set e7 (j := i * 14 + 5 + 3) (by omega) (.int .i64 x.a.make.high)
     rw [set_same (show (aqVals Q)[i * 14 + 5 + 3]? = _ from hvv 8 (by decide))] at e8
     have e9 := own_set e8 (j := i * 14 + 5 + 4) (by omega) (.float .f64 x.a.make.real)
     rw [set_same (show (aqVals Q)[i * 14 + 5 + 4]? = _ from hvv 9 (by decide))] at e9
     have e10 := own_set e9 (j := i * 14 + 5 + 5) (by omega) (.int .i64 x.a.make.cap)
     rw [set_same (show (aqVals Q)[i * 14 + 5 + 5]? = _ from hvv 10 (by decide))] at e10
     have e11 := own_set e10 (j := i * 14 + 5 + 6) (by omega) (.string (str x.a.make.text))
     rw [set_same (show (aqVals Q)[i * 14 + 5 + 6]? = _ from hvv 11 (by decide))] at e11
     have e12 := own_set e11 (j := i * 14 + 5 + 7) (by omega) (.slice A2 x.n c2)
     have e13 := hsetH.out A2 c2
     rw [show i * 14 + 12 = i * 14 + 5 + 7 from rfl] at e13
     rw [e13] at e12
     exact e12
    have hKg : Hid (Kept (fun k => k = g) w5 ((((((((w5.setCell ⟨g, i * 14 + 5, none⟩ (.int .i64 x.a.make.kind)).setCell ⟨g, i * 14 + 5 + 1, none⟩ (.int .i64 x.a.make.num)).setCell ⟨g, i * 14 + 5 + 2, none⟩ (.int .i64 x.a.make.low)).setCell ⟨g, i * 14 + 5 + 3, none⟩ (.int .i64 x.a.make.high)).setCell ⟨g, i * 14 + 5 + 4, none⟩ (.float .f64 x.a.make.real)).setCell ⟨g, i * 14 + 5 + 5, none⟩ (.int .i64 x.a.make.cap)).setCell ⟨g, i * 14 + 5 + 6, none⟩ (.string (str x.a.make.text))).setCell ⟨g, i * 14 + 5 + 7, none⟩ (.slice A2 x.n c2))) := by
     unfold Hid
     iterate 8 refine Kept.setCell (S := fun k => k = g) ?_ (fun _ => rfl) _
     exact Kept.refl _ _
    have hb9 := Lib.hid (hb5.kept hKg.out (show ¬ w.heap.size = g by omega))
    have hb19 := Lib.hid ((hb1.out.cln hq5.out).kept hKg.out (show ¬ w.heap.size + 1 = g by omega))
    have hcl9 : Hid (Cln w ((((((((w5.setCell ⟨g, i * 14 + 5, none⟩ (.int .i64 x.a.make.kind)).setCell ⟨g, i * 14 + 5 + 1, none⟩ (.int .i64 x.a.make.num)).setCell ⟨g, i * 14 + 5 + 2, none⟩ (.int .i64 x.a.make.low)).setCell ⟨g, i * 14 + 5 + 3, none⟩ (.int .i64 x.a.make.high)).setCell ⟨g, i * 14 + 5 + 4, none⟩ (.float .f64 x.a.make.real)).setCell ⟨g, i * 14 + 5 + 5, none⟩ (.int .i64 x.a.make.cap)).setCell ⟨g, i * 14 + 5 + 6, none⟩ (.string (str x.a.make.text))).setCell ⟨g, i * 14 + 5 + 7, none⟩ (.slice A2 x.n c2))) := ((Kept.of_below (S := fun k => k = g) (cln_trans hcl.out hq5.out)).trans hKg.out).toBelow (Nat.le_refl _) (fun k hk e => by have e : k = g := e; omega)
    have hsz9 : wr.heap.size ≤ ((((((((w5.setCell ⟨g, i * 14 + 5, none⟩ (.int .i64 x.a.make.kind)).setCell ⟨g, i * 14 + 5 + 1, none⟩ (.int .i64 x.a.make.num)).setCell ⟨g, i * 14 + 5 + 2, none⟩ (.int .i64 x.a.make.low)).setCell ⟨g, i * 14 + 5 + 3, none⟩ (.int .i64 x.a.make.high)).setCell ⟨g, i * 14 + 5 + 4, none⟩ (.float .f64 x.a.make.real)).setCell ⟨g, i * 14 + 5 + 5, none⟩ (.int .i64 x.a.make.cap)).setCell ⟨g, i * 14 + 5 + 6, none⟩ (.string (str x.a.make.text))).setCell ⟨g, i * 14 + 5 + 7, none⟩ (.slice A2 x.n c2)).heap.size := Nat.le_trans hq5.out.size hKg.out.size
    have hset : ∀ j, aqAt (Q.set i ⟨x.a, A2, x.n, c2⟩) j = if j = i then ⟨x.a, A2, x.n, c2⟩ else aqAt Q j := fun j => by
     simp only [aqAt, List.getD_eq_getElem?_getD, List.getElem?_set]
     by_cases hji : j = i
     ·subst hji; simp [show j < Q.length by omega]
     ·rw [if_neg (fun e => hji e.symm), if_neg hji]
    have hx0 : aqAt Q i = x := hxe'.out.symm
    have hQ9 : Hid ((Q.set i ⟨x.a, A2, x.n, c2⟩).map (·.a) = l) := by
     unfold Hid
     rw [List.map_set, ← hQ.out]
     refine set_same ?_
     rw [List.getElem?_map]
     have : Q[i]? = some x := by rw [← hx0]; simp [aqAt, List.getD, show i < Q.length by omega]
     rw [this]; rfl
    have hwf9 : Hid (∀ y ∈ Q.set i ⟨x.a, A2, x.n, c2⟩, y.a.WF) := fun y hy => by
     rcases List.mem_or_eq_of_mem_set hy with h | h
     ·exact hwf.out y h
     ·subst h
      exact hwf.out x (by rw [← hx0]; simp [aqAt, List.getD, show i < Q.length by omega])
    have hnew9 : Hid (∀ j, j < i + 1 → ListOwnA ((((((((w5.setCell ⟨g, i * 14 + 5, none⟩ (.int .i64 x.a.make.kind)).setCell ⟨g, i * 14 + 5 + 1, none⟩ (.int .i64 x.a.make.num)).setCell ⟨g, i * 14 + 5 + 2, none⟩ (.int .i64 x.a.make.low)).setCell ⟨g, i * 14 + 5 + 3, none⟩ (.int .i64 x.a.make.high)).setCell ⟨g, i * 14 + 5 + 4, none⟩ (.float .f64 x.a.make.real)).setCell ⟨g, i * 14 + 5 + 5, none⟩ (.int .i64 x.a.make.cap)).setCell ⟨g, i * 14 + 5 + 6, none⟩ (.string (str x.a.make.text))).setCell ⟨g, i * 14 + 5 + 7, none⟩ (.slice A2 x.n c2)) (w.heap.size + 1 + 1) (.slice (some ⟨g, 0, none⟩) n c') (aqAt (Q.set i ⟨x.a, A2, x.n, c2⟩) j)) := fun j hj => by
     rw [hset j]
     by_cases hji : j = i
     ·rw [if_pos hji]
      refine ⟨wr.heap.size + 2, by have := hb1.out.lt; omega, fun g2 e => (by have e : some g = some g2 := e; injection e with e; have := (own_ge hO.out g rfl).2; omega), own_same hfr.out (fun k hk => hKg.out.block k (own_ge hfr.out k hk).2 (fun e => ?_)), hgi⟩
      have e : k = g := e; have := (own_ge hfr.out k hk).1; omega
     ·rw [if_neg hji]
      obtain ⟨b1, h1, h2, h3, h4⟩ := hnew.out j (by omega)
      refine ⟨b1, h1, h2, own_same h3 (fun k hk => (hKg.out.block k (Nat.lt_of_lt_of_le (own_ge h3 k hk).2 hq5.out.size) (fun e => ?_)).trans (hq5.out.block k (own_ge h3 k hk).2)), h4⟩
      have e : k = g := e; have := (own_ge h3 k hk).1; have := h2 g rfl; omega
    have hold9 : Hid (∀ j, i + 1 ≤ j → j < n → RdItems w (aqAt (Q.set i ⟨x.a, A2, x.n, c2⟩) j).A (aqAt (Q.set i ⟨x.a, A2, x.n, c2⟩) j).n (aqAt (Q.set i ⟨x.a, A2, x.n, c2⟩) j).a.make.list) := fun j h1 h2 => by
     rw [hset j, if_neg (by omega)]
     exact hold.out j (by omega) h2
    clear hO5 hvv hset hx0 hO hb0 hb1 hcl hQ hwf hnew hold hxe' hsetH hvalH hfr hb5 hg5 hq5 hsz9 r5 r6 r7 r8 r9 r10 r11 r12 s5 s6 s7 s8 s9 s10 s11 s12 c5 l5 gl5 gf5
    go_wp2_with fail
    go_roundw
    case rel => exact ⟨i + 1, _, hlt, by go_num, hQ9, hO9, hb9, hb19, hcl9, hwf9, hnew9, hold9⟩
    case measure => simp [intOf]; omega
  ·obtain rfl : i = n := by omega
   have t3 : decide ((i : Int) < (i : Int)) = false := decide_eq_false (by omega)
   have c1 := hb1.out.cell; have l1 := hb1.out.lt; have f1 := hb1.out.frozen
   have s1 : (Tryz.prog.info? 48).map (·.size) = some 1 := by kernel_rfl
   go_wp2_with fail
   have hset := keptSet wr (w.heap.size + 1) 0 (.slice A' i c')
   refine bodyPost_ret (v := .agg #[.slice A' i c']) ?_ rfl ⟨A', c', Q, rfl, hQ.out, ?_, ?_⟩
   ·refine results_cell_row Tryz.results51 _ _ (w.heap.size + 1) 48 #[.slice A' i c'] (0, 0) _ ?_ ?_ Tryz.underlying48 ?_ ?_
    ·rfl
    ·exact hb1.out.set_ 0 (.slice A' i c')
    ·rfl
    ·exact s1
   ·have hown9 := own_same hO.out (fun k hk => hset.block k (own_ge hO.out k hk).2 (fun e => by have e : k = w.heap.size + 1 := e; have := (own_ge hO.out k hk).1; omega))
    refine ⟨own_down hown9 (by omega), fun x hx => ?_⟩
    obtain ⟨j, hj, rfl⟩ := List.getElem_of_mem hx
    obtain ⟨b1, h1, h2, h3, h4⟩ := hnew.out j (by omega)
    have e : aqAt Q j = Q[j] := by simp [aqAt, List.getD, hj]
    rw [e] at h3 h4
    exact ⟨hwf.out _ hx, b1, by omega, h2, own_same h3 (fun k hk => hset.block k (own_ge h3 k hk).2 (fun e => by have e : k = w.heap.size + 1 := e; have := (own_ge h3 k hk).1; omega)), h4⟩
   ·exact ((Kept.of_below (S := fun k => k = w.heap.size + 1) hcl.out).trans hset).toBelow (Nat.le_refl _) (fun k hk e => by have e : k = w.heap.size + 1 := e; omega)
end Go.Proofs.YtoeoodiifpoomaaGreatDoor

/- What stands while a law writes into copies: rows whose lists are in blocks behind them, with names that only grow. No program but for its type numbers. -/
namespace Go.Proofs.YtoeoodiifpoomaaGreatDoor
open Go.RowKit Moi
def NamesSt (W : World) (lo M : Nat) (A : Option Addr) (n : Nat) (l : List MItem) : Prop :=
 0 < n → ∃ g cur, A = some ⟨g, 0, none⟩ ∧ lo ≤ g ∧ Blk W g 87 cur ∧ ∀ k, k < n → ∃ s, cur[k * 2 + 1]? = some (.string (str s)) ∧ (itAt l k).name.length ≤ s.length ∧ s.length ≤ M
def NamesTo (W : World) (M : Nat) (A : Option Addr) (n k : Nat) : Prop :=
 ∀ g, A = some ⟨g, 0, none⟩ → ∀ j s, k ≤ j → j < n → W.cell? ⟨g, j * 2 + 1, none⟩ = some (.string (str s)) → s.length ≤ M
section
variable {S : Nat → Prop} {W W' : World} {lo M M' : Nat} {A : Option Addr} {n k : Nat} {l : List MItem}
theorem NamesSt.kept (h : NamesSt W lo M A n l) (k : Kept S W W') (hS : ∀ g, A = some ⟨g, 0, none⟩ → lo ≤ g → ¬ S g) : NamesSt W' lo M A n l := fun h0 => by
 obtain ⟨g, cur, e, hb, hg, hr⟩ := h h0
 exact ⟨g, cur, e, hb, hg.kept k (hS g e hb), hr⟩
theorem NamesSt.cln (h : NamesSt W lo M A n l) (k : Cln W W') : NamesSt W' lo M A n l := h.kept (Kept.of_below (S := fun _ => False) k) fun _ _ _ h => h
theorem NamesSt.le (h : NamesSt W lo M A n l) (hM : M ≤ M') : NamesSt W lo M' A n l := fun h0 => by
 obtain ⟨g, cur, e, hb, hg, hr⟩ := h h0
 refine ⟨g, cur, e, hb, hg, fun k hk => ?_⟩
 obtain ⟨s, h1, h2, h3⟩ := hr k hk
 exact ⟨s, h1, h2, by omega⟩
theorem NamesSt.to (h : NamesSt W lo M A n l) : NamesTo W M A n 0 := fun g e j s _ hj hs => by
 obtain ⟨g', cur, e', hb, hg, hr⟩ := h (by omega)
 rw [e'] at e; injection e with e; injection e with e; subst e
 obtain ⟨s', h1, _, h3⟩ := hr j hj
 rw [hg.cell, h1] at hs
 injection hs with hs; injection hs with hs
 have := congrArg ByteArray.size hs
 simp [str_size] at this
 omega
theorem NamesSt.far (h : NamesSt W lo M A n l) {g t : Nat} {cs : Array Value} (hb : Blk W g t cs) (hne : 87 ≠ t) (i : Nat) (v : Value) : NamesSt (W.setCell ⟨g, i, none⟩ v) lo M A n l := fun h0 => by
 obtain ⟨g', cur, e, hb', hg, hr⟩ := h h0
 exact ⟨g', cur, e, hb', hg.far (p := ⟨g, i, none⟩) (hg.ne_ hb hne) v, hr⟩
theorem NamesSt.write (h : NamesSt W lo M A n l) {g k : Nat} {s s' : List UInt8} (hc : W.cell? ⟨g, k * 2 + 1, none⟩ = some (.string (str s))) (h1 : s.length ≤ s'.length) (h2 : s'.length ≤ M) :
  NamesSt (W.setCell ⟨g, k * 2 + 1, none⟩ (.string (str s'))) lo M A n l := fun h0 => by
 obtain ⟨g', cur, e, hb, hg, hr⟩ := h h0
 by_cases hgg : g' = g
 ·subst hgg
  refine ⟨g', _, e, hb, hg.set_ (k * 2 + 1) _, fun j hj => ?_⟩
  obtain ⟨t, t1, t2, t3⟩ := hr j hj
  by_cases hjk : j = k
  ·subst hjk
   refine ⟨s', ?_, ?_, h2⟩
   ·have hlt := (Array.getElem?_eq_some_iff.1 t1).1
    rw [Array.getElem?_setIfInBounds, if_pos rfl, if_pos hlt]
   ·rw [hg.cell, t1] at hc
    injection hc with hc; injection hc with hc
    have := congrArg ByteArray.size hc
    simp [str_size] at this
    omega
  ·exact ⟨t, by rw [Array.getElem?_setIfInBounds, if_neg (by omega)]; exact t1, t2, t3⟩
 ·exact ⟨g', cur, e, hb, hg.far (p := ⟨g, k * 2 + 1, none⟩) hgg _, hr⟩
theorem NamesTo.write (h : NamesTo W M A n k) {g : Nat} (e : A = some ⟨g, 0, none⟩) (v : Value) : NamesTo (W.setCell ⟨g, k * 2 + 1, none⟩ v) M A n (k + 1) := fun g' e' j s hk hj hs => by
 rw [e] at e'; injection e' with e'; injection e' with e'; subst e'
 have hne : (⟨g, k * 2 + 1, none⟩ : Addr) ≠ ⟨g, j * 2 + 1, none⟩ := fun e => by injection e with _ e _; omega
 have hs : W.cell? ⟨g, j * 2 + 1, none⟩ = some (.string (str s)) := (World.cell?_setCell_other W ⟨g, k * 2 + 1, none⟩ ⟨g, j * 2 + 1, none⟩ v hne).symm.trans hs
 exact h g e j s (by omega) hj hs
theorem NamesTo.kept (h : NamesTo W M A n k) (hk : ∀ g, A = some ⟨g, 0, none⟩ → W'.heap[g]? = W.heap[g]?) : NamesTo W' M A n k := fun g e j s h1 h2 hs => by
 rw [World.cell?_of_block (a := ⟨g, j * 2 + 1, none⟩) (hk g e)] at hs
 exact h g e j s h1 h2 hs
theorem NamesSt.at_ (h : NamesSt W lo M A n l) (ht : NamesTo W M' A n k) (hk : k < n) : ∃ g cur s, A = some ⟨g, 0, none⟩ ∧ lo ≤ g ∧ Blk W g 87 cur ∧ W.cell? ⟨g, k * 2 + 1, none⟩ = some (.string (str s)) ∧ (itAt l k).name.length ≤ s.length ∧ s.length ≤ M' := by
 obtain ⟨g, cur, e, hb, hg, hr⟩ := h (by omega)
 obtain ⟨s, h1, h2, _⟩ := hr k hk
 have hc : W.cell? ⟨g, k * 2 + 1, none⟩ = some (.string (str s)) := by rw [hg.cell, h1]
 exact ⟨g, cur, s, e, hb, hg, hc, h2, ht g e k s (Nat.le_refl _) hk hc⟩
theorem NamesSt.of_own {c : Nat} (h : W.ownsRow lo 87 2 (.slice A n c) n (itemVals l)) (hM : ∀ i, (itAt l i).name.length ≤ M) : NamesSt W lo M A n l := fun h0 => by
 have hl : l.length = n := by have := h.1; rw [itemVals_length] at this; omega
 rcases h.2 with ⟨_, hn⟩ | ⟨g, cap, cur, hv, hb, hg, hn, hm, hs, ht⟩
 ·omega
 ·injection hv with h1 h2 h3
  refine ⟨g, cur, h1, hb, hg, fun k hk => ⟨(itAt l k).name, ?_, Nat.le_refl _, hM k⟩⟩
  have h2 := (itemVals_get l k (by omega)).2
  rw [← ht, List.getElem?_take_of_lt (by omega), Array.getElem?_toList] at h2
  exact h2
end
def RowSt (W : World) (lo e sz o1 o9 : Nat) (A : Option Addr) (n i : Nat) (f1 f9 : Nat → Value) : Prop :=
 0 < n → ∃ g cur, A = some ⟨g, 0, none⟩ ∧ lo ≤ g ∧ Blk W g e cur ∧ ∀ j, j < n → cur[j * sz + o9]? = some (f9 j) ∧ (i ≤ j → cur[j * sz + o1]? = some (f1 j))
section
variable {S : Nat → Prop} {W W' : World} {lo e sz o1 o9 : Nat} {A : Option Addr} {n i : Nat} {f1 f9 : Nat → Value}
theorem RowSt.kept (h : RowSt W lo e sz o1 o9 A n i f1 f9) (k : Kept S W W') (hS : ∀ g, A = some ⟨g, 0, none⟩ → lo ≤ g → ¬ S g) : RowSt W' lo e sz o1 o9 A n i f1 f9 := fun h0 => by
 obtain ⟨g, cur, e, hb, hg, hr⟩ := h h0
 exact ⟨g, cur, e, hb, hg.kept k (hS g e hb), hr⟩
theorem RowSt.cln (h : RowSt W lo e sz o1 o9 A n i f1 f9) (k : Cln W W') : RowSt W' lo e sz o1 o9 A n i f1 f9 := h.kept (Kept.of_below (S := fun _ => False) k) fun _ _ _ h => h
theorem RowSt.far (h : RowSt W lo e sz o1 o9 A n i f1 f9) {g t : Nat} {cs : Array Value} (hb : Blk W g t cs) (hne : e ≠ t) (j : Nat) (v : Value) : RowSt (W.setCell ⟨g, j, none⟩ v) lo e sz o1 o9 A n i f1 f9 := fun h0 => by
 obtain ⟨g', cur, ee, hb', hg, hr⟩ := h h0
 exact ⟨g', cur, ee, hb', hg.far (p := ⟨g, j, none⟩) (hg.ne_ hb hne) v, hr⟩
theorem RowSt.write (h : RowSt W lo e sz o1 o9 A n i f1 f9) (h1 : o1 < sz) (h9 : o9 < sz) (hne : o1 ≠ o9) {g : Nat} (eA : A = some ⟨g, 0, none⟩) (v : Value) : RowSt (W.setCell ⟨g, i * sz + o1, none⟩ v) lo e sz o1 o9 A n (i + 1) f1 f9 := fun h0 => by
 obtain ⟨g', cur, e', hb, hg, hr⟩ := h h0
 obtain rfl : g' = g := by rw [eA] at e'; injection e' with e'; injection e' with e'; exact e'.symm
 refine ⟨g', _, eA, hb, hg.set_ (i * sz + o1) v, fun j hj => ?_⟩
 obtain ⟨r9, r1⟩ := hr j hj
 have key : ∀ a b x y, x < sz → y < sz → a * sz + x = b * sz + y → a = b ∧ x = y := fun a b x y hx hy he => by
  have e1 : (a * sz + x) % sz = x := by rw [Nat.mul_comm, Nat.mul_add_mod]; exact Nat.mod_eq_of_lt hx
  have e2 : (b * sz + y) % sz = y := by rw [Nat.mul_comm, Nat.mul_add_mod]; exact Nat.mod_eq_of_lt hy
  have e3 : x = y := by rw [← e1, ← e2, he]
  subst e3
  have e4 : a * sz = b * sz := by omega
  exact ⟨Nat.eq_of_mul_eq_mul_right (by omega) e4, rfl⟩
 refine ⟨?_, fun hij => ?_⟩
 ·rw [Array.getElem?_setIfInBounds, if_neg (fun he => hne (key _ _ _ _ h1 h9 he).2)]; exact r9
 ·rw [Array.getElem?_setIfInBounds, if_neg (fun he => by have := (key _ _ _ _ h1 h1 he).1; omega)]; exact r1 (by omega)
theorem RowSt.of_own {c : Nat} {xs : List Value} (h : W.ownsRow lo e sz (.slice A n c) n xs) (hx : ∀ j, j < n → xs[j * sz + o9]? = some (f9 j) ∧ xs[j * sz + o1]? = some (f1 j)) : RowSt W lo e sz o1 o9 A n 0 f1 f9 := fun h0 => by
 rcases h.2 with ⟨_, hn⟩ | ⟨g, cap, cur, hv, hb, hg, hn, hm, hs, ht⟩
 ·omega
 ·injection hv with h1 h2 h3
  have hlen := h.1
  refine ⟨g, cur, h1, hb, hg, fun j hj => ?_⟩
  have key : ∀ k u, xs[k]? = some u → cur[k]? = some u := fun k u hu => by
   have hk := (List.getElem?_eq_some_iff.1 hu).1
   rw [← ht, List.getElem?_take_of_lt (by omega), Array.getElem?_toList] at hu
   exact hu
  exact ⟨key _ _ (hx j hj).1, fun _ => key _ _ (hx j hj).2⟩
end

theorem ans_states {W : World} {base lo M m c : Nat} {C : Option Addr} {Q : List SQ} {l : List MAns} (h : OwnAns W base (.slice C m c) m Q) (hQ : Q.map (·.a) = l) (hlo : lo ≤ base) (hM : ∀ a ∈ l, ∀ i, (itAt a.r.list i).name.length ≤ M) :
  RowSt W lo 85 10 1 9 C m 0 (fun j => .int .i64 (ansAt l j).num) (fun j => .slice (sqAt Q j).A (ansAt l j).r.list.length (sqAt Q j).c) ∧ ∀ j, j < m → NamesSt W lo M (sqAt Q j).A (ansAt l j).r.list.length (ansAt l j).r.list := by
 have hql : Q.length = m := by have := h.own.1; rw [sqVals_length] at this; omega
 have hat : ∀ j, j < m → (sqAt Q j).a = ansAt l j ∧ sqAt Q j ∈ Q ∧ ansAt l j ∈ l := fun j hj => by
  have hm : sqAt Q j ∈ Q := by simp [sqAt, List.getD, show j < Q.length by omega]
  have e : (sqAt Q j).a = ansAt l j := by subst hQ; simp [sqAt, ansAt, List.getD, show j < Q.length by omega]
  exact ⟨e, hm, by rw [← e, ← hQ]; exact List.mem_map.2 ⟨_, hm, rfl⟩⟩
 have hnn : ∀ j, j < m → (sqAt Q j).n = (ansAt l j).r.list.length := fun j hj => by
  obtain ⟨e, hm, _⟩ := hat j hj
  obtain ⟨b1, _, _, h3, _⟩ := (h.it _ hm).2
  have := h3.1
  rw [itemVals_length, e] at this
  omega
 refine ⟨RowSt.of_own (own_down h.own hlo) fun j hj => ⟨?_, ?_⟩, fun j hj => ?_⟩
 ·have := sqVals_at Q j 9 (by omega) (by decide)
  rw [this]
  show some (Value.slice (sqAt Q j).A (sqAt Q j).n (sqAt Q j).c) = _
  rw [hnn j hj]
 ·have := sqVals_at Q j 1 (by omega) (by decide)
  rw [this]
  show some (.int .i64 (sqAt Q j).a.num : Value) = _
  rw [(hat j hj).1]
 ·obtain ⟨e, hm, hml⟩ := hat j hj
  obtain ⟨b1, h1, _, h3, _⟩ := (h.it _ hm).2
  rw [hnn j hj, e] at h3
  exact NamesSt.of_own (own_down h3 (by omega)) (hM _ hml)
theorem ans_rd {W : World} {base m c : Nat} {C : Option Addr} {Q : List SQ} {l : List MAns} (h : OwnAns W base (.slice C m c) m Q) (hQ : Q.map (·.a) = l) : RdAns W C m l := by
 have := own_ans h.own (fun u hu => ⟨(h.it u hu).1, by obtain ⟨b1, _, _, h3, h4⟩ := (h.it u hu).2; exact own_items h3 h4⟩)
 rwa [hQ] at this
theorem act_states {W : World} {base lo M m c : Nat} {C : Option Addr} {Q : List AQ} {l : List MAct} (h : OwnActL W base (.slice C m c) m Q) (hQ : Q.map (·.a) = l) (hlo : lo ≤ base) (hM : ∀ a ∈ l, ∀ i, (itAt a.make.list i).name.length ≤ M) :
  RowSt W lo 90 14 1 12 C m 0 (fun j => .string (str (actAt l j).key)) (fun j => .slice (aqAt Q j).A (actAt l j).make.list.length (aqAt Q j).c) ∧ ∀ j, j < m → NamesSt W lo M (aqAt Q j).A (actAt l j).make.list.length (actAt l j).make.list := by
 have hql : Q.length = m := by have := h.own.1; rw [aqVals_length] at this; omega
 have hat : ∀ j, j < m → (aqAt Q j).a = actAt l j ∧ aqAt Q j ∈ Q ∧ actAt l j ∈ l := fun j hj => by
  have hm : aqAt Q j ∈ Q := by simp [aqAt, List.getD, show j < Q.length by omega]
  have e : (aqAt Q j).a = actAt l j := by subst hQ; simp [aqAt, actAt, List.getD, show j < Q.length by omega]
  exact ⟨e, hm, by rw [← e, ← hQ]; exact List.mem_map.2 ⟨_, hm, rfl⟩⟩
 have hnn : ∀ j, j < m → (aqAt Q j).n = (actAt l j).make.list.length := fun j hj => by
  obtain ⟨e, hm, _⟩ := hat j hj
  obtain ⟨b1, _, _, h3, _⟩ := (h.it _ hm).2
  have := h3.1
  rw [itemVals_length, e] at this
  omega
 refine ⟨RowSt.of_own (own_down h.own hlo) fun j hj => ⟨?_, ?_⟩, fun j hj => ?_⟩
 ·have := aqVals_at Q j 12 (by omega) (by decide)
  rw [this]
  show some (Value.slice (aqAt Q j).A (aqAt Q j).n (aqAt Q j).c) = _
  rw [hnn j hj]
 ·have := aqVals_at Q j 1 (by omega) (by decide)
  rw [this]
  show some (.string (str (aqAt Q j).a.key) : Value) = _
  rw [(hat j hj).1]
 ·obtain ⟨e, hm, hml⟩ := hat j hj
  obtain ⟨b1, h1, _, h3, _⟩ := (h.it _ hm).2
  rw [hnn j hj, e] at h3
  exact NamesSt.of_own (own_down h3 (by omega)) (hM _ hml)
theorem act_rd {W : World} {base m c : Nat} {C : Option Addr} {Q : List AQ} {l : List MAct} (h : OwnActL W base (.slice C m c) m Q) (hQ : Q.map (·.a) = l) : RdActs W C m l := by
 have := own_acts h.own (fun u hu => ⟨(h.it u hu).1, by obtain ⟨b1, _, _, h3, h4⟩ := (h.it u hu).2; exact own_items h3 h4⟩)
 rwa [hQ] at this
end Go.Proofs.YtoeoodiifpoomaaGreatDoor
