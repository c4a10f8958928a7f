import Derived.Test.YtoeoodiifpoomaaGreatDoorOwns
import Derived.Test.YtoeoodiifpoomaaGreatDoorWLot1
import Derived.Deep.RegionLawGrows
import Derived.Test.YtoeoodiifpoomaaGreatDoorRows2
import Derived.Test.YtoeoodiifpoomaaGreatDoorSpk
import Derived.Test.YtoeoodiifpoomaaGreatDoorRecs
import Derived.Lib.SliceRun
import Derived.Deep.RegionLaw
import Derived.Test.YtoeoodiifpoomaaGreatDoorWLot3
import Derived.Test.YtoeoodiifpoomaaGreatDoorWLotRead
import Derived.Test.YtoeoodiifpoomaaGreatDoorWLot2
/- Layer 11, plainly: how many deals are in a lot; rows of deals in part. -/
set_option linter.unusedSimpArgs false
set_option linter.unusedVariables false
set_option maxRecDepth 20000
namespace Moi
def manyGo (num : Int) (l : List (List MAct)) : Nat → Nat → Nat
 | 0, i => i
 | f + 1, i => if (checkLot ⟨num, l.take (i + 1)⟩).1 = 0 then manyGo num l f (i + 1) else i
def many (num : Int) (l : List (List MAct)) : Nat := manyGo num l l.length 0
theorem manyGo_le (num : Int) (l : List (List MAct)) : ∀ f i, i ≤ manyGo num l f i ∧ manyGo num l f i ≤ i + f
 | 0, i => ⟨Nat.le_refl _, Nat.le_refl _⟩
 | f + 1, i => by
  unfold manyGo
  split
  ·have := manyGo_le num l f (i + 1); omega
  ·omega
theorem many_le (num : Int) (l : List (List MAct)) : many num l ≤ l.length := by
 have := (manyGo_le num l l.length 0).2; unfold many; omega
theorem manyGo_step {num : Int} {l : List (List MAct)} {n i : Nat} (h : i < n) : manyGo num l (n - i) i = if (checkLot ⟨num, l.take (i + 1)⟩).1 = 0 then manyGo num l (n - (i + 1)) (i + 1) else i := by
 rw [show n - i = (n - (i + 1)) + 1 from by omega, manyGo]
end Moi
namespace Go.Proofs.YtoeoodiifpoomaaGreatDoor
open Go.RowKit Moi
theorem dealAt_take (l : List (List MAct)) (k i : Nat) (h : i < k) : dealAt (l.take k) i = dealAt l i := by simp [dealAt, List.getD, List.getElem?_take, h]
theorem RdDeals.take {W : World} {A : Option Addr} {n : Nat} {l : List (List MAct)} (h : RdDeals W A n l) (k : Nat) (hk : k ≤ n) : RdDeals W A k (l.take k) := by
 refine ⟨by rw [List.length_take, h.len]; omega, fun h0 => ?_⟩
 obtain ⟨b, o, hA, hb, hr⟩ := h.rows (by omega)
 refine ⟨b, o, hA, hb, fun i hi => ?_⟩
 rw [dealAt_take l k i hi]
 exact hr i (by omega)
theorem Mod.take {l : List (List MAct)} (h : Mod l) (k : Nat) : Mod (l.take k) := ⟨fun d hd => h.deals d (List.mem_of_mem_take hd), fun d hd => h.items d (List.mem_of_mem_take hd)⟩
theorem take_snoc (l : List (List MAct)) (i : Nat) (h : i < l.length) : l.take (i + 1) = l.take i ++ [dealAt l i] := by
 rw [List.take_add_one, List.getElem?_eq_getElem h]; simp [dealAt, List.getD, h]
theorem own_none {W : World} {base e sz n c : Nat} {xs : List Value} (h : W.ownsRow base e sz (.slice none n c) n xs) : n = 0 ∧ c = 0 := by
 rcases h.2 with ⟨hv, h0⟩ | ⟨g, cap, cur, hv, _⟩
 ·injection hv with _ h2 h3; exact ⟨h0, h3⟩
 ·injection hv with h1; cases h1
theorem step_pushNew {P : Program} {w : World} {ops : Array Oper} {o : Oper} {a : Act} {K : Act → World → Prop} {Q : Exit → Act → World → Prop} {E : Prop} (hgd : o.guard = none) (s x : Operand) (t : TypeId)
  (ho : o.op = .call { callee := .builtin .append, args := #[s, x], argTypes := #[t, t] })
  (base : Nat) (e : TypeId) (i : TypeInfo) (z : Value) (size bytes : Nat) (ht : P.underlying t = some (.slice e)) (hi : P.info? e = some i) (hz : i.zero = some z)
  (hsize : i.size = size) (hby : i.bytes = bytes) (hzs : z.cells.size = size) (hsz : 0 < size) (hbpos : 0 < bytes)
  (A : Option Addr) (c n g : Nat) (xs : List Value) (l : List Value) (hl : l.length = size) (h1 : ∀ u ∈ l, u.oneCell' = true)
  (hs : a.eval s = .slice A n n) (hx : a.eval x = .slice (some ⟨g, 0, none⟩) 1 1) (hlit : Blk w g e l.toArray)
  (hown : w.ownsRow base e size (.slice A n c) n xs) (hbytes : (n + 1) * bytes ≤ 140737488355328)
  (h : ∀ v' w', w'.ownsRow w.heap.size e size v' (n + 1) (xs ++ l) → w.grownBy w' none → K (a.put o.dst v') w') :
  if Region.wanted o (yielded ops a.tmps) = true then Oper.wp P o a w K Q else E := by
 have h63 : n + 1 ≤ maxLen := by
  have : n + 1 ≤ (n + 1) * bytes := Nat.le_mul_of_pos_right _ hbpos
  simp only [maxLen]; omega
 obtain ⟨hsrc, hnone⟩ := own_src hown
 refine step_append_grows hgd s x t ho e i z size bytes ht hi hz hsize hby hzs hsz A n n xs hs (fun e => ⟨hnone e, hnone e⟩) hown.1 hsrc ⟨g, 0, none⟩ 1 1 l hx (by omega) ?_ h1 (by omega) h63 hbytes h
 intro j u hj
 have e2 : (⟨g, 0, none⟩ : Addr).add j = ⟨g, j, none⟩ := by unfold Addr.add; split <;> simp_all
 rw [e2, hlit.cell j]
 simpa using hj
theorem dealAt_dropped (l : List (List MAct)) (m j : Nat) : dealAt (l.drop m) j = dealAt l (m + j) := by simp [dealAt, List.getD, List.getElem?_drop]
end Go.Proofs.YtoeoodiifpoomaaGreatDoor

/- Layer 11, plainly: what its statements' 'speaks' speaks of; rows of one or two. -/
namespace Moi
def lspA : MAct := ⟨2, [97], 0, 0, [], zeroRec, false⟩
def lspL : MLot := ⟨7, [[lspA]]⟩
theorem lspA_w : wAct lspA = [2, 0, 1, 97] := by
 have h2 := wU_lt 2 (by decide); have h1 := wU_lt 1 (by decide)
 have e1 : hasF 2 110 = false := by decide
 have e2 : hasF 2 120 = false := by decide
 have e3 : hasF 2 115 = false := by decide
 have e4 : hasF 2 109 = false := by decide
 simp [wAct, lspA, wFlag, wS, h2, h1, e1, e2, e3, e4]
theorem lspL_w : wLot lspL = [7, 1, 1, 2, 0, 1, 97] := by
 have h7 := wU_lt 7 (by decide); have h1 := wU_lt 1 (by decide)
 simp [wLot, lspL, wDeal, h7, h1, lspA_w]
theorem lspD_check : checkDeal [lspA] = (0, 0) := by decide
theorem lspL_check : checkLot lspL = (0, 0) := lot_of (by decide) (by decide) (by decide) (fun d hd => by
 have : d = [lspA] := by simpa [lspL] using hd
 subst this; rw [lspD_check]) (by rw [lspL_w]; decide)
theorem lspL_norm : Go.Proofs.YtoeoodiifpoomaaGreatDoor.normDeals lspL.deals = [[lspA]] := by decide
theorem lspM_check : checkLot ⟨1, [[lspA], []]⟩ = (1, 2) := by decide
theorem lspN_check : checkLot ⟨7, [[lspA], []]⟩ = (1, 2) := by decide
theorem lspL_many : many 7 [[lspA], []] = 1 := by
 have h1 : (checkLot ⟨7, ([[lspA], []] : List (List MAct)).take (0 + 1)⟩).1 = 0 := by show (checkLot lspL).1 = 0; rw [lspL_check]
 have h2 : (checkLot ⟨7, ([[lspA], []] : List (List MAct)).take (1 + 1)⟩).1 ≠ 0 := by show (checkLot ⟨7, [[lspA], []]⟩).1 ≠ 0; rw [lspN_check]; decide
 show manyGo 7 [[lspA], []] 2 0 = 1
 rw [manyGo, if_pos h1, manyGo, if_neg h2]
end Moi
namespace Go.Proofs.YtoeoodiifpoomaaGreatDoor
open Go.RowKit Moi
theorem lspA_wf : lspA.WF := ⟨by decide, by decide, by decide, zeroRec_wf_⟩
theorem lspA_full : FullA lspA := ⟨lspA_wf, fun x hx => by cases hx⟩
theorem rd_act1 {W : World} {g : Nat} {a : MAct} {A : Option Addr} {n c : Nat} (h : Blk W g 90 #[.int .i64 a.kind, .string (str a.key), .int .i64 a.n, .float .f64 a.x, .string (str a.s), .int .i64 a.make.kind, .int .i64 a.make.num, .int .i64 a.make.low, .int .i64 a.make.high, .float .f64 a.make.real, .int .i64 a.make.cap, .string (str a.make.text), .slice A n c, .bool a.must]) (hit : RdItems W A n a.make.list) (hwf : a.WF) : RdActs W (some ⟨g, 0, none⟩) 1 [a] := by
 refine ⟨rfl, fun _ => ⟨g, 0, rfl, h.lt, fun i hi => ⟨A, n, c, ?_⟩⟩⟩
 obtain rfl : i = 0 := by omega
 exact ⟨h.cell 0, h.cell 1, h.cell 2, h.cell 3, h.cell 4, h.cell 5, h.cell 6, h.cell 7, h.cell 8, h.cell 9, h.cell 10, h.cell 11, h.cell 12, h.cell 13, hit, hwf⟩
theorem rd_deal1 {W : World} {g : Nat} {d : List MAct} {A : Option Addr} {n c : Nat} (h : Blk W g 48 #[.slice A n c]) (hit : RdActs W A n d) : RdDeals W (some ⟨g, 0, none⟩) 1 [d] := by
 refine ⟨rfl, fun _ => ⟨g, 0, rfl, h.lt, fun i hi => ⟨A, n, c, ?_⟩⟩⟩
 obtain rfl : i = 0 := by omega
 exact ⟨h.cell 0, hit⟩
theorem RdActs.none_ (W : World) : RdActs W none 0 [] := ⟨rfl, fun h => absurd h (by omega)⟩
theorem rd_deal2 {W : World} {g : Nat} {d : List MAct} {A : Option Addr} {n c : Nat} (h : Blk W g 48 #[.slice A n c, .slice none 0 0]) (hit : RdActs W A n d) : RdDeals W (some ⟨g, 0, none⟩) 2 [d, []] := by
 refine ⟨rfl, fun _ => ⟨g, 0, rfl, h.lt, fun i hi => ?_⟩⟩
 rcases (show i = 0 ∨ i = 1 by omega) with rfl | rfl
 ·exact ⟨A, n, c, h.cell 0, hit⟩
 ·exact ⟨none, 0, 0, h.cell 1, RdActs.none_ W⟩
end Go.Proofs.YtoeoodiifpoomaaGreatDoor

/- The walks of slices.Clone over acts, and of deal.Clone. (Printed by wip/tools/gen_clone.py.) -/
namespace Go.Proofs.YtoeoodiifpoomaaGreatDoor
open Go.RowKit Moi
attribute [local go_sem] toList_str str_size less_ltB store_float
theorem own_set {w : World} {base e sz n c g j : Nat} {xs : List Value} (h : w.ownsRow base e sz (.slice (some ⟨g, 0, none⟩) n c) n xs) (hj : j < n * sz) (u : Value) : (w.setCell ⟨g, j, none⟩ u).ownsRow base e sz (.slice (some ⟨g, 0, none⟩) n c) n (xs.set j u) := by
 refine ⟨by rw [List.length_set]; exact h.1, ?_⟩
 rcases h.2 with ⟨hv, _⟩ | ⟨g', cap, cur, hv, hb, hg, hn, hm, hsz, htake⟩
 ·cases hv
 ·injection hv with h1 h2 h3
  injection h1 with h1; injection h1 with h1
  subst h1; subst h3
  refine .inr ⟨g, c, cur.setIfInBounds j u, rfl, hb, Blk.set_ hg j u, hn, hm, by simpa using hsz, ?_⟩
  rw [← htake, Array.toList_setIfInBounds, List.take_set]
theorem aq_one_cell (l : List AQ) : ∀ u ∈ aqVals l, u.oneCell' = true := by
 intro u hu
 obtain ⟨x, _, hx⟩ := List.mem_flatMap.1 hu
 simp [AQ.vals] at hx
 rcases hx with rfl | rfl | rfl | rfl | rfl | rfl | rfl | rfl | rfl | rfl | rfl | rfl | rfl | rfl <;> rfl
def aqAt (l : List AQ) (i : Nat) : AQ := l.getD i ⟨zeroAct, none, 0, 0⟩
theorem acts_aq {w : World} {A : Option Addr} {n : Nat} {l : List MAct} (h : RdActs w A n l) :
  ∃ q : List AQ, q.map (·.a) = l ∧ (∀ ad, A = some ad → ∀ j u, (aqVals q)[j]? = some u → w.cell? (ad.add j) = some u) ∧ (A = none → n = 0) ∧ ∀ x ∈ q, x.a.WF ∧ RdItems w x.A x.n x.a.make.list := by
 have hl := h.len
 rcases Nat.eq_zero_or_pos n with h0 | h0
 ·have : l = [] := List.eq_nil_of_length_eq_zero (by omega)
  subst this
  exact ⟨[], rfl, fun _ _ j u hu => by simp [aqVals] at hu, fun _ => h0, fun _ hx => by cases hx⟩
 obtain ⟨b, o, rfl, hb, hr⟩ := h.rows h0
 have key : ∀ i, i < n → ∃ x : AQ, x.a = actAt l i ∧ ActCells w b (o + i * 14) x.a x.A x.n x.c := fun i hi => by
  obtain ⟨Ai, ni, ci, hc⟩ := hr i hi
  exact ⟨⟨actAt l i, Ai, ni, ci⟩, rfl, hc⟩
 have hF : ∃ F : Nat → AQ, ∀ i, i < n → (F i).a = actAt l i ∧ ActCells w b (o + i * 14) (F i).a (F i).A (F i).n (F i).c :=
  ⟨fun i => if h : i < n then Classical.choose (key i h) else ⟨zeroAct, none, 0, 0⟩, fun i h => by simp only [dif_pos h]; exact Classical.choose_spec (key i h)⟩
 obtain ⟨F, hF⟩ := hF
 have hat : ∀ i, i < n → ((List.range n).map F).getD i ⟨zeroAct, none, 0, 0⟩ = F i := by intro i hi; simp [hi]
 refine ⟨(List.range n).map F, ?_, ?_, fun e => (by cases e), ?_⟩
 ·apply List.ext_getElem
  ·simp [hl]
  ·intro i h1 h2
   simp only [List.getElem_map, List.getElem_range]
   rw [(hF i (by omega)).1]; simp [actAt, List.getD, h2]
 ·intro ad e j u hu
  injection e with e; subst e
  have hj : j < n * 14 := by
   have := (List.getElem?_eq_some_iff.1 hu).1
   rw [aqVals_length] at this; simpa using this
  have hi : j / 14 < n := by omega
  have h1 := aqVals_get ((List.range n).map F) (j / 14) (j % 14) (by simpa using hi) (by omega)
  rw [hat _ hi, show j / 14 * 14 + j % 14 = j from by omega, hu] at h1
  have hc := (hF _ hi).2
  have e2 : (⟨b, o, none⟩ : Addr).add j = ⟨b, o + j, none⟩ := by unfold Addr.add; split <;> simp_all
  rw [e2, show o + j = o + j / 14 * 14 + j % 14 from by omega]
  have hm : j % 14 < 14 := by omega
  generalize j / 14 = i at h1 hc
  generalize j % 14 = k at h1 hm
  have hk : k = 0 ∨ k = 1 ∨ k = 2 ∨ k = 3 ∨ k = 4 ∨ k = 5 ∨ k = 6 ∨ k = 7 ∨ k = 8 ∨ k = 9 ∨ k = 10 ∨ k = 11 ∨ k = 12 ∨ k = 13 := by omega
  rcases hk with rfl | rfl | rfl | rfl | rfl | rfl | rfl | rfl | rfl | rfl | rfl | rfl | rfl | rfl <;> (simp [AQ.vals] at h1; subst h1)
  ·exact hc.c0
  ·exact hc.c1
  ·exact hc.c2
  ·exact hc.c3
  ·exact hc.c4
  ·exact hc.c5
  ·exact hc.c6
  ·exact hc.c7
  ·exact hc.c8
  ·exact hc.c9
  ·exact hc.c10
  ·exact hc.c11
  ·exact hc.c12
  ·exact hc.c13
 ·intro x hx
  obtain ⟨i, hi, rfl⟩ := List.mem_map.1 hx
  have := (hF i (by simpa using hi)).2
  exact ⟨this.wf, this.it⟩
set_option maxHeartbeats 4000000 in
theorem scloneA_any (l : List MAct) (A : Option Addr) (n c : Nat) (w0 w : World) (hcl0 : Cln w0 w) (hr0 : RdActs w0 A n l) (hn : n ≤ 1048576) :
  Calls Tryz.prog 92 #[.slice A n c] w fun e w' => ∃ (A' : Option Addr) (c' : Nat) (q : List AQ), e = .returned (.slice A' n c') ∧ q.map (·.a) = l ∧ w'.ownsRow w.heap.size 90 14 (.slice A' n c') n (aqVals q) ∧ (∀ x ∈ q, x.a.WF ∧ RdItems w0 x.A x.n x.a.make.list) ∧ Cln w w' := by
 obtain ⟨i0, hi, hz0, hz1, hz2⟩ := info_parts Tryz.info90
 obtain ⟨q, hq, hsrc0, hnone, hit⟩ := acts_aq hr0
 have hsrc : ∀ ad, A = some ad → ∀ j u, (aqVals q)[j]? = some u → w.cell? (ad.add j) = some u := fun ad e j u hu => (Kept.of_below (S := fun _ => False) hcl0).cell (hsrc0 ad e j u hu) id
 clear hsrc0
 have hlen : (aqVals q).length = n * 14 := by rw [aqVals_length, ← hr0.len, ← hq, List.length_map]
 have hq' := Lib.hid hq
 have hit' := Lib.hid hit
 rcases A with _ | ad
 ·obtain rfl := hnone rfl
  have hl0 : q = [] := List.eq_nil_of_length_eq_zero (by rw [aqVals_length] at hlen; omega)
  have heq : ∀ W : World, (binOp .eql 46 (.slice none 0 c) (.slice none 0 0)).run Tryz.prog W = .ok (.bool true) W := fun W => Lib.run_eql_slice_nil W _ 90 none 0 c 0 0 Tryz.underlying46
  clear hq hit hsrc hnone hlen
  subst hl0
  go_enter Tryz.func92, Tryz.ntmps92
  go_wp2_with (simp only [heq])
  go_ret
  exact ⟨none, 0, [], rfl, hq'.out, World.ownsRow_nil _ _ _ _, hit'.out, Below.refl _ _⟩
 ·have hlen' := Lib.hid hlen
  have heq : ∀ W : World, (binOp .eql 46 (.slice (some ad) n c) (.slice none 0 0)).run Tryz.prog W = .ok (.bool false) W := fun W => Lib.run_eql_slice_nil W _ 90 (some ad) n c 0 0 Tryz.underlying46
  have hlit := World.ownsRow_lit (base := w.heap.size) (e := 90) (size := 14) w #[] 0 (Nat.le_refl _) (Nat.zero_le _) rfl
  have hcln : Cln w (w.alloc (.cells #[] 90)) := (Below.refl _ _).alloc (Nat.le_refl _) _
  have hsrc2 : Hid (∀ ad' : Addr, some ad = some ad' → ∀ j u, (aqVals q)[j]? = some u → (w.alloc (.cells #[] 90)).cell? (ad'.add j) = some u) := fun ad' e j u hu => (Kept.of_below (S := fun _ => False) hcln).cell (hsrc ad' e j u hu) id
  have hnone2 : Hid (some ad = none → n = 0) := fun e => by cases e
  clear hq hit hsrc hnone hlen
  go_enter Tryz.func92, Tryz.ntmps92
  go_wp2_with (first | simp only [heq] | (
   at_builtin
   refine wpList_cat rfl _ _ 46 rfl w.heap.size 90 i0 (.agg #[.int .i64 0, .string ⟨#[]⟩, .int .i64 0, .float .f64 0, .string ⟨#[]⟩, .int .i64 0, .int .i64 0, .int .i64 0, .int .i64 0, .float .f64 0, .int .i64 0, .string ⟨#[]⟩, .slice none 0 0, .bool false]) 14 152 Tryz.underlying46 hi hz0 hz1 hz2 rfl (by decide) (by decide) (.slice (some ⟨w.heap.size, 0, none⟩) 0 0) 0 [] (some ad) n c (aqVals q) hlen'.out (aq_one_cell q) hsrc2.out hnone2.out rfl rfl hlit (by omega) (by simp) ?_
   intro v' w1 hown1 hg1
   rw [Nat.zero_add, List.nil_append] at hown1
   obtain ⟨A', c', rfl, hA', _⟩ := own_form hown1
   have hkeep := Lib.hid (And.intro hown1 (hcln.grown hg1 (by simp) (fun k hk => by simp [Value.ownBlock] at hk; omega)))
   clear hown1 hg1 hA'))
  go_ret
  first | exact ⟨A', c', q, rfl, hq'.out, hkeep.out.1, hit'.out, hkeep.out.2⟩ | exact ⟨A', c', rfl, q, hq'.out, hkeep.out.1, hit'.out, hkeep.out.2⟩
theorem set_same {α : Type} {l : List α} {i : Nat} {u : α} (h : l[i]? = some u) : l.set i u = l := by
 apply List.ext_getElem?
 intro j
 rw [List.getElem?_set]
 split
 ·rename_i e; subst e
  have hl := (List.getElem?_eq_some_iff.1 h).1
  rw [if_pos hl, h]
 ·rfl
theorem aq_set : ∀ (Q : List AQ) (i : Nat), i < Q.length → ∀ (A : Option Addr) (n c : Nat), (aqVals Q).set (i * 14 + 12) (.slice A n c) = aqVals (Q.set i ⟨(aqAt Q i).a, A, n, c⟩)
 | [], i, h, _, _, _ => by simp at h
 | x :: Q, 0, _, A, n, c => by
  show ([_, _, _, _, _, _, _, _, _, _, _, _, _, _] ++ aqVals Q).set 12 _ = _
  simp [aqVals, AQ.vals, aqAt]
 | x :: Q, i + 1, h, A, n, c => by
  have ih := aq_set Q i (by simpa using h) A n c
  have e : aqVals (x :: Q) = x.vals ++ aqVals Q := rfl
  have hx : x.vals.length = 14 := rfl
  rw [e, show (i + 1) * 14 + 12 = x.vals.length + (i * 14 + 12) from by omega, List.set_append_right _ _ (by omega), Nat.add_sub_cancel_left, ih]
  rfl
theorem aqVals_at (Q : List AQ) (i j : Nat) (hi : i < Q.length) (hj : j < 14) : (aqVals Q)[i * 14 + j]? = (aqAt Q i).vals[j]? := aqVals_get Q i j hi hj
set_option maxHeartbeats 4000000 in
theorem dclone_any (l : List MAct) (A : Option Addr) (n c : Nat) (w : World) (hr : RdActs w A n l) (hn : n ≤ 1048576) (hsz : ∀ a ∈ l, a.make.list.length ≤ 1048576) :
  Calls Tryz.prog 51 #[.agg #[.slice A n c]] w fun e w' => ∃ (A' : Option Addr) (c' : Nat), e = .returned (.agg #[.slice A' n c']) ∧ OnlyBy (fun k => w.heap.size ≤ k ∧ k < w'.heap.size) w' (fun W => RdActs W A' n l) ∧ Cln w w' := by
 have hlen := hr.len
 have hb0 := (Blk.new w 48 #[.slice A n c]).alloc (.cells #[.slice none 0 0] 48)
 have hb1 := Blk.new (w.alloc (.cells #[.slice A n c] 48)) 48 #[.slice none 0 0]
 have hcl0 : Cln w ((w.alloc (.cells #[.slice A n c] 48)).alloc (.cells #[.slice none 0 0] 48)) := by (repeat with_reducible first | exact cR _ | assumption | refine cA ?_ _ | refine cD ?_ | refine cN ?_ _ | refine cS ?_ (by first | omega | (simp <;> omega)) _)
 simp only [World.size_alloc] at hb1
 go_enter Tryz.func51, Tryz.ntmps51
 go_wp2_with fail
 refine (scloneA_any l A n c w _ hcl0 hr hn).mono ?_
 rintro e w1 ⟨A', c', q, rfl, hq, hown, hit, hcl1⟩
 replace hb0 := hb0.cln hcl1
 replace hb1 := hb1.cln hcl1
 simp only [World.size_alloc] at hown
 have hC1 := cln_trans hcl0 hcl1
 have c0 := hb0.cell; have f0 := hb0.frozen; have l0 := hb0.lt
 have hsz1 : w.heap.size + 1 + 1 ≤ w1.heap.size := by have := hcl1.size; simpa using this
 have hb0' := Lib.hid (hb0.set_ 0 (.slice A' n c'))
 have hb1' := Lib.hid (hb1.far (p := ⟨w.heap.size, 0, none⟩) (by simp) (.slice A' n c'))
 have hown' := Lib.hid (ownsRow_setCell_below hown (a := ⟨w.heap.size, 0, none⟩) (show w.heap.size < w.heap.size + 1 + 1 by omega) (.slice A' n c'))
 have hC1' := Lib.hid (((Kept.of_below (S := fun i => w.heap.size ≤ i) hC1).setCell (p := ⟨w.heap.size, 0, none⟩) (fun _ => Nat.le_refl _) (.slice A' n c')).toBelow (Nat.le_refl _) (fun i hi h => by omega))
 have hk0 := Lib.hid ((Kept.refl (fun i => i = w.heap.size) w1).setCell (p := ⟨w.heap.size, 0, none⟩) (fun _ => rfl) (.slice A' n c'))
 have hs1' := Lib.hid hsz1
 have hit0 := Lib.hid hit
 have hqH := Lib.hid hq
 have hql : q.length = n := by rw [← hlen, ← hq, List.length_map]
 clear hb0 hb1 hown hC1 hcl1 hcl0 hit hq
 go_wp2_with fail
 clear c0 f0 l0
 go_loopw [11] (fun v wr => ∃ (i : Nat) (Q : List AQ), i ≤ n ∧ v = .int .i64 (i : Nat) ∧ Hid (Q.map (·.a) = l) ∧ Hid (wr.ownsRow (w.heap.size + 1 + 1) 90 14 (.slice A' n c') n (aqVals Q)) ∧ Hid (Blk wr w.heap.size 48 #[.slice A' n c']) ∧ Hid (Blk wr (w.heap.size + 1) 48 #[.slice none 0 0]) ∧ Hid (Cln w wr) ∧ Hid (∀ x ∈ Q, x.a.WF) ∧
  Hid (∀ j, j < i → OnlyBy (fun k => w.heap.size + 1 + 1 ≤ k ∧ k < wr.heap.size ∧ (Value.slice A' n c').ownBlock ≠ some k) wr fun W => RdItems W (aqAt Q j).A (aqAt Q j).n (aqAt Q j).a.make.list) ∧ Hid (∀ j, i ≤ j → j < n → RdItems w (aqAt Q j).A (aqAt Q j).n (aqAt Q j).a.make.list)) (fun v _ => (n - intOf v).toNat)
 case atStart =>
  refine ⟨0, q, Nat.zero_le _, rfl, hqH, hown', hb0', hb1', hC1', fun x hx => (hit0.out x hx).1, fun j hj => by omega, fun j _ hj => ?_⟩
  have hm : aqAt q j ∈ q := by simp [aqAt, List.getD, show j < q.length by omega]
  exact (hit0.out _ hm).2
 case round =>
  clear hqH hown' hb0' hb1' hC1' hk0 hs1' hit0 hql
  obtain ⟨i, Q, hi, rfl, hQ, hO, hb0, hb1, hcl, hwf, hnew, hold⟩ := hrel
  have hql : Q.length = n := by rw [← hlen, ← hQ.out, List.length_map]
  have c0 := hb0.out.cell; have l0 := hb0.out.lt
  by_cases hlt : i < n
  ·have t3 : decide ((i : Int) < (n : Int)) = true := decide_eq_true (by omega)
   have hcs := hO.out.2
   obtain ⟨g, cap, cur, hv, hgb, hgg, hncap, hcm, hcsz, htake⟩ : ∃ g cap cur, Value.slice A' n c' = .slice (some ⟨g, 0, none⟩) n cap ∧ w.heap.size + 1 + 1 ≤ g ∧ wr.heap[g]? = some (.cells cur 90 (0, 0)) ∧ n ≤ cap ∧ cap ≤ maxLen ∧ cur.size = cap * 14 ∧ cur.toList.take (n * 14) = aqVals Q := by
    rcases hcs with ⟨_, h0⟩ | h
    ·omega
    ·exact h
   injection hv with hv1 hv2 hv3
   subst hv1; subst hv3
   have hgB : Blk wr g 90 cur := hgg
   have hgl := hgB.lt
   have hgf := hgB.frozen
   have hat : ∀ k u, k < 14 → (aqAt Q i).vals[k]? = some u → wr.cell? ⟨g, i * 14 + k, none⟩ = some u := fun k u hk hu => by
    have h1 := aqVals_at Q i k (by omega) hk
    have h2 := hO.out.cells (g := g) rfl (i * 14 + k) u (h1.trans hu)
    have e : (⟨g, 0, none⟩ : Addr).add (i * 14 + k) = ⟨g, i * 14 + k, none⟩ := by unfold Addr.add; split <;> simp_all
    rwa [e] at h2
   have hgx := hold.out i (Nat.le_refl _) hlt
   have hmx : (aqAt Q i).a.make.list.length ≤ 1048576 := by
    have h1 : (aqAt Q i).a ∈ l := by rw [← hQ.out]; exact List.mem_map.2 ⟨_, by simp [aqAt, List.getD, hql, hlt], rfl⟩
    exact hsz _ h1
   have hxn : (aqAt Q i).n ≤ 1048576 := by rw [← hgx.len]; exact hmx
   have hsetH : Hid (∀ (A2 : Option Addr) (c2 : Nat), (aqVals Q).set (i * 14 + 12) (.slice A2 (aqAt Q i).n c2) = aqVals (Q.set i ⟨(aqAt Q i).a, A2, (aqAt Q i).n, c2⟩)) := fun A2 c2 => aq_set Q i (by omega) A2 _ c2
   have hvalH : Hid (∀ k, k < 14 → (aqVals Q)[i * 14 + k]? = (aqAt Q i).vals[k]?) := fun k hk => aqVals_at Q i k (by omega) hk
   have hgx' := Lib.hid hgx
   have hxe : Hid (∃ x, x = aqAt Q i) := ⟨_, rfl⟩
   obtain ⟨x, hxe⟩ := hxe.out
   rw [← hxe] at hat hgx' hxn hsetH hvalH
   have hxe' := Lib.hid hxe
   have cC : Calls Tryz.prog 91 #[.agg #[.int .i64 x.a.make.kind, .int .i64 x.a.make.num, .int .i64 x.a.make.low, .int .i64 x.a.make.high, .float .f64 x.a.make.real, .int .i64 x.a.make.cap, .string (str x.a.make.text), .slice x.A x.n x.c]] wr.drew fun e w5 => ∃ (A2 : Option Addr) (c2 : Nat), e = .returned (.agg #[.int .i64 x.a.make.kind, .int .i64 x.a.make.num, .int .i64 x.a.make.low, .int .i64 x.a.make.high, .float .f64 x.a.make.real, .int .i64 x.a.make.cap, .string (str x.a.make.text), .slice A2 x.n c2]) ∧ Hid (OnlyBy (fun k => wr.heap.size ≤ k ∧ k < w5.heap.size) w5 fun W => RdItems W A2 x.n x.a.make.list) ∧ Blk w5 w.heap.size 48 #[.slice (some ⟨g, 0, none⟩) n c'] ∧ Blk w5 g 90 cur ∧ Hid (Cln wr w5) := by
    refine (clone_any x.a.make x.A x.n x.c wr.drew ((hgx'.out.cln hcl.out).cln (Below.drew (Below.refl _ _))) hxn).mono ?_
    rintro e w5 ⟨A2, c2, rfl, hown2, hq2⟩
    have hq3 : Cln wr w5 := cln_trans (Below.drew (Below.refl _ _)) hq2
    have hr2 := own_items hown2 (fun j => hgx'.out.wf j)
    exact ⟨A2, c2, rfl, hr2.only (fun ad e => by
     obtain ⟨A3, c3, hv, hA3, _⟩ := own_form hown2
     injection hv with h1 h2 h3
     have h5 := (hA3 ad (h1 ▸ e)).2.2.1
     have h6 : wr.drew.heap.size = wr.heap.size := rfl
     omega), hb0.out.cln hq3, hgB.cln hq3, hq3⟩
   have ig1 : (0 : Int) ≤ (i : Int) := by omega
   have ig2 : (i : Int) < (n : Int) := by omega
   have r5 : wr.cell? ⟨g, i * 14 + 5, none⟩ = some (.int .i64 x.a.make.kind) := hat 5 _ (by decide) rfl
   have r6 : wr.cell? ⟨g, i * 14 + 6, none⟩ = some (.int .i64 x.a.make.num) := hat 6 _ (by decide) rfl
   have r7 : wr.cell? ⟨g, i * 14 + 7, none⟩ = some (.int .i64 x.a.make.low) := hat 7 _ (by decide) rfl
   have r8 : wr.cell? ⟨g, i * 14 + 8, none⟩ = some (.int .i64 x.a.make.high) := hat 8 _ (by decide) rfl
   have r9 : wr.cell? ⟨g, i * 14 + 9, none⟩ = some (.float .f64 x.a.make.real) := hat 9 _ (by decide) rfl
   have r10 : wr.cell? ⟨g, i * 14 + 10, none⟩ = some (.int .i64 x.a.make.cap) := hat 10 _ (by decide) rfl
   have r11 : wr.cell? ⟨g, i * 14 + 11, none⟩ = some (.string (str x.a.make.text)) := hat 11 _ (by decide) rfl
   have r12 : wr.cell? ⟨g, i * 14 + 12, none⟩ = some (.slice x.A x.n x.c) := hat 12 _ (by decide) rfl
   clear hgx hmx hxe hcs hat hgx'
   go_wp2_with fail
   go_region_law (go_simp; go_at_call 91; with_reducible refine cC.mono ?_; rintro e w5 ⟨A2, c2, rfl, hfr, hb5, hg5, hq5⟩; have c5 := hb5.cell; have l5 := hb5.lt; have gl5 := hg5.lt; have gf5 := hg5.frozen; have s5 : w5.cell? ⟨g, i * 14 + 5, none⟩ = some (.int .i64 x.a.make.kind) := (Kept.of_below (S := fun _ => False) hq5.out).cell r5 id; have s6 : w5.cell? ⟨g, i * 14 + 5 + 1, none⟩ = some (.int .i64 x.a.make.num) := (Kept.of_below (S := fun _ => False) hq5.out).cell r6 id; have s7 : w5.cell? ⟨g, i * 14 + 5 + 2, none⟩ = some (.int .i64 x.a.make.low) := (Kept.of_below (S := fun _ => False) hq5.out).cell r7 id; have s8 : w5.cell? ⟨g, i * 14 + 5 + 3, none⟩ = some (.int .i64 x.a.make.high) := (Kept.of_below (S := fun _ => False) hq5.out).cell r8 id; have s9 : w5.cell? ⟨g, i * 14 + 5 + 4, none⟩ = some (.float .f64 x.a.make.real) := (Kept.of_below (S := fun _ => False) hq5.out).cell r9 id; have s10 : w5.cell? ⟨g, i * 14 + 5 + 5, none⟩ = some (.int .i64 x.a.make.cap) := (Kept.of_below (S := fun _ => False) hq5.out).cell r10 id; have s11 : w5.cell? ⟨g, i * 14 + 5 + 6, none⟩ = some (.string (str x.a.make.text)) := (Kept.of_below (S := fun _ => False) hq5.out).cell r11 id; have s12 : w5.cell? ⟨g, i * 14 + 5 + 7, none⟩ = some (.slice x.A x.n x.c) := (Kept.of_below (S := fun _ => False) hq5.out).cell r12 id)
   all_goals
    have hO5 := own_same hO.out (fun k hk => hq5.out.block k (own_ge hO.out k hk).2)
    have hvv : ∀ k, k < 14 → (aqVals Q)[i * 14 + k]? = x.vals[k]? := hvalH.out
    have hO9 : Hid (((((((((w5.setCell ⟨g, i * 14 + 5, none⟩ (.int .i64 x.a.make.kind)).setCell ⟨g, i * 14 + 5 + 1, none⟩ (.int .i64 x.a.make.num)).setCell ⟨g, i * 14 + 5 + 2, none⟩ (.int .i64 x.a.make.low)).setCell ⟨g, i * 14 + 5 + 3, none⟩ (.int .i64 x.a.make.high)).setCell ⟨g, i * 14 + 5 + 4, none⟩ (.float .f64 x.a.make.real)).setCell ⟨g, i * 14 + 5 + 5, none⟩ (.int .i64 x.a.make.cap)).setCell ⟨g, i * 14 + 5 + 6, none⟩ (.string (str x.a.make.text))).setCell ⟨g, i * 14 + 5 + 7, none⟩ (.slice A2 x.n c2)).ownsRow (w.heap.size + 1 + 1) 90 14 (.slice (some ⟨g, 0, none⟩) n c') n (aqVals (Q.set i ⟨x.a, A2, x.n, c2⟩))) := by
     have e5 := own_set hO5 (j := i * 14 + 5) (by omega) (.int .i64 x.a.make.kind)
     rw [set_same (show (aqVals Q)[i * 14 + 5]? = _ from hvv 5 (by decide))] at e5
     have e6 := own_set e5 (j := i * 14 + 5 + 1) (by omega) (.int .i64 x.a.make.num)
     rw [set_same (show (aqVals Q)[i * 14 + 5 + 1]? = _ from hvv 6 (by decide))] at e6
     have e7 := own_set e6 (j := i * 14 + 5 + 2) (by omega) (.int .i64 x.a.make.low)
     rw [set_same (show (aqVals Q)[i * 14 + 5 + 2]? = _ from hvv 7 (by decide))] at e7
     have e8 := own_set e7 (j := i * 14 + 5 + 3) (by omega) (.int .i64 x.a.make.high)
     rw [set_same (show (aqVals Q)[i * 14 + 5 + 3]? = _ from hvv 8 (by decide))] at e8
     have e9 := own_set e8 (j := i * 14 + 5 + 4) (by omega) (.float .f64 x.a.make.real)
     rw [set_same (show (aqVals Q)[i * 14 + 5 + 4]? = _ from hvv 9 (by decide))] at e9
     have e10 := own_set e9 (j := i * 14 + 5 + 5) (by omega) (.int .i64 x.a.make.cap)
     rw [set_same (show (aqVals Q)[i * 14 + 5 + 5]? = _ from hvv 10 (by decide))] at e10
     have e11 := own_set e10 (j := i * 14 + 5 + 6) (by omega) (.string (str x.a.make.text))
     rw [set_same (show (aqVals Q)[i * 14 + 5 + 6]? = _ from hvv 11 (by decide))] at e11
     have e12 := own_set e11 (j := i * 14 + 5 + 7) (by omega) (.slice A2 x.n c2)
     have e13 := hsetH.out A2 c2
     rw [show i * 14 + 12 = i * 14 + 5 + 7 from rfl] at e13
     rw [e13] at e12
     exact e12
    have hKg : Hid (Kept (fun k => k = g) w5 ((((((((w5.setCell ⟨g, i * 14 + 5, none⟩ (.int .i64 x.a.make.kind)).setCell ⟨g, i * 14 + 5 + 1, none⟩ (.int .i64 x.a.make.num)).setCell ⟨g, i * 14 + 5 + 2, none⟩ (.int .i64 x.a.make.low)).setCell ⟨g, i * 14 + 5 + 3, none⟩ (.int .i64 x.a.make.high)).setCell ⟨g, i * 14 + 5 + 4, none⟩ (.float .f64 x.a.make.real)).setCell ⟨g, i * 14 + 5 + 5, none⟩ (.int .i64 x.a.make.cap)).setCell ⟨g, i * 14 + 5 + 6, none⟩ (.string (str x.a.make.text))).setCell ⟨g, i * 14 + 5 + 7, none⟩ (.slice A2 x.n c2))) := by
     unfold Hid
     iterate 8 refine Kept.setCell (S := fun k => k = g) ?_ (fun _ => rfl) _
     exact Kept.refl _ _
    have hb9 := Lib.hid (hb5.kept hKg.out (show ¬ w.heap.size = g by omega))
    have hb19 := Lib.hid ((hb1.out.cln hq5.out).kept hKg.out (show ¬ w.heap.size + 1 = g by omega))
    have hcl9 : Hid (Cln w ((((((((w5.setCell ⟨g, i * 14 + 5, none⟩ (.int .i64 x.a.make.kind)).setCell ⟨g, i * 14 + 5 + 1, none⟩ (.int .i64 x.a.make.num)).setCell ⟨g, i * 14 + 5 + 2, none⟩ (.int .i64 x.a.make.low)).setCell ⟨g, i * 14 + 5 + 3, none⟩ (.int .i64 x.a.make.high)).setCell ⟨g, i * 14 + 5 + 4, none⟩ (.float .f64 x.a.make.real)).setCell ⟨g, i * 14 + 5 + 5, none⟩ (.int .i64 x.a.make.cap)).setCell ⟨g, i * 14 + 5 + 6, none⟩ (.string (str x.a.make.text))).setCell ⟨g, i * 14 + 5 + 7, none⟩ (.slice A2 x.n c2))) := ((Kept.of_below (S := fun k => k = g) (cln_trans hcl.out hq5.out)).trans hKg.out).toBelow (Nat.le_refl _) (fun k hk e => by have e : k = g := e; omega)
    have hsz9 : wr.heap.size ≤ ((((((((w5.setCell ⟨g, i * 14 + 5, none⟩ (.int .i64 x.a.make.kind)).setCell ⟨g, i * 14 + 5 + 1, none⟩ (.int .i64 x.a.make.num)).setCell ⟨g, i * 14 + 5 + 2, none⟩ (.int .i64 x.a.make.low)).setCell ⟨g, i * 14 + 5 + 3, none⟩ (.int .i64 x.a.make.high)).setCell ⟨g, i * 14 + 5 + 4, none⟩ (.float .f64 x.a.make.real)).setCell ⟨g, i * 14 + 5 + 5, none⟩ (.int .i64 x.a.make.cap)).setCell ⟨g, i * 14 + 5 + 6, none⟩ (.string (str x.a.make.text))).setCell ⟨g, i * 14 + 5 + 7, none⟩ (.slice A2 x.n c2)).heap.size := Nat.le_trans hq5.out.size hKg.out.size
    have hset : ∀ j, aqAt (Q.set i ⟨x.a, A2, x.n, c2⟩) j = if j = i then ⟨x.a, A2, x.n, c2⟩ else aqAt Q j := fun j => by
     simp only [aqAt, List.getD_eq_getElem?_getD, List.getElem?_set]
     by_cases hji : j = i
     ·subst hji; simp [show j < Q.length by omega]
     ·rw [if_neg (fun e => hji e.symm), if_neg hji]
    have hx0 : aqAt Q i = x := hxe'.out.symm
    have hQ9 : Hid ((Q.set i ⟨x.a, A2, x.n, c2⟩).map (·.a) = l) := by
     unfold Hid
     rw [List.map_set, ← hQ.out]
     refine set_same ?_
     rw [List.getElem?_map]
     have : Q[i]? = some x := by rw [← hx0]; simp [aqAt, List.getD, show i < Q.length by omega]
     rw [this]; rfl
    have hwf9 : Hid (∀ y ∈ Q.set i ⟨x.a, A2, x.n, c2⟩, y.a.WF) := fun y hy => by
     rcases List.mem_or_eq_of_mem_set hy with h | h
     ·exact hwf.out y h
     ·subst h
      exact hwf.out x (by rw [← hx0]; simp [aqAt, List.getD, show i < Q.length by omega])
    have hnew9 : Hid (∀ j, j < i + 1 → OnlyBy (fun k => w.heap.size + 1 + 1 ≤ k ∧ k < ((((((((w5.setCell ⟨g, i * 14 + 5, none⟩ (.int .i64 x.a.make.kind)).setCell ⟨g, i * 14 + 5 + 1, none⟩ (.int .i64 x.a.make.num)).setCell ⟨g, i * 14 + 5 + 2, none⟩ (.int .i64 x.a.make.low)).setCell ⟨g, i * 14 + 5 + 3, none⟩ (.int .i64 x.a.make.high)).setCell ⟨g, i * 14 + 5 + 4, none⟩ (.float .f64 x.a.make.real)).setCell ⟨g, i * 14 + 5 + 5, none⟩ (.int .i64 x.a.make.cap)).setCell ⟨g, i * 14 + 5 + 6, none⟩ (.string (str x.a.make.text))).setCell ⟨g, i * 14 + 5 + 7, none⟩ (.slice A2 x.n c2)).heap.size ∧ (Value.slice (some ⟨g, 0, none⟩) n c').ownBlock ≠ some k) ((((((((w5.setCell ⟨g, i * 14 + 5, none⟩ (.int .i64 x.a.make.kind)).setCell ⟨g, i * 14 + 5 + 1, none⟩ (.int .i64 x.a.make.num)).setCell ⟨g, i * 14 + 5 + 2, none⟩ (.int .i64 x.a.make.low)).setCell ⟨g, i * 14 + 5 + 3, none⟩ (.int .i64 x.a.make.high)).setCell ⟨g, i * 14 + 5 + 4, none⟩ (.float .f64 x.a.make.real)).setCell ⟨g, i * 14 + 5 + 5, none⟩ (.int .i64 x.a.make.cap)).setCell ⟨g, i * 14 + 5 + 6, none⟩ (.string (str x.a.make.text))).setCell ⟨g, i * 14 + 5 + 7, none⟩ (.slice A2 x.n c2)) fun W => RdItems W (aqAt (Q.set i ⟨x.a, A2, x.n, c2⟩) j).A (aqAt (Q.set i ⟨x.a, A2, x.n, c2⟩) j).n (aqAt (Q.set i ⟨x.a, A2, x.n, c2⟩) j).a.make.list) := fun j hj => by
     rw [hset j]
     by_cases hji : j = i
     ·rw [if_pos hji]
      refine hfr.out.to (fun k hk => hKg.out.block k hk.2 (fun e => by have e : k = g := e; have := hk.1; omega)) (fun k hk => ⟨?_, Nat.lt_of_lt_of_le hk.2 hKg.out.size, ?_⟩)
      ·have := hb1.out.lt; have := hk.1; omega
      ·intro e; have e : g = k := by injection e
       have := hk.1; omega
     ·rw [if_neg hji]
      have h1 := hnew.out j (by omega)
      refine h1.to (fun k hk => (hKg.out.block k (Nat.lt_of_lt_of_le hk.2.1 hq5.out.size) (fun e => hk.2.2 (by have e : k = g := e; rw [e]; rfl))).trans (hq5.out.block k hk.2.1)) (fun k hk => ⟨hk.1, Nat.lt_of_lt_of_le hk.2.1 hsz9, hk.2.2⟩)
    have hold9 : Hid (∀ j, i + 1 ≤ j → j < n → RdItems w (aqAt (Q.set i ⟨x.a, A2, x.n, c2⟩) j).A (aqAt (Q.set i ⟨x.a, A2, x.n, c2⟩) j).n (aqAt (Q.set i ⟨x.a, A2, x.n, c2⟩) j).a.make.list) := fun j h1 h2 => by
     rw [hset j, if_neg (by omega)]
     exact hold.out j (by omega) h2
    clear hO5 hvv hset hx0 hO hb0 hb1 hcl hQ hwf hnew hold hxe' hsetH hvalH hfr hb5 hg5 hq5 hsz9 r5 r6 r7 r8 r9 r10 r11 r12 s5 s6 s7 s8 s9 s10 s11 s12 c5 l5 gl5 gf5
    go_wp2_with fail
    go_roundw
    case rel => exact ⟨i + 1, _, hlt, by go_num, hQ9, hO9, hb9, hb19, hcl9, hwf9, hnew9, hold9⟩
    case measure => simp [intOf]; omega
  ·obtain rfl : i = n := by omega
   have t3 : decide ((i : Int) < (i : Int)) = false := decide_eq_false (by omega)
   have c1 := hb1.out.cell; have l1 := hb1.out.lt; have f1 := hb1.out.frozen
   have s1 : (Tryz.prog.info? 48).map (·.size) = some 1 := by kernel_rfl
   go_wp2_with fail
   have hset := keptSet wr (w.heap.size + 1) 0 (.slice A' i c')
   refine bodyPost_ret (v := .agg #[.slice A' i c']) ?_ rfl ⟨A', c', rfl, ?_, ?_⟩
   ·refine results_cell_row Tryz.results51 _ _ (w.heap.size + 1) 48 #[.slice A' i c'] (0, 0) _ ?_ ?_ Tryz.underlying48 ?_ ?_
    ·rfl
    ·exact hb1.out.set_ 0 (.slice A' i c')
    ·rfl
    ·exact s1
   ·intro W hW
    have hown9 := own_same hO.out (w' := W) (fun k hk => by
     have h2 := own_ge hO.out k hk
     rw [hW k ⟨by omega, Nat.lt_of_lt_of_le h2.2 hset.size⟩]
     exact hset.block k h2.2 (fun e => by have e : k = w.heap.size + 1 := e; omega))
    have hr9 := own_acts hown9 (fun x hx => ⟨hwf.out x hx, by
     obtain ⟨j, hj, rfl⟩ := List.getElem_of_mem hx
     have h3 := hnew.out j (by omega)
     have e : aqAt Q j = Q[j] := by simp [aqAt, List.getD, hj]
     rw [e] at h3
     exact h3 W fun k hk => by
      rw [hW k ⟨by omega, Nat.lt_of_lt_of_le hk.2.1 hset.size⟩]
      exact hset.block k hk.2.1 (fun e => by have e : k = w.heap.size + 1 := e; omega)⟩)
    rw [hQ.out] at hr9
    exact hr9
   ·exact ((Kept.of_below (S := fun k => k = w.heap.size + 1) hcl.out).trans hset).toBelow (Nat.le_refl _) (fun k hk e => by have e : k = w.heap.size + 1 := e; omega)
theorem size_drew_ (W : World) : W.drew.heap.size = W.heap.size := rfl
theorem clip_any (A : Option Addr) (n c : Nat) (hnc : n ≤ c) (hA : A = none → n = 0 ∧ c = 0) (w : World) :
  Calls Tryz.prog 65 #[.slice A n c] w fun e w' => e = .returned (.slice A n n) ∧ Cln w w' := by
 rcases A with _ | ad
 ·obtain ⟨rfl, rfl⟩ := hA rfl
  go_enter Tryz.func65, Tryz.ntmps65
  go_wp2_with fail
  go_ret
  exact ⟨rfl, Below.refl _ _⟩
 ·have t1 : (n : Int) ≤ (c : Int) := by omega
  go_enter Tryz.func65, Tryz.ntmps65
  go_wp2_with fail
  go_ret
  exact ⟨rfl, Below.refl _ _⟩
theorem results_ct {P : Program} {fn : Func} {p p' : Tmp} {ty : TypeId} (h : fn.results = #[.cell p ty, .tmp p']) (tmps : Array Value) (w : World) (g : Nat) (t : TypeId) (cs : Array Value) (fr : Nat × Nat) (d : TypeDesc)
  (hp : tmps.getD p undef = .pointer (some ⟨g, 0, none⟩)) (hg : w.heap[g]? = some (.cells cs t fr))
  (hu : P.underlying ty = some d) (hd : (match d with | .struct _ | .array _ _ => true | _ => false) = true) (hi : (P.info? ty).map (·.size) = some cs.size) :
  (results fn tmps).run P w = .ok (.tuple #[.agg cs, tmps.getD p' undef]) w := by
 have h1 : tmps[p]?.getD undef = .pointer (some ⟨g, 0, none⟩) := by simpa using hp
 simp [results, h, h1, asAddr, run_loadVar_row w g t ty cs fr d hg hu hd hi]
set_option maxHeartbeats 8000000 in
theorem cut_any (num : Int) (l : List (List MAct)) (A : Option Addr) (n c : Nat) (hnc : n ≤ c) (hAc : A = none → c = 0) (hn : n ≤ 1048576) (hmod : Mod l) (hacts : ∀ d ∈ l, d.length ≤ 1048576 ∧ ∀ a ∈ d, a.make.list.length ≤ 1048576) (w : World) (hK : KindsAt w) (hr : RdDeals w A n l) :
  Calls Tryz.prog 23 #[.int .i64 num, .slice A n c] w fun e w' => ∃ (A1 A2 : Option Addr) (n1 c1 n2 c2 : Nat), e = .returned (.tuple #[.agg #[.int .i64 num, .slice A1 n1 c1], .slice A2 n2 c2]) ∧ n1 = many num l ∧ n2 = n - many num l ∧ n1 ≤ c1 ∧ n2 ≤ c2 ∧ RdDeals w' A1 n1 (l.take n1) ∧ RdDeals w' A2 n2 (l.drop n1) ∧ Cln w w' := by
 have hlen := hr.len
 have hS0 : Hid (many num l = manyGo num l (n - 0) 0) := by unfold Hid many; rw [hlen]; rfl
 have hb0 := (Blk.new w 24 #[.int .i64 0, .slice none 0 0]).alloc (.cells #[.int .i64 num, .slice none 0 0] 24)
 have hb1 := Blk.new (w.alloc (.cells #[.int .i64 0, .slice none 0 0] 24)) 24 #[.int .i64 num, .slice none 0 0]
 have hcl0 : Hid (Cln w ((w.alloc (.cells #[.int .i64 0, .slice none 0 0] 24)).alloc (.cells #[.int .i64 num, .slice none 0 0] 24))) := by unfold Hid; (repeat with_reducible first | exact cR _ | assumption | refine cA ?_ _ | refine cD ?_ | refine cN ?_ _ | refine cS ?_ (by first | omega | (simp <;> omega)) _)
 simp only [World.size_alloc] at hb1
 replace hb0 := Lib.hid hb0; replace hb1 := Lib.hid hb1
 go_enter Tryz.func23, Tryz.ntmps23
 go_wp2_with fail
 rename_i KA hKA
 have hJ : ∀ (s2 s3 s7 s8 s9 s10 s11 s12 s13 s14 s15 s16 s17 s18 s19 s20 s21 s22 s23 s24 s25 s26 s27 s28 s29 s30 s31 s32 s33 s34 s35 s36 s37 s38 s39 s40 s41 s42 s43 s44 s45 s46 s47 s48 s49 s50 s51 s52 s53 s54 s55 s56 s57 s58 : Value) (m : Nat) (acc : List DQ) (A' : Option Addr) (c' : Nat) (W : World), Hid (m = many num l) → Hid (OwnDeals W (w.heap.size + 1 + 1) (.slice A' m c') m acc) → Hid (acc.map (·.d) = l.take m) → Hid (Blk W w.heap.size 24 #[.int .i64 0, .slice none 0 0]) → Hid (Blk W (w.heap.size + 1) 24 #[.int .i64 num, .slice A' m c']) → Hid (Cln w W) →
   KA { tmps := #[.int .i64 num, .slice A n c, s2, s3, .pointer (some ⟨w.heap.size, 0, none⟩), .slice none 0 0, .pointer (some ⟨w.heap.size + 1, 0, none⟩), s7, s8, s9, s10, s11, s12, s13, s14, s15, s16, s17, s18, s19, s20, s21, s22, s23, s24, s25, s26, s27, s28, s29, s30, s31, s32, s33, s34, s35, s36, s37, s38, s39, s40, s41, s42, s43, s44, s45, s46, s47, s48, s49, s50, s51, s52, s53, s54, s55, s56, s57, s58], defers := [] } W := by
  intro s2 s3 s7 s8 s9 s10 s11 s12 s13 s14 s15 s16 s17 s18 s19 s20 s21 s22 s23 s24 s25 s26 s27 s28 s29 s30 s31 s32 s33 s34 s35 s36 s37 s38 s39 s40 s41 s42 s43 s44 s45 s46 s47 s48 s49 s50 s51 s52 s53 s54 s55 s56 s57 s58 m acc A' c' W hm hO hacc hb0 hb1 hcl
  refine hKA _ _ ?_
  clear hKA hS0 hcl0
  have c1 := hb1.out.cell; have l1 := hb1.out.lt
  have hml : m ≤ n := by rw [hm.out, ← hlen]; exact many_le _ _
  have i1 : (0 : Int) ≤ (m : Int) := by omega
  have i2 : (m : Int) ≤ (n : Int) := by omega
  have i3 : (m : Int) ≤ (c : Int) := by omega
  have hsW : w.heap.size + 1 < W.heap.size := hb1.out.lt
  have i4 : ((n : Int) - (m : Int)) = ((n - m : Nat) : Int) := by omega
  have hEnd : ∀ (A2 : Option Addr) (c2 : Nat) (acc2 : List DQ) (W2 : World) (tm : Array Value), OwnDeals W2 W.heap.size (.slice A2 (n - m) c2) (n - m) acc2 → acc2.map (·.d) = l.drop m → Cln W W2 → tm.getD 4 undef = .pointer (some ⟨w.heap.size, 0, none⟩) → tm.getD 5 undef = .slice A2 (n - m) c2 →
    bodyPost Tryz.prog Tryz.f23 (fun e w' => ∃ (A1 A2 : Option Addr) (n1 c1 n2 c2 : Nat), e = .returned (.tuple #[.agg #[.int .i64 num, .slice A1 n1 c1], .slice A2 n2 c2]) ∧ n1 = many num l ∧ n2 = n - many num l ∧ n1 ≤ c1 ∧ n2 ≤ c2 ∧ RdDeals w' A1 n1 (l.take n1) ∧ RdDeals w' A2 n2 (l.drop n1) ∧ Cln w w') .ret { tmps := tm, defers := [] } ((W2.setCell ⟨w.heap.size, 0, none⟩ (.int .i64 num)).setCell ⟨w.heap.size, 1, none⟩ (.slice A' m c')) := by
   intro A2 c2 acc2 W2 tm hO2 hacc2 hcl2 ht4 ht5
   have s1 : (Tryz.prog.info? 24).map (·.size) = some 2 := by kernel_rfl
   have hk2 : Kept (fun k => k = w.heap.size) W2 ((W2.setCell ⟨w.heap.size, 0, none⟩ (.int .i64 num)).setCell ⟨w.heap.size, 1, none⟩ (.slice A' m c')) := ((Kept.refl (fun k => k = w.heap.size) W2).setCell (p := ⟨w.heap.size, 0, none⟩) (fun _ => rfl) _).setCell (p := ⟨w.heap.size, 1, none⟩) (fun _ => rfl) _
   have hb9 := (hb0.out.cln hcl2).store2 (v0 := .int .i64 num) (v1 := .slice A' m c')
   have hr1 := OwnDeals.rd (OwnQ.kept (OwnQ.cln hO.out hcl2) hk2 (fun k hk _ e => by have e : k = w.heap.size := e; omega))
   have hr2 := OwnDeals.rd (OwnQ.kept hO2 hk2 (fun k hk _ e => by have e : k = w.heap.size := e; omega))
   rw [hacc.out] at hr1
   rw [hacc2] at hr2
   have hres := results_ct Tryz.results23 tm _ w.heap.size 24 _ (0, 0) _ ht4 hb9 Tryz.underlying24 rfl s1
   rw [ht5] at hres
   refine bodyPost_ret hres rfl ⟨A', A2, m, c', n - m, c2, rfl, hm.out, by rw [← hm.out], own_cap hO.out.own, own_cap hO2.own, hr1, hr2, ?_⟩
   exact ((Kept.of_below (S := fun k => k = w.heap.size) (cln_trans hcl.out hcl2)).trans hk2).toBelow (Nat.le_refl _) (fun k hk e => by have e : k = w.heap.size := e; omega)
  have hEnd := Lib.hid hEnd
  have hb0H := hb0; have hb1H := hb1
  by_cases hmc : m = c
  ·subst hmc
   have hnm : n - m = 0 := by omega
   have hdn : Hid (l.drop m = []) := by unfold Hid; rw [List.drop_eq_nil_iff]; omega
   have j1 : ((m : Int) - (m : Int)) = 0 := by omega
   have j2 : ((n : Int) - (m : Int)) = 0 := by omega
   replace hnm := Lib.hid hnm
   have f0 := hb0.out.frozen; have c0 := hb0.out.cell; have l0 := hb0.out.lt
   go_wp2_with fail
   go_loopw [47, 12] (fun v v12 wr => v = .int .i64 0 ∧ v12 = .slice none 0 0 ∧ wr = W) (fun _ _ _ => 0)
   case atStart => exact ⟨rfl, rfl, rfl⟩
   case round =>
    obtain ⟨rfl, rfl, rfl⟩ := hrel
    go_wp2_with fail
    refine hEnd.out none 0 [] _ _ (by rw [hnm.out]; exact OwnQ.nil _ _ _ _ _ _) hdn.out.symm (Below.refl _ _) ?_ ?_
    ·rfl
    ·rw [hnm.out]; rfl
  ·by_cases hnz : n = 0
   ·rcases A with _ | ad
    ·exact absurd (hAc rfl) (by omega)
    obtain ⟨b, o, sp⟩ := ad
    have j2 : ¬ (c : Int) - (m : Int) = 0 := by omega
    have f0 := hb0.out.frozen; have c0 := hb0.out.cell; have l0 := hb0.out.lt
    have hnm : Hid (n - m = 0) := by unfold Hid; omega
    have hdn : Hid (l.drop m = []) := by unfold Hid; rw [List.drop_eq_nil_iff]; omega
    have hnzH := Lib.hid hnz
    clear hnz
    go_wp2_with fail
    go_loopw [47, 12] (fun v v12 wr => v = .int .i64 0 ∧ v12 = .slice none 0 0 ∧ wr = W) (fun _ _ _ => 0)
    case atStart => exact ⟨rfl, rfl, rfl⟩
    case round =>
     obtain ⟨rfl, rfl, rfl⟩ := hrel
     have t3 : decide ((0 : Int) < ((n - m : Nat) : Int)) = false := decide_eq_false (by have := hnm.out; omega)
     have t4 : decide (0 < n - m) = false := decide_eq_false (by have := hnm.out; omega)
     go_wp2_with fail
     refine hEnd.out none 0 [] _ _ (by rw [hnm.out]; exact OwnQ.nil _ _ _ _ _ _) hdn.out.symm (Below.refl _ _) ?_ ?_
     ·rfl
     ·rw [hnm.out]; rfl
   obtain ⟨b, o, rfl, hblt, hcell⟩ := hr.rows (by omega)
   have j2 : ¬ (c : Int) - (m : Int) = 0 := by omega
   have f0 := hb0.out.frozen; have c0 := hb0.out.cell; have l0 := hb0.out.lt
   replace hcell := Lib.hid hcell
   have hC0 : Hid (Cln w W) := hcl
   go_wp2_with fail
   clear f0 c0 l0 c1 l1
   go_loopw [47, 12] (fun v v12 wr => ∃ (j : Nat) (acc2 : List DQ) (A2 : Option Addr) (c2 : Nat), j ≤ n - m ∧ v = .int .i64 (j : Nat) ∧ v12 = .slice A2 j c2 ∧ Hid (OwnDeals wr W.heap.size (.slice A2 j c2) j acc2) ∧ Hid (acc2.map (·.d) = (l.drop m).take j) ∧ Hid (Cln W wr)) (fun v _ _ => (n - m - intOf v).toNat)
   case atStart => exact ⟨0, [], none, 0, Nat.zero_le _, rfl, rfl, OwnQ.nil _ _ _ _ _ _, rfl, Below.refl _ _⟩
   case round =>
    obtain ⟨j, acc2, A2, c2, hj, rfl, rfl, hO2, hacc2, hcl2⟩ := hrel
    by_cases hlt : j < n - m
    ·have t3 : decide ((j : Int) < ((n - m : Nat) : Int)) = true := decide_eq_true (by omega)
     obtain ⟨Ai, ni, ci, hc0⟩ := hcell.out (m + j) (by omega)
     have hclr := Lib.hid (cln_trans hcl.out hcl2.out)
     have f0 := (hc0.cln hclr.out).c0
     rw [← Nat.add_assoc] at f0
     have hblt2 : b < wr.heap.size := by have := hclr.out.size; omega
     have hme := hacts _ (dealAt_mem l (m + j) (by omega))
     have hni : ni ≤ 1048576 := by have := hc0.it.len; omega
     have hme2 := Lib.hid hme.2
     have hit := Lib.hid hc0.it
     have hsn := Lib.hid (take_snoc (l.drop m) j (by rw [List.length_drop]; omega))
     rw [dealAt_dropped] at hsn
     clear hc0 hme
     generalize dealAt l (m + j) = d at hit hme2 hsn
     have hwa : Cln wr (wr.alloc (.cells #[.slice Ai ni ci] 48)) := by (repeat with_reducible first | exact cR _ | assumption | refine cA ?_ _ | refine cD ?_ | refine cN ?_ _ | refine cS ?_ (by first | omega | (simp <;> omega)) _)
     obtain ⟨i0, hi0, hz0, hz1, hz2⟩ := info_parts Tryz.info48
     have hWs : Hid (W.heap.size ≤ (wr.alloc (.cells #[.slice Ai ni ci] 48)).heap.size) := by have := hcl2.out.size; unfold Hid; simp; omega
     go_wp2_with fail
     refine (dclone_any d Ai ni ci _ (hit.out.cln (cln_trans hclr.out hwa)) hni hme2.out).mono ?_
     rintro e w6 ⟨Ax, cx, rfl, hq6, hcl6⟩
     have hO6 := OwnQ.cln (OwnQ.cln hO2.out hwa) hcl6
     have hc6 := cln_trans hcl2.out (cln_trans hwa hcl6)
     have hs6 := hc6.size
     have hob := fun g hg => (own_ge hO2.out.own g hg).2
     simp only []
     rename_i hKK
     go_wp2_with (
      at_builtin
      refine wpList_pushAt rfl _ _ 22 rfl W.heap.size 48 i0 (.agg #[.slice none 0 0]) 1 24 Tryz.underlying22 hi0 hz0 hz1 hz2 rfl (by decide) (by decide) (.slice A2 j c2) j (acc2.flatMap DQ.vals) [.slice Ax ni cx] rfl (by simp [Value.oneCell']) rfl rfl hO6.own (by omega) hs6 ?_
      intro v' w7 hown7 hgr7 hv7
      obtain ⟨A3, c3, rfl, _, _⟩ := own_form hown7
      have hO7 : Hid (OwnDeals w7 W.heap.size (.slice A3 (j + 1) c3) (j + 1) (acc2 ++ [(⟨d, Ax, ni, cx⟩ : DQ)])) :=
       OwnQ.push (P := DQ.rd) (b1 := _) (q := (⟨d, Ax, ni, cx⟩ : DQ)) hO6 (by rw [← dqVals_snoc]; exact hown7) hgr7 hv7 hWs.out (fun g hg => by have := hob g hg; simp; omega) hq6
      have hc7 : Hid (Cln W w7) := ((Kept.of_below (S := fun k => W.heap.size ≤ k) hc6).alloc _ |>.grown hgr7 (fun k hk _ => (own_ge hO6.own k hk).1)).toBelow (Nat.le_refl _) (fun k hk h => by omega)
      have hA7 : Hid ((acc2 ++ [(⟨d, Ax, ni, cx⟩ : DQ)]).map (·.d) = (l.drop m).take (j + 1)) := by unfold Hid; rw [List.map_append, hacc2.out, hsn.out]; rfl
      clear hO6 hc6 hs6 hob hown7 hgr7 hv7 hq6 hcl6 f0)
     go_roundw
     case rel => exact ⟨j + 1, _, A3, c3, hlt, by go_num, rfl, hO7, hA7, hc7⟩
     case measure => simp [intOf]; omega
    ·obtain rfl : j = n - m := by omega
     have t3 : decide (((n - m : Nat) : Int) < ((n - m : Nat) : Int)) = false := decide_eq_false (by omega)
     have hx0 := hb0.out.cln hcl2.out
     have hx1 := hb1.out.cln hcl2.out
     have f0 := hx0.frozen; have c0 := hx0.cell; have l0 := hx0.lt; have c1 := hx1.cell; have l1 := hx1.lt
     rw [List.take_of_length_le (by rw [List.length_drop]; omega)] at hacc2
     clear hx0 hx1
     go_wp2_with fail
     refine hEnd.out A2 c2 acc2 wr _ hO2.out hacc2.out hcl2.out ?_ ?_
     ·rfl
     ·rfl
 clear hKA
 go_loopw [19] (fun v wr => ∃ (i : Nat) (acc : List DQ) (A' : Option Addr) (c' : Nat), i ≤ n ∧ v = .int .i64 (i : Nat) ∧ Hid (OwnDeals wr (w.heap.size + 1 + 1) (.slice A' i c') i acc) ∧ Hid (acc.map (·.d) = l.take i) ∧ Hid (Blk wr w.heap.size 24 #[.int .i64 0, .slice none 0 0]) ∧ Hid (Blk wr (w.heap.size + 1) 24 #[.int .i64 num, .slice A' i c']) ∧ Hid (Cln w wr) ∧ Hid (many num l = manyGo num l (n - i) i)) (fun v _ => (n - intOf v).toNat)
 case atStart => exact ⟨0, [], none, 0, Nat.zero_le _, rfl, OwnQ.nil _ _ _ _ _ _, rfl, hb0, hb1, hcl0, hS0⟩
 case round =>
  clear hS0 hcl0
  obtain ⟨i, acc, A', c', hi, rfl, hO, hacc, hb0, hb1, hcl, hH⟩ := hrel
  by_cases hlt : i < n
  ·have t3 : decide ((i : Int) < (n : Int)) = true := decide_eq_true (by omega)
   have hstep := Lib.hid (hH.out.trans (manyGo_step hlt))
   obtain ⟨b, o, rfl, hblt, hcell⟩ := hr.rows (by omega)
   obtain ⟨Ai, ni, ci, hc0⟩ := hcell i hlt
   clear hcell hH
   have f0 := (hc0.cln hcl.out).c0
   have hblt2 : b < wr.heap.size := by have := hcl.out.size; omega
   have hme := hacts _ (dealAt_mem l i (by omega))
   have hni : ni ≤ 1048576 := by have := hc0.it.len; omega
   have hme2 := Lib.hid hme.2
   have hit := Lib.hid hc0.it
   have hsn := Lib.hid (take_snoc l i (by omega))
   clear hc0 hme
   generalize dealAt l i = d at hit hme2 hsn
   have hb8 := Blk.new wr 48 #[.slice Ai ni ci]
   have h1b := hb1.out.alloc (.cells #[.slice Ai ni ci] 48)
   have hsz0 : w.heap.size + 1 < wr.heap.size := hb1.out.lt
   have hT : Hid (∀ W, Cln (wr.alloc (.cells #[.slice Ai ni ci] 48)) W → W.cell? ⟨w.heap.size + 1, 1, none⟩ = some (.slice A' i c') ∧ W.cell? ⟨wr.heap.size, 0, none⟩ = some (.slice Ai ni ci) ∧ w.heap.size + 1 < W.heap.size ∧ wr.heap.size < W.heap.size) := fun W h =>
    ⟨(h1b.cln h).cell 1, (hb8.cln h).cell 0, (h1b.cln h).lt, (hb8.cln h).lt⟩
   have hwa : Cln wr (wr.alloc (.cells #[.slice Ai ni ci] 48)) := by (repeat with_reducible first | exact cR _ | assumption | refine cA ?_ _ | refine cD ?_ | refine cN ?_ _ | refine cS ?_ (by first | omega | (simp <;> omega)) _)
   have hcur : Hid (Cln (wr.alloc (.cells #[.slice Ai ni ci] 48)) (wr.alloc (.cells #[.slice Ai ni ci] 48)).drew) := Below.drew (Below.refl _ _)
   have hcap := own_cap hO.out.own
   have hnn : A' = none → i = 0 ∧ c' = 0 := fun e => own_none (e ▸ hO.out.own)
   have cClip : ∀ W, Calls Tryz.prog 65 #[.slice A' i c'] W fun e w' => e = .returned (.slice A' i i) ∧ Cln W w' := fun W => clip_any A' i c' hcap hnn W
   have cClone : ∀ W, Cln (wr.alloc (.cells #[.slice Ai ni ci] 48)) W → Calls Tryz.prog 51 #[.agg #[.slice Ai ni ci]] W fun e w' => ∃ (Ax : Option Addr) (cx s5 : Nat), e = .returned (.agg #[.slice Ax ni cx]) ∧ s5 = W.heap.size ∧ Hid (OnlyBy (fun k => s5 ≤ k ∧ k < w'.heap.size) w' (DQ.rd ⟨d, Ax, ni, cx⟩)) ∧ Cln W w' := fun W h =>
    (dclone_any d Ai ni ci W (hit.out.cln (cln_trans hcl.out (cln_trans hwa h))) hni hme2.out).mono (fun e w' ⟨Ax, cx, h1, h2, h3⟩ => ⟨Ax, cx, _, h1, rfl, h2, h3⟩)
   have hO1 := Lib.hid (OwnQ.cln hO.out hwa)
   have hb01 := Lib.hid (hb0.out.cln hwa)
   have hclA := Lib.hid (cln_trans hcl.out hwa)
   obtain ⟨i0, hi0, hz0, hz1, hz2⟩ := info_parts Tryz.info48
   obtain ⟨u1, u2, u3, u4⟩ := hT.out _ hcur.out
   have hsb : Hid (w.heap.size + 1 + 1 ≤ (wr.alloc (.cells #[.slice Ai ni ci] 48)).heap.size) := by unfold Hid; simp; omega
   have h1b := Lib.hid h1b
   obtain ⟨y1, y2, y3, y4⟩ := hT.out ((wr.alloc (.cells #[.slice Ai ni ci] 48)).alloc (.cells #[.int .i64 0, .slice none 0 0] 24)) (by (repeat with_reducible first | exact cR _ | assumption | refine cA ?_ _ | refine cD ?_ | refine cN ?_ _ | refine cS ?_ (by first | omega | (simp <;> omega)) _))
   clear hb8 hcap hnn hit hme2 hb0 hcl hO
   go_wp2_with fail
   rename_i KB hKB
   have hJ2 : ∀ (s10 s11 s20 s21 s22 s23 s24 s25 s26 s27 s28 s29 s30 s31 s32 s33 s34 s35 s36 s37 s38 s39 s40 : Value) (A2 Ax : Option Addr) (c2 cx g9 s5 : Nat) (w6 w7 W9 : World), Cln (wr.alloc (.cells #[.slice Ai ni ci] 48)) w6 → Hid (OnlyBy (fun k => s5 ≤ k ∧ k < w6.heap.size) w6 (DQ.rd ⟨d, Ax, ni, cx⟩)) → (wr.alloc (.cells #[.slice Ai ni ci] 48)).heap.size ≤ s5 → Cln w6 w7 → w7.ownsRow w6.heap.size 48 1 (.slice A2 (i + 1) c2) (i + 1) (acc.flatMap DQ.vals ++ [.slice Ax ni cx]) →
     (wr.alloc (.cells #[.slice Ai ni ci] 48)).heap.size ≤ g9 → (g9 < s5 ∨ w6.heap.size ≤ g9) → (∀ g, (Value.slice A2 (i + 1) c2).ownBlock = some g → g ≠ g9) → Kept (fun k => k = g9) w7 W9 → Blk W9 g9 24 #[.int .i64 num, .slice A2 (i + 1) c2] →
     KB { tmps := #[.int .i64 num, .slice (some ⟨b, o, none⟩) n c, undef, undef, .pointer (some ⟨w.heap.size, 0, none⟩), .slice none 0 0, .pointer (some ⟨w.heap.size + 1, 0, none⟩), undef, .pointer (some ⟨wr.heap.size, 0, none⟩), .pointer (some ⟨g9, 0, none⟩), s10, s11, undef, undef, undef, .int .i64 num, .agg #[.int .i64 num, .slice none 0 0], .slice (some ⟨b, o, none⟩) n c, .int .i64 (n : Nat), .int .i64 (i : Nat), s20, s21, s22, s23, s24, s25, s26, s27, s28, s29, s30, s31, s32, s33, s34, s35, s36, s37, s38, s39, s40, undef, undef, undef, undef, undef, undef, undef, undef, undef, undef, undef, undef, undef, undef, undef, undef, undef, undef], defers := [] } W9 := by as_aux_lemma =>
    intro s10 s11 s20 s21 s22 s23 s24 s25 s26 s27 s28 s29 s30 s31 s32 s33 s34 s35 s36 s37 s38 s39 s40 A2 Ax c2 cx g9 s5 w6 w7 W9 hc6 hq6 hs5 hc7 hown7 hg9 hg9s hg9o hk9 hb9
    refine hKB _ _ ?_
    clear hKB
    have hO9 : Hid (OwnDeals W9 (w.heap.size + 1 + 1) (.slice A2 (i + 1) c2) (i + 1) (acc ++ [(⟨d, Ax, ni, cx⟩ : DQ)])) := by
     have hsb' := hsb.out
     have h67 := hc7.size; have h79 := hk9.size; have ha6 := hc6.size
     refine ⟨?_, fun x hx => ?_⟩
     ·rw [← dqVals_snoc]
      refine own_base (own_same hown7 fun k hk => hk9.block k (own_ge hown7 k hk).2 (fun e => hg9o k hk e)) (by omega)
     ·rcases List.mem_append.1 hx with hx | hx
      ·refine (hO1.out.it x hx).to (fun k hk => ?_) (fun k hk => ⟨hk.1, by omega, fun e => by have := (own_ge hown7 k e).1; omega⟩)
       have hk1 := hk.2.1
       rw [hk9.block k (by omega) (fun e => by have e : k = g9 := e; omega), hc7.block k (by omega), hc6.block k hk1]
      ·obtain rfl : x = ⟨d, Ax, ni, cx⟩ := by simpa using hx
       refine hq6.out.to (fun k hk => ?_) (fun k hk => ⟨by omega, by omega, fun e => by have := (own_ge hown7 k e).1; omega⟩)
       rw [hk9.block k (by omega) (fun e => by have e : k = g9 := e; omega), hc7.block k hk.2]
    have hc9 : Hid (Cln (wr.alloc (.cells #[.slice Ai ni ci] 48)) W9) := ((Kept.of_below (S := fun k => k = g9) (cln_trans hc6 hc7)).trans hk9).toBelow (Nat.le_refl _) (fun k hk e => by have e : k = g9 := e; omega)
    clear hc6 hq6 hs5 hc7 hown7 hg9s hg9o hk9
    have hrd := OwnDeals.rd hO9.out
    have hds : (acc ++ [(⟨d, Ax, ni, cx⟩ : DQ)]).map (·.d) = l.take (i + 1) := by rw [List.map_append, hacc.out, hsn.out]; rfl
    rw [hds] at hrd
    have hb9H := Lib.hid hb9
    have c9 := hb9.cell; have l9 := hb9.lt
    clear hb9
    go_wp2_with fail
    refine (lcheck_any ⟨num, l.take (i + 1)⟩ A2 (i + 1) c2 (hmod.take _) W9 (hK.cln (cln_trans hclA.out hc9.out)) hrd).mono ?_
    rintro e w10 ⟨rfl, hq⟩
    have hO10 := Lib.hid (OwnQ.cln hO9.out hq)
    have hc10 := Lib.hid (cln_trans hc9.out hq)
    have hb10 := hb9H.out.cln hq
    clear c9 l9 hrd hq hO9 hc9 hb9H
    by_cases hca : (checkLot ⟨num, l.take (i + 1)⟩).1 = 0
    ·have t5 : ((((checkLot ⟨num, l.take (i + 1)⟩).1 : Nat) : Int) != 0) = false := by rw [hca]; rfl
     have hst : Hid (many num l = manyGo num l (n - (i + 1)) (i + 1)) := by unfold Hid; rw [hstep.out, if_pos hca]
     replace hca := Lib.hid hca
     have c10 := hb10.cell; have l10 := hb10.lt
     have ho10 := (h1b.out.cln hc10.out)
     have co := ho10.cell; have lo := ho10.lt; have fo := ho10.frozen
     have hb00 := hb01.out.cln hc10.out
     have hcw10 := cln_trans hclA.out hc10.out
     have hne9 : ¬ g9 = w.heap.size + 1 := by have := hsb.out; omega
     have hne9' : ¬ w.heap.size + 1 = g9 := by omega
     replace hb00 := Lib.hid hb00; replace ho10 := Lib.hid ho10; replace hcw10 := Lib.hid hcw10
     have hdsH := Lib.hid hds
     clear hb10 hds
     go_wp2_with fail
     go_roundw
     case measure => simp [intOf]; omega
     have hst2 : Kept (fun k => k = w.heap.size + 1) w10 ((w10.setCell ⟨w.heap.size + 1, 0, none⟩ (.int .i64 num)).setCell ⟨w.heap.size + 1, 1, none⟩ (.slice A2 (i + 1) c2)) := ((Kept.refl (fun k => k = w.heap.size + 1) w10).setCell (p := ⟨w.heap.size + 1, 0, none⟩) (fun _ => rfl) _).setCell (p := ⟨w.heap.size + 1, 1, none⟩) (fun _ => rfl) _
     refine ⟨i + 1, _, A2, c2, hlt, by go_num, ?_, hdsH, ?_, ?_, ?_, hst⟩
     ·exact OwnQ.kept hO10.out hst2 (fun k hk _ e => by have e : k = w.heap.size + 1 := e; omega)
     ·exact hb00.out.kept hst2 (show ¬ w.heap.size = w.heap.size + 1 by omega)
     ·exact ho10.out.store2 (v0 := .int .i64 num) (v1 := .slice A2 (i + 1) c2)
     ·exact ((Kept.of_below (S := fun k => k = w.heap.size + 1) hcw10.out).trans hst2).toBelow (Nat.le_refl _) (fun k hk e => by have e : k = w.heap.size + 1 := e; omega)
    ·have t5 : ((((checkLot ⟨num, l.take (i + 1)⟩).1 : Nat) : Int) != 0) = true := by rw [bne_iff_ne]; omega
     have hst : Hid (i = many num l) := by unfold Hid; rw [hstep.out, if_neg hca]
     have hO11 := Lib.hid (OwnQ.cln hO1.out hc10.out)
     have hb00 := Lib.hid (hb01.out.cln hc10.out)
     have ho10 := Lib.hid (h1b.out.cln hc10.out)
     have hcw10 := Lib.hid (cln_trans hclA.out hc10.out)
     clear hb10 hO10 hc10
     go_wp2_with fail
     exact hJ _ _ _ _ _ _ _ _ _ _ _ _ _ _ _ _ _ _ _ _ _ _ _ _ _ _ _ _ _ _ _ _ _ _ _ _ _ _ _ _ _ _ _ _ _ _ _ _ _ _ _ _ _ _ i acc A' c' _ hst hO11 hacc hb00 ho10 hcw10
   clear hKB hJ hclA hb01 hsn hacc hstep h1b
   go_region_law (first
    |(go_simp; go_at_call 65; with_reducible refine (cClip _).mono ?_; rintro e w5 ⟨rfl, hq5⟩; (try (have hz9 := (by first | exact Blk.cln (Blk.new (wr.alloc (.cells #[.slice Ai ni ci] 48)) 24 #[.int .i64 0, .slice none 0 0]) hq5 | exact Blk.cln (Blk.drew (Blk.new (wr.alloc (.cells #[.slice Ai ni ci] 48)) 24 #[.int .i64 0, .slice none 0 0])) hq5 : Blk w5 (wr.alloc (.cells #[.slice Ai ni ci] 48)).heap.size 24 #[.int .i64 0, .slice none 0 0]); (try simp only [World.size_alloc, size_drew_] at hz9))); (try have hy9 := hq5.size); have hcur := Lib.hid (show Cln (wr.alloc (.cells #[.slice Ai ni ci] 48)) w5 from by first | exact cln_trans hcur.out hq5 | exact cln_trans (show Cln (wr.alloc (.cells #[.slice Ai ni ci] 48)) ((wr.alloc (.cells #[.slice Ai ni ci] 48)).alloc (.cells #[.int .i64 0, .slice none 0 0] 24)).drew from by (repeat with_reducible first | exact cR _ | assumption | refine cA ?_ _ | refine cD ?_ | refine cN ?_ _ | refine cS ?_ (by first | omega | (simp <;> omega)) _)) hq5); clear hq5; obtain ⟨u1, u2, u3, u4⟩ := hT.out _ hcur.out)
    |(go_simp; go_at_call 51; with_reducible refine (cClone _ (by first | exact hcur.out | exact cln_trans hcur.out (by (repeat with_reducible first | exact cR _ | assumption | refine cA ?_ _ | refine cD ?_ | refine cN ?_ _ | refine cS ?_ (by first | omega | (simp <;> omega)) _)))).mono ?_; rintro e w6 ⟨Ax, cx, s5, rfl, hs5, hq6, hcl6⟩; (try replace hz9 := hz9.cln hcl6); (try (have hz9 := Blk.cln (Blk.new _ 24 #[.int .i64 0, .slice none 0 0]) hcl6; (try simp only [World.size_alloc, size_drew_] at hz9))); have hsa5 := hcur.out.size; have hsz6 := hcl6.size; have hcur := Lib.hid (show Cln (wr.alloc (.cells #[.slice Ai ni ci] 48)) w6 from by first | exact cln_trans hcur.out hcl6 | exact cln_trans (cln_trans hcur.out (by (repeat with_reducible first | exact cR _ | assumption | refine cA ?_ _ | refine cD ?_ | refine cN ?_ _ | refine cS ?_ (by first | omega | (simp <;> omega)) _))) hcl6); clear hcl6; obtain ⟨u1, u2, u3, u4⟩ := hT.out _ hcur.out; have hO6 := OwnQ.cln hO1.out hcur.out)
    |(refine step_pushNew (w := w6.alloc (.cells #[.slice Ax ni cx] 48)) rfl _ _ _ rfl (w.heap.size + 1 + 1) _ _ _ _ _ ?hu hi0 hz0 hz1 hz2 rfl (by decide) (by decide) A' c' i w6.heap.size (acc.flatMap DQ.vals) [.slice Ax ni cx] rfl (by simp [Value.oneCell']) ?hs ?hx (Blk.new w6 _ _) (hO6.own.alloc _) (by omega) ?_; (case hu => exact Tryz.underlying22); (case hs => rfl); (case hx => rfl); intro v' w7 hown7 hgr7; obtain ⟨A2, c2, rfl, _, _⟩ := own_form hown7; have hw7 := ((Kept.refl (fun _ => False) _).grown hgr7 (fun k hk _ => by cases hk)).toBelow (Nat.le_refl _) (fun k _ h => h); (try (have hz7 := (hz9.alloc (.cells #[.slice Ax ni cx] 48)).cln hw7; have hz7c := hz7.cell; have hz7f := hz7.frozen; have hz7l := hz7.lt)))
    |(refine step_pushNew (w := (w6.alloc (.cells #[.slice Ax ni cx] 48)).alloc (.cells #[.int .i64 0, .slice none 0 0] 24)) rfl _ _ _ rfl (w.heap.size + 1 + 1) _ _ _ _ _ ?hu hi0 hz0 hz1 hz2 rfl (by decide) (by decide) A' c' i w6.heap.size (acc.flatMap DQ.vals) [.slice Ax ni cx] rfl (by simp [Value.oneCell']) ?hs ?hx ((Blk.new w6 _ _).alloc _) ((hO6.own.alloc _).alloc _) (by omega) ?_; (case hu => exact Tryz.underlying22); (case hs => rfl); (case hx => rfl); intro v' w7 hown7 hgr7; obtain ⟨A2, c2, rfl, _, _⟩ := own_form hown7; have hw7 := ((Kept.refl (fun _ => False) _).grown hgr7 (fun k hk _ => by cases hk)).toBelow (Nat.le_refl _) (fun k _ h => h); have hz7 := (Blk.new (w6.alloc (.cells #[.slice Ax ni cx] 48)) 24 #[.int .i64 0, .slice none 0 0]).cln hw7; simp only [World.size_alloc] at hz7; have hz7c := hz7.cell; have hz7f := hz7.frozen; have hz7l := hz7.lt)
    |(refine step_pushNew (w := (w6.alloc (.cells #[.int .i64 0, .slice none 0 0] 24)).alloc (.cells #[.slice Ax ni cx] 48)) rfl _ _ _ rfl (w.heap.size + 1 + 1) _ _ _ _ _ ?hu hi0 hz0 hz1 hz2 rfl (by decide) (by decide) A' c' i (w6.heap.size + 1) (acc.flatMap DQ.vals) [.slice Ax ni cx] rfl (by simp [Value.oneCell']) ?hs ?hx (by have h := Blk.new (w6.alloc (.cells #[.int .i64 0, .slice none 0 0] 24)) 48 #[.slice Ax ni cx]; rw [World.size_alloc] at h; exact h) ((hO6.own.alloc _).alloc _) (by omega) ?_; (case hu => exact Tryz.underlying22); (case hs => rfl); (case hx => rfl); intro v' w7 hown7 hgr7; obtain ⟨A2, c2, rfl, _, _⟩ := own_form hown7; have hw7 := ((Kept.refl (fun _ => False) _).grown hgr7 (fun k hk _ => by cases hk)).toBelow (Nat.le_refl _) (fun k _ h => h); have hz7 := ((Blk.new w6 24 #[.int .i64 0, .slice none 0 0]).alloc (.cells #[.slice Ax ni cx] 48)).cln hw7; have hz7c := hz7.cell; have hz7f := hz7.frozen; have hz7l := hz7.lt))
   all_goals
    have q1 := hw7.size
    have q2 := hcur.out.size
    have q3 := own_ge hown7
    try simp only [World.size_alloc, size_drew_] at q1
    try simp only [World.size_alloc, size_drew_] at hs5
    try simp only [World.size_alloc, size_drew_] at hsa5
    try simp only [World.size_alloc, size_drew_] at hsz6
    try simp only [World.size_alloc, size_drew_] at hy9
    try simp only [World.size_alloc, size_drew_] at q2
    try simp only [World.size_alloc, size_drew_] at q3
    refine hJ2 _ _ _ _ _ _ _ _ _ _ _ _ _ _ _ _ _ _ _ _ _ _ _ A2 Ax c2 cx _ s5 w6 w7 _ hcur.out hq6 ?_ (cln_trans (by (repeat with_reducible first | exact cR _ | assumption | refine cA ?_ _ | refine cD ?_ | refine cN ?_ _ | refine cS ?_ (by first | omega | (simp <;> omega)) _)) hw7) (own_base hown7 (by simp only [World.size_alloc]; omega)) ?_ ?_ ?_ ?_ ?_
    ·simp only [World.size_alloc]; omega
    ·simp only [World.size_alloc]; omega
    ·omega
    ·intro k hk e; have := q3 k hk; omega
    ·first
     | exact (Kept.refl _ _).alloc _
     | exact ((Kept.refl (fun k => k = _) _).setCell (p := ⟨_, 0, none⟩) (fun _ => rfl) _).setCell (p := ⟨_, 1, none⟩) (fun _ => rfl) _
    ·first
     | exact Blk.new _ _ _
     | exact hz7.store2
  ·obtain rfl : i = n := by omega
   have t3 : decide ((i : Int) < (i : Int)) = false := decide_eq_false (by omega)
   have hst : Hid (i = many num l) := by unfold Hid; rw [hH.out, Nat.sub_self]; rfl
   go_wp2_with fail
   exact hJ _ _ _ _ _ _ _ _ _ _ _ _ _ _ _ _ _ _ _ _ _ _ _ _ _ _ _ _ _ _ _ _ _ _ _ _ _ _ _ _ _ _ _ _ _ _ _ _ _ _ _ _ _ _ i acc A' c' _ hst hO hacc hb0 hb1 hcl
set_option maxHeartbeats 4000000 in
theorem speaks_lot (w : World) (hK : KindsAt w) : Calls Tryz.prog 13 #[] w fun e w' => e = .returned (.bool true) ∧ Cln w w' := by
 have hfe : ∀ W : World, (binOp .eql 36 (.agg #[.int .i64 0, .int .i64 0]) (.agg #[.int .i64 0, .int .i64 0])).run Tryz.prog W = .ok (.bool true) W := fun W => by kernel_rfl
 have hcl0 : Cln w ((((w.alloc (.cells #[.int .i64 2, .string ⟨#[97]⟩, .int .i64 0, .float .f64 0, .string ⟨#[]⟩, .int .i64 0, .int .i64 0, .int .i64 0, .int .i64 0, .float .f64 0, .int .i64 0, .string ⟨#[]⟩, .slice none 0 0, .bool false] 90)).alloc (.cells #[.slice (some ⟨w.heap.size, 0, none⟩) 1 1] 48)).alloc (.cells #[.slice (some ⟨w.heap.size, 0, none⟩) 1 1] 48)).alloc (.cells #[.int .i64 7, .slice (some ⟨w.heap.size + 1 + 1, 0, none⟩) 1 1] 24)) := by (repeat with_reducible first | exact cR _ | assumption | refine cA ?_ _ | refine cD ?_ | refine cN ?_ _ | refine cS ?_ (by first | omega | (simp <;> omega)) _)
 have b0 := (((Blk.new w 90 #[.int .i64 2, .string ⟨#[97]⟩, .int .i64 0, .float .f64 0, .string ⟨#[]⟩, .int .i64 0, .int .i64 0, .int .i64 0, .int .i64 0, .float .f64 0, .int .i64 0, .string ⟨#[]⟩, .slice none 0 0, .bool false]).alloc (.cells #[.slice (some ⟨w.heap.size, 0, none⟩) 1 1] 48)).alloc (.cells #[.slice (some ⟨w.heap.size, 0, none⟩) 1 1] 48)).alloc (.cells #[.int .i64 7, .slice (some ⟨w.heap.size + 1 + 1, 0, none⟩) 1 1] 24)
 have b1 := ((Blk.new (w.alloc (.cells #[.int .i64 2, .string ⟨#[97]⟩, .int .i64 0, .float .f64 0, .string ⟨#[]⟩, .int .i64 0, .int .i64 0, .int .i64 0, .int .i64 0, .float .f64 0, .int .i64 0, .string ⟨#[]⟩, .slice none 0 0, .bool false] 90)) 48 #[.slice (some ⟨w.heap.size, 0, none⟩) 1 1]).alloc (.cells #[.slice (some ⟨w.heap.size, 0, none⟩) 1 1] 48)).alloc (.cells #[.int .i64 7, .slice (some ⟨w.heap.size + 1 + 1, 0, none⟩) 1 1] 24)
 have b2 := (Blk.new ((w.alloc (.cells #[.int .i64 2, .string ⟨#[97]⟩, .int .i64 0, .float .f64 0, .string ⟨#[]⟩, .int .i64 0, .int .i64 0, .int .i64 0, .int .i64 0, .float .f64 0, .int .i64 0, .string ⟨#[]⟩, .slice none 0 0, .bool false] 90)).alloc (.cells #[.slice (some ⟨w.heap.size, 0, none⟩) 1 1] 48)) 48 #[.slice (some ⟨w.heap.size, 0, none⟩) 1 1]).alloc (.cells #[.int .i64 7, .slice (some ⟨w.heap.size + 1 + 1, 0, none⟩) 1 1] 24)
 have b3 := Blk.new (((w.alloc (.cells #[.int .i64 2, .string ⟨#[97]⟩, .int .i64 0, .float .f64 0, .string ⟨#[]⟩, .int .i64 0, .int .i64 0, .int .i64 0, .int .i64 0, .float .f64 0, .int .i64 0, .string ⟨#[]⟩, .slice none 0 0, .bool false] 90)).alloc (.cells #[.slice (some ⟨w.heap.size, 0, none⟩) 1 1] 48)).alloc (.cells #[.slice (some ⟨w.heap.size, 0, none⟩) 1 1] 48)) 24 #[.int .i64 7, .slice (some ⟨w.heap.size + 1 + 1, 0, none⟩) 1 1]
 simp only [World.size_alloc] at b1 b2 b3
 have hra := rd_act1 (a := lspA) b0 (RdItems.none_ _) lspA_wf
 have hrd := rd_deal1 b2 hra
 have hmo : Mod lspL.deals := mod_of (fun d hd => by
  have : d = [lspA] := by simpa [lspL] using hd
  subst this; rw [lspD_check])
 have hmo2 : Mod [[lspA], []] := ⟨fun d hd => by
  rcases (show d = [lspA] ∨ d = [] from by simpa using hd) with rfl | rfl <;> decide, fun d hd a ha => by
  rcases (show d = [lspA] ∨ d = [] from by simpa using hd) with rfl | rfl
  ·obtain rfl : a = lspA := by simpa using ha
   decide
  ·cases ha⟩
 have cB := lbytes_any lspL (some ⟨w.heap.size + 1 + 1, 0, none⟩) 1 1 hmo _ (hK.cln hcl0) hrd
 rw [show lotBytes lspL = [7, 1, 1, 2, 0, 1, 97] from by unfold lotBytes; rw [lspL_check]; exact lspL_w] at cB
 have hb1 := Lib.hid b1; have hb3 := Lib.hid b3; have hraH := Lib.hid hra; have hrdH := Lib.hid hrd
 clear b0 b1 b2 b3 hra hrd
 go_enter Tryz.func13, Tryz.ntmps13
 go_wp2_with fail
 refine cB.mono ?_
 clear cB
 rintro e wA ⟨A, c, n, hn, rfl, hown, hcl1⟩
 obtain ⟨hrdB, hnc, hc, hA⟩ := newBytes_ok hown
 have hn5 : n ≤ 140737488355328 := by simp at hc; omega
 have hclA := cln_trans hcl0 hcl1
 have d1 := hb1.out.cln hcl1; have d3 := hb3.out.cln hcl1
 have hA' := Lib.hid hA
 replace hraH := Lib.hid (hraH.out.cln hcl1); replace hrdH := Lib.hid (hrdH.out.cln hcl1)
 clear hcl0 hcl1 hn hown hc hA hb1 hb3
 have x1 := d1.cell; have y1 := d1.lt; have x3 := d3.cell; have y3 := d3.lt
 have hrdBH := Lib.hid hrdB
 go_wp2_with fail
 have cR : Calls Tryz.prog 20 #[.slice A n c] wA fun e w' => ∃ A n c, e = .returned (.tuple #[.agg #[.int .i64 7, .slice A n c], .agg #[.int .i64 0, .int .i64 0]]) ∧ n ≤ 32 ∧ n ≤ c ∧ RdDeals w' A n [[lspA]] ∧ Cln wA w' := by
  have h := lread_any A n c [7, 1, 1, 2, 0, 1, 97] wA (hK.cln hclA) hrdB hnc hn5 (fun ad e => (hA'.out ad e).1)
  rw [← lspL_w, readLot_wLot (by rw [lspL_check]) (fun d hd a ha => by
   have : d = [lspA] := by simpa [lspL] using hd
   subst this
   obtain rfl : a = lspA := by simpa using ha
   exact lspA_full), lspL_norm] at h
  exact h
 refine cR.mono ?_
 clear cR hrdB
 rintro e wB ⟨AL, nL, cL, rfl, hnL, hncL, hrL, hcl2⟩
 have hcl3 : Cln wB ((wB.alloc (.cells #[.int .i64 7, .slice AL nL cL] 24)).alloc (.cells #[.int .i64 0, .int .i64 0] 36)) := by (repeat with_reducible first | exact cR _ | assumption | refine cA ?_ _ | refine cD ?_ | refine cN ?_ _ | refine cS ?_ (by first | omega | (simp <;> omega)) _)
 have bx := (Blk.new wB 24 #[.int .i64 7, .slice AL nL cL]).alloc (.cells #[.int .i64 0, .int .i64 0] 36)
 have bf := Blk.new (wB.alloc (.cells #[.int .i64 7, .slice AL nL cL] 24)) 36 #[.int .i64 0, .int .i64 0]
 rw [World.size_alloc] at bf
 have e1 := (d1.cln hcl2).cln hcl3; have e3 := (d3.cln hcl2).cln hcl3
 have hrB := Lib.hid ((hrdBH.out.cln hcl2).cln hcl3)
 have hrLB := Lib.hid (hrL.cln hcl3)
 have hraB := Lib.hid ((hraH.out.cln hcl2).cln hcl3)
 have hrdlB := Lib.hid ((hrdH.out.cln hcl2).cln hcl3)
 have hclB := cln_trans (cln_trans hclA hcl2) hcl3
 have z1 : w.heap.size + 1 < wB.heap.size := by have := (d1.cln hcl2).lt; omega
 have z3 : w.heap.size + 1 + 1 + 1 < wB.heap.size := by have := (d3.cln hcl2).lt; omega
 clear x1 y1 x3 y3 d1 d3 hrdBH hraH hrdH hcl2 hrL
 have x1 := e1.cell; have y1 := e1.lt
 have row5 := (Blk.new ((wB.alloc (.cells #[.int .i64 7, .slice AL nL cL] 24)).alloc (.cells #[.int .i64 0, .int .i64 0] 36)) 48 #[.slice (some ⟨w.heap.size, 0, none⟩) 1 1, .slice none 0 0])
 simp only [World.size_alloc] at row5
 have h55 : Cln ((wB.alloc (.cells #[.int .i64 7, .slice AL nL cL] 24)).alloc (.cells #[.int .i64 0, .int .i64 0] 36)) (((wB.alloc (.cells #[.int .i64 7, .slice AL nL cL] 24)).alloc (.cells #[.int .i64 0, .int .i64 0] 36)).alloc (.cells #[.slice (some ⟨w.heap.size, 0, none⟩) 1 1, .slice none 0 0] 48)) := by (repeat with_reducible first | exact cR _ | assumption | refine cA ?_ _ | refine cD ?_ | refine cN ?_ _ | refine cS ?_ (by first | omega | (simp <;> omega)) _)
 have cC := cut_any 7 [[lspA], []] (some ⟨wB.heap.size + 1 + 1, 0, none⟩) 2 2 (Nat.le_refl _) (fun e => by cases e) (by omega) hmo2 (fun d hd => ⟨by have := hmo2.deals d hd; rcases (show d = [lspA] ∨ d = [] from by simpa using hd) with rfl | rfl <;> decide, fun a ha => by
  rcases (show d = [lspA] ∨ d = [] from by simpa using hd) with rfl | rfl
  ·obtain rfl : a = lspA := by simpa using ha
   decide
  ·cases ha⟩) _ (hK.cln (cln_trans hclB h55)) (rd_deal2 row5 (hraB.out.cln h55))
 rw [lspL_many] at cC
 replace e1 := Lib.hid e1; replace e3 := Lib.hid e3; replace bx := Lib.hid bx; replace bf := Lib.hid bf
 clear row5
 go_wp2_with fail
 refine cC.mono ?_
 clear cC x1 y1
 rintro e wC ⟨A1, A2, n1, c1, n2, c2, rfl, hn1, hn2, hnc1, hnc2, hr1, hr2, hclC⟩
 obtain rfl : n1 = 1 := hn1
 obtain rfl : n2 = 1 := hn2
 have hr1' : RdDeals wC A1 1 [[lspA]] := hr1
 have hcy : Cln wC (wC.alloc (.cells #[.int .i64 7, .slice A1 1 c1] 24)) := by (repeat with_reducible first | exact cR _ | assumption | refine cA ?_ _ | refine cD ?_ | refine cN ?_ _ | refine cS ?_ (by first | omega | (simp <;> omega)) _)
 have by_ := Blk.new wC 24 #[.int .i64 7, .slice A1 1 c1]
 have hcc := cln_trans (cln_trans h55 hclC) hcy
 have g1 := e1.out.cln hcc
 have hcD := cln_trans hclB hcc
 have hraD := hraB.out.cln hcc
 have zC : wB.heap.size + 1 < wC.heap.size := by have h2 := hclC.size; simp only [World.size_alloc] at h2; omega
 have row6 := Blk.new (wC.alloc (.cells #[.int .i64 7, .slice A1 1 c1] 24)) 48 #[.slice (some ⟨w.heap.size, 0, none⟩) 1 1, .slice none 0 0]
 rw [World.size_alloc] at row6
 have h66 : Cln (wC.alloc (.cells #[.int .i64 7, .slice A1 1 c1] 24)) ((wC.alloc (.cells #[.int .i64 7, .slice A1 1 c1] 24)).alloc (.cells #[.slice (some ⟨w.heap.size, 0, none⟩) 1 1, .slice none 0 0] 48)) := by (repeat with_reducible first | exact cR _ | assumption | refine cA ?_ _ | refine cD ?_ | refine cN ?_ _ | refine cS ?_ (by first | omega | (simp <;> omega)) _)
 have cK := lcheck_any ⟨1, [[lspA], []]⟩ (some ⟨wC.heap.size + 1, 0, none⟩) 2 2 hmo2 _ (hK.cln (cln_trans hcD h66)) (rd_deal2 row6 (hraD.cln h66))
 rw [lspM_check] at cK
 have x1 := g1.cell; have y1 := g1.lt
 have hg1 := Lib.hid g1
 have hr1D := Lib.hid (hr1'.cln hcy)
 have byH := Lib.hid by_
 clear row6 g1 hr1 hr1' hr2 by_ hraD
 go_wp2_with fail
 refine cK.mono ?_
 clear cK x1 y1
 rintro e wE ⟨rfl, hclE⟩
 have hEE := cln_trans h66 hclE
 have hall := cln_trans hcc hEE
 have kf := bf.out.cln hall
 have kx := bx.out.cln hall
 have kl := e3.out.cln hall
 have ky := byH.out.cln hEE
 have hrF := hrB.out.cln hall
 have hcv := conv_all hrF c
 have hcF := cln_trans hcD hEE
 have hrlF := hrdlB.out.cln hall
 have hrxF := hrLB.out.cln hall
 have hryF := hr1D.out.cln hEE
 have cS1 := lsame_any lspL ⟨7, [[lspA]]⟩ (some ⟨w.heap.size + 1 + 1, 0, none⟩) AL 1 1 nL cL hmo hmo (by omega) wE hrlF hrxF
 rw [show sameLot lspL ⟨7, [[lspA]]⟩ = true from sameLot_refl lspL] at cS1
 have xf := kf.cell; have yf := kf.lt; have xx := kx.cell; have yx := kx.lt; have xl := kl.cell; have yl := kl.lt
 clear hrF
 go_wp2_with (first | simp only [hcv] | simp only [hfe])
 refine cS1.mono ?_
 clear cS1 xf yf xx yx xl yl
 rintro e wG ⟨rfl, hclG⟩
 have jl := kl.cln hclG
 have jy := ky.cln hclG
 have xl := jl.cell; have yl := jl.lt; have xy := jy.cell; have yy := jy.lt
 have cS2 := lsame_any ⟨7, [[lspA]]⟩ lspL A1 (some ⟨w.heap.size + 1 + 1, 0, none⟩) 1 c1 1 1 hmo hmo (by omega) wG (hryF.cln hclG) (hrlF.cln hclG)
 rw [show sameLot ⟨7, [[lspA]]⟩ lspL = true from sameLot_refl lspL] at cS2
 go_wp2_with fail
 refine cS2.mono ?_
 clear cS2 xl yl xy yy
 rintro e wH ⟨rfl, hclH⟩
 go_wp2_with fail
 go_ret
 exact ⟨rfl, cln_trans hcF (cln_trans hclG hclH)⟩
end Go.Proofs.YtoeoodiifpoomaaGreatDoor
