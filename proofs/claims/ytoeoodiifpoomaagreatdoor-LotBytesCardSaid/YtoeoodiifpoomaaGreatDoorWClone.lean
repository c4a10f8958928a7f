/- The walks of slices.Clone over acts, and of deal.Clone. (Printed by wip/tools/gen_clone.py.) -/
import Derived.Test.YtoeoodiifpoomaaGreatDoorOwns
import Derived.Test.YtoeoodiifpoomaaGreatDoorRecs
import Derived.Lib.SliceRun
import Derived.Deep.RegionLaw
set_option linter.unusedSimpArgs false
set_option linter.unusedVariables false
set_option maxRecDepth 20000
namespace Go.Proofs.YtoeoodiifpoomaaGreatDoor
open Go.RowKit Moi
attribute [local go_sem] toList_str str_size less_ltB store_float
theorem own_set {w : World} {base e sz n c g j : Nat} {xs : List Value} (h : w.ownsRow base e sz (.slice (some ⟨g, 0, none⟩) n c) n xs) (hj : j < n * sz) (u : Value) : (w.setCell ⟨g, j, none⟩ u).ownsRow base e sz (.slice (some ⟨g, 0, none⟩) n c) n (xs.set j u) := by
  refine ⟨by rw [List.length_set]; exact h.1, ?_⟩
  rcases h.2 with ⟨hv, _⟩ | ⟨g', cap, cur, hv, hb, hg, hn, hm, hsz, htake⟩
  · cases hv
  · injection hv with h1 h2 h3
    injection h1 with h1; injection h1 with h1
    subst h1; subst h3
    refine .inr ⟨g, c, cur.setIfInBounds j u, rfl, hb, Blk.set_ hg j u, hn, hm, by simpa using hsz, ?_⟩
    rw [← htake, Array.toList_setIfInBounds, List.take_set]
theorem aq_one_cell (l : List AQ) : ∀ u ∈ aqVals l, u.oneCell' = true := by
  intro u hu
  obtain ⟨x, _, hx⟩ := List.mem_flatMap.1 hu
  simp [AQ.vals] at hx
  rcases hx with rfl | rfl | rfl | rfl | rfl | rfl | rfl | rfl | rfl | rfl | rfl | rfl | rfl | rfl <;> rfl
def aqAt (l : List AQ) (i : Nat) : AQ := l.getD i ⟨zeroAct, none, 0, 0⟩
/-- A row of acts with their lists' places. -/
theorem acts_aq {w : World} {A : Option Addr} {n : Nat} {l : List MAct} (h : RdActs w A n l) :
    ∃ q : List AQ, q.map (·.a) = l ∧ (∀ ad, A = some ad → ∀ j u, (aqVals q)[j]? = some u → w.cell? (ad.add j) = some u) ∧ (A = none → n = 0) ∧ ∀ x ∈ q, x.a.WF ∧ RdItems w x.A x.n x.a.make.list := by
  have hl := h.len
  rcases Nat.eq_zero_or_pos n with h0 | h0
  · have : l = [] := List.eq_nil_of_length_eq_zero (by omega)
    subst this
    exact ⟨[], rfl, fun _ _ j u hu => by simp [aqVals] at hu, fun _ => h0, fun _ hx => by cases hx⟩
  obtain ⟨b, o, rfl, hb, hr⟩ := h.rows h0
  have key : ∀ i, i < n → ∃ x : AQ, x.a = actAt l i ∧ ActCells w b (o + i * 14) x.a x.A x.n x.c := fun i hi => by
    obtain ⟨Ai, ni, ci, hc⟩ := hr i hi
    exact ⟨⟨actAt l i, Ai, ni, ci⟩, rfl, hc⟩
  have hF : ∃ F : Nat → AQ, ∀ i, i < n → (F i).a = actAt l i ∧ ActCells w b (o + i * 14) (F i).a (F i).A (F i).n (F i).c :=
    ⟨fun i => if h : i < n then Classical.choose (key i h) else ⟨zeroAct, none, 0, 0⟩, fun i h => by simp only [dif_pos h]; exact Classical.choose_spec (key i h)⟩
  obtain ⟨F, hF⟩ := hF
  have hat : ∀ i, i < n → ((List.range n).map F).getD i ⟨zeroAct, none, 0, 0⟩ = F i := by intro i hi; simp [hi]
  refine ⟨(List.range n).map F, ?_, ?_, fun e => (by cases e), ?_⟩
  · apply List.ext_getElem
    · simp [hl]
    · intro i h1 h2
      simp only [List.getElem_map, List.getElem_range]
      rw [(hF i (by omega)).1]; simp [actAt, List.getD, h2]
  · intro ad e j u hu
    injection e with e; subst e
    have hj : j < n * 14 := by
      have := (List.getElem?_eq_some_iff.1 hu).1
      rw [aqVals_length] at this; simpa using this
    have hi : j / 14 < n := by omega
    have h1 := aqVals_get ((List.range n).map F) (j / 14) (j % 14) (by simpa using hi) (by omega)
    rw [hat _ hi, show j / 14 * 14 + j % 14 = j from by omega, hu] at h1
    have hc := (hF _ hi).2
    have e2 : (⟨b, o, none⟩ : Addr).add j = ⟨b, o + j, none⟩ := by unfold Addr.add; split <;> simp_all
    rw [e2, show o + j = o + j / 14 * 14 + j % 14 from by omega]
    have hm : j % 14 < 14 := by omega
    generalize j / 14 = i at h1 hc
    generalize j % 14 = k at h1 hm
    have hk : k = 0 ∨ k = 1 ∨ k = 2 ∨ k = 3 ∨ k = 4 ∨ k = 5 ∨ k = 6 ∨ k = 7 ∨ k = 8 ∨ k = 9 ∨ k = 10 ∨ k = 11 ∨ k = 12 ∨ k = 13 := by omega
    rcases hk with rfl | rfl | rfl | rfl | rfl | rfl | rfl | rfl | rfl | rfl | rfl | rfl | rfl | rfl <;> (simp [AQ.vals] at h1; subst h1)
    · exact hc.c0
    · exact hc.c1
    · exact hc.c2
    · exact hc.c3
    · exact hc.c4
    · exact hc.c5
    · exact hc.c6
    · exact hc.c7
    · exact hc.c8
    · exact hc.c9
    · exact hc.c10
    · exact hc.c11
    · exact hc.c12
    · exact hc.c13
  · intro x hx
    obtain ⟨i, hi, rfl⟩ := List.mem_map.1 hx
    have := (hF i (by simpa using hi)).2
    exact ⟨this.wf, this.it⟩
set_option maxHeartbeats 4000000 in
theorem scloneA_any (l : List MAct) (A : Option Addr) (n c : Nat) (w0 w : World) (hcl0 : Cln w0 w) (hr0 : RdActs w0 A n l) (hn : n ≤ 1048576) :
    Calls Tryz.prog 92 #[.slice A n c] w fun e w' => ∃ (A' : Option Addr) (c' : Nat) (q : List AQ), e = .returned (.slice A' n c') ∧ q.map (·.a) = l ∧ w'.ownsRow w.heap.size 90 14 (.slice A' n c') n (aqVals q) ∧ (∀ x ∈ q, x.a.WF ∧ RdItems w0 x.A x.n x.a.make.list) ∧ Cln w w' := by
  obtain ⟨i0, hi, hz0, hz1, hz2⟩ := info_parts Tryz.info90
  obtain ⟨q, hq, hsrc0, hnone, hit⟩ := acts_aq hr0
  have hsrc : ∀ ad, A = some ad → ∀ j u, (aqVals q)[j]? = some u → w.cell? (ad.add j) = some u := fun ad e j u hu => (Kept.of_below (S := fun _ => False) hcl0).cell (hsrc0 ad e j u hu) id
  clear hsrc0
  have hlen : (aqVals q).length = n * 14 := by rw [aqVals_length, ← hr0.len, ← hq, List.length_map]
  have hq' := Lib.hid hq
  have hit' := Lib.hid hit
  rcases A with _ | ad
  · obtain rfl := hnone rfl
    have hl0 : q = [] := List.eq_nil_of_length_eq_zero (by rw [aqVals_length] at hlen; omega)
    have heq : ∀ W : World, (binOp .eql 46 (.slice none 0 c) (.slice none 0 0)).run Tryz.prog W = .ok (.bool true) W := fun W => Lib.run_eql_slice_nil W _ 90 none 0 c 0 0 Tryz.underlying46
    clear hq hit hsrc hnone hlen
    subst hl0
    go_enter Tryz.func92, Tryz.ntmps92
    go_wp2_with (simp only [heq])
    go_ret
    exact ⟨none, 0, [], rfl, hq'.out, World.ownsRow_nil _ _ _ _, hit'.out, Below.refl _ _⟩
  · have hlen' := Lib.hid hlen
    have heq : ∀ W : World, (binOp .eql 46 (.slice (some ad) n c) (.slice none 0 0)).run Tryz.prog W = .ok (.bool false) W := fun W => Lib.run_eql_slice_nil W _ 90 (some ad) n c 0 0 Tryz.underlying46
    have hlit := World.ownsRow_lit (base := w.heap.size) (e := 90) (size := 14) w #[] 0 (Nat.le_refl _) (Nat.zero_le _) rfl
    have hcln : Cln w (w.alloc (.cells #[] 90)) := (Below.refl _ _).alloc (Nat.le_refl _) _
    have hsrc2 : Hid (∀ ad' : Addr, some ad = some ad' → ∀ j u, (aqVals q)[j]? = some u → (w.alloc (.cells #[] 90)).cell? (ad'.add j) = some u) := fun ad' e j u hu => (Kept.of_below (S := fun _ => False) hcln).cell (hsrc ad' e j u hu) id
    have hnone2 : Hid (some ad = none → n = 0) := fun e => by cases e
    clear hq hit hsrc hnone hlen
    go_enter Tryz.func92, Tryz.ntmps92
    go_wp2_with (first | simp only [heq] | (
      at_builtin
      refine wpList_cat rfl _ _ 46 rfl w.heap.size 90 i0 (.agg #[.int .i64 0, .string ⟨#[]⟩, .int .i64 0, .float .f64 0, .string ⟨#[]⟩, .int .i64 0, .int .i64 0, .int .i64 0, .int .i64 0, .float .f64 0, .int .i64 0, .string ⟨#[]⟩, .slice none 0 0, .bool false]) 14 152 Tryz.underlying46 hi hz0 hz1 hz2 rfl (by decide) (by decide) (.slice (some ⟨w.heap.size, 0, none⟩) 0 0) 0 [] (some ad) n c (aqVals q) hlen'.out (aq_one_cell q) hsrc2.out hnone2.out rfl rfl hlit (by omega) (by simp) ?_
      intro v' w1 hown1 hg1
      rw [Nat.zero_add, List.nil_append] at hown1
      obtain ⟨A', c', rfl, hA', _⟩ := own_form hown1
      have hkeep := Lib.hid (And.intro hown1 (hcln.grown hg1 (by simp) (fun k hk => by simp [Value.ownBlock] at hk; omega)))
      clear hown1 hg1 hA'))
    go_ret
    first | exact ⟨A', c', q, rfl, hq'.out, hkeep.out.1, hit'.out, hkeep.out.2⟩ | exact ⟨A', c', rfl, q, hq'.out, hkeep.out.1, hit'.out, hkeep.out.2⟩
theorem set_same {α : Type} {l : List α} {i : Nat} {u : α} (h : l[i]? = some u) : l.set i u = l := by
  apply List.ext_getElem?
  intro j
  rw [List.getElem?_set]
  split
  · rename_i e; subst e
    have hl := (List.getElem?_eq_some_iff.1 h).1
    rw [if_pos hl, h]
  · rfl
theorem aqAt_eq (l : List AQ) (i : Nat) : aqAt l i = l.getD i ⟨zeroAct, none, 0, 0⟩ := rfl
/-- One act's list elsewhere. -/
theorem aq_set : ∀ (Q : List AQ) (i : Nat), i < Q.length → ∀ (A : Option Addr) (n c : Nat), (aqVals Q).set (i * 14 + 12) (.slice A n c) = aqVals (Q.set i ⟨(aqAt Q i).a, A, n, c⟩)
  | [], i, h, _, _, _ => by simp at h
  | x :: Q, 0, _, A, n, c => by
    show ([_, _, _, _, _, _, _, _, _, _, _, _, _, _] ++ aqVals Q).set 12 _ = _
    simp [aqVals, AQ.vals, aqAt]
  | x :: Q, i + 1, h, A, n, c => by
    have ih := aq_set Q i (by simpa using h) A n c
    have e : aqVals (x :: Q) = x.vals ++ aqVals Q := rfl
    have hx : x.vals.length = 14 := rfl
    rw [e, show (i + 1) * 14 + 12 = x.vals.length + (i * 14 + 12) from by omega, List.set_append_right _ _ (by omega), Nat.add_sub_cancel_left, ih]
    rfl
theorem aqVals_at (Q : List AQ) (i j : Nat) (hi : i < Q.length) (hj : j < 14) : (aqVals Q)[i * 14 + j]? = (aqAt Q i).vals[j]? := aqVals_get Q i j hi hj
set_option maxHeartbeats 4000000 in
theorem dclone_any (l : List MAct) (A : Option Addr) (n c : Nat) (w : World) (hr : RdActs w A n l) (hn : n ≤ 1048576) (hsz : ∀ a ∈ l, a.make.list.length ≤ 1048576) :
    Calls Tryz.prog 51 #[.agg #[.slice A n c]] w fun e w' => ∃ (A' : Option Addr) (c' : Nat), e = .returned (.agg #[.slice A' n c']) ∧ OnlyBy (fun k => w.heap.size ≤ k ∧ k < w'.heap.size) w' (fun W => RdActs W A' n l) ∧ Cln w w' := by
  have hlen := hr.len
  have hb0 := (Blk.new w 48 #[.slice A n c]).alloc (.cells #[.slice none 0 0] 48)
  have hb1 := Blk.new (w.alloc (.cells #[.slice A n c] 48)) 48 #[.slice none 0 0]
  have hcl0 : Cln w ((w.alloc (.cells #[.slice A n c] 48)).alloc (.cells #[.slice none 0 0] 48)) := by (repeat (first | (with_reducible exact Below.refl _ _) | (with_reducible assumption) | (with_reducible refine Below.setCell ?_ (by first | omega | (simp; done) | (simp; omega)) _) | (with_reducible refine Below.alloc ?_ (by first | omega | (simp; done) | (simp; omega)) _) | (with_reducible refine Below.drew ?_) | (with_reducible refine below_drewN ?_ _)))
  simp only [World.size_alloc] at hb1
  go_enter Tryz.func51, Tryz.ntmps51
  go_wp2_with fail
  refine (scloneA_any l A n c w _ hcl0 hr hn).mono ?_
  rintro e w1 ⟨A', c', q, rfl, hq, hown, hit, hcl1⟩
  replace hb0 := hb0.cln hcl1
  replace hb1 := hb1.cln hcl1
  simp only [World.size_alloc] at hown
  have hC1 := cln_trans hcl0 hcl1
  have c0 := hb0.cell; have f0 := hb0.frozen; have l0 := hb0.lt
  have hsz1 : w.heap.size + 1 + 1 ≤ w1.heap.size := by have := hcl1.size; simpa using this
  have hb0' := Lib.hid (hb0.set_ 0 (.slice A' n c'))
  have hb1' := Lib.hid (hb1.far (p := ⟨w.heap.size, 0, none⟩) (by simp) (.slice A' n c'))
  have hown' := Lib.hid (ownsRow_setCell_below hown (a := ⟨w.heap.size, 0, none⟩) (show w.heap.size < w.heap.size + 1 + 1 by omega) (.slice A' n c'))
  have hC1' := Lib.hid (((Kept.of_below (S := fun i => w.heap.size ≤ i) hC1).setCell (p := ⟨w.heap.size, 0, none⟩) (fun _ => Nat.le_refl _) (.slice A' n c')).toBelow (Nat.le_refl _) (fun i hi h => by omega))
  have hk0 := Lib.hid ((Kept.refl (fun i => i = w.heap.size) w1).setCell (p := ⟨w.heap.size, 0, none⟩) (fun _ => rfl) (.slice A' n c'))
  have hs1' := Lib.hid hsz1
  have hit0 := Lib.hid hit
  have hqH := Lib.hid hq
  have hql : q.length = n := by rw [← hlen, ← hq, List.length_map]
  clear hb0 hb1 hown hC1 hcl1 hcl0 hit hq
  go_wp2_with fail
  clear c0 f0 l0
  go_loopw [11] (fun v wr => ∃ (i : Nat) (Q : List AQ), i ≤ n ∧ v = .int .i64 (i : Nat) ∧ Hid (Q.map (·.a) = l) ∧ Hid (wr.ownsRow (w.heap.size + 1 + 1) 90 14 (.slice A' n c') n (aqVals Q)) ∧ Hid (Blk wr w.heap.size 48 #[.slice A' n c']) ∧ Hid (Blk wr (w.heap.size + 1) 48 #[.slice none 0 0]) ∧ Hid (Cln w wr) ∧ Hid (∀ x ∈ Q, x.a.WF) ∧
    Hid (∀ j, j < i → OnlyBy (fun k => w.heap.size + 1 + 1 ≤ k ∧ k < wr.heap.size ∧ (Value.slice A' n c').ownBlock ≠ some k) wr fun W => RdItems W (aqAt Q j).A (aqAt Q j).n (aqAt Q j).a.make.list) ∧ Hid (∀ j, i ≤ j → j < n → RdItems w (aqAt Q j).A (aqAt Q j).n (aqAt Q j).a.make.list)) (fun v _ => (n - intOf v).toNat)
  case atStart =>
    refine ⟨0, q, Nat.zero_le _, rfl, hqH, hown', hb0', hb1', hC1', fun x hx => (hit0.out x hx).1, fun j hj => by omega, fun j _ hj => ?_⟩
    have hm : aqAt q j ∈ q := by simp [aqAt, List.getD, show j < q.length by omega]
    exact (hit0.out _ hm).2
  case round =>
    clear hqH hown' hb0' hb1' hC1' hk0 hs1' hit0 hql
    obtain ⟨i, Q, hi, rfl, hQ, hO, hb0, hb1, hcl, hwf, hnew, hold⟩ := hrel
    have hql : Q.length = n := by rw [← hlen, ← hQ.out, List.length_map]
    have c0 := hb0.out.cell; have l0 := hb0.out.lt
    by_cases hlt : i < n
    · have t3 : decide ((i : Int) < (n : Int)) = true := decide_eq_true (by omega)
      have hcs := hO.out.2
      obtain ⟨g, cap, cur, hv, hgb, hgg, hncap, hcm, hcsz, htake⟩ : ∃ g cap cur, Value.slice A' n c' = .slice (some ⟨g, 0, none⟩) n cap ∧ w.heap.size + 1 + 1 ≤ g ∧ wr.heap[g]? = some (.cells cur 90 (0, 0)) ∧ n ≤ cap ∧ cap ≤ maxLen ∧ cur.size = cap * 14 ∧ cur.toList.take (n * 14) = aqVals Q := by
        rcases hcs with ⟨_, h0⟩ | h
        · omega
        · exact h
      injection hv with hv1 hv2 hv3
      subst hv1; subst hv3
      have hgB : Blk wr g 90 cur := hgg
      have hgl := hgB.lt
      have hgf := hgB.frozen
      have hat : ∀ k u, k < 14 → (aqAt Q i).vals[k]? = some u → wr.cell? ⟨g, i * 14 + k, none⟩ = some u := fun k u hk hu => by
        have h1 := aqVals_at Q i k (by omega) hk
        have h2 := hO.out.cells (g := g) rfl (i * 14 + k) u (h1.trans hu)
        have e : (⟨g, 0, none⟩ : Addr).add (i * 14 + k) = ⟨g, i * 14 + k, none⟩ := by unfold Addr.add; split <;> simp_all
        rwa [e] at h2
      have hgx := hold.out i (Nat.le_refl _) hlt
      have hmx : (aqAt Q i).a.make.list.length ≤ 1048576 := by
        have h1 : (aqAt Q i).a ∈ l := by rw [← hQ.out]; exact List.mem_map.2 ⟨_, by simp [aqAt, List.getD, hql, hlt], rfl⟩
        exact hsz _ h1
      have hxn : (aqAt Q i).n ≤ 1048576 := by rw [← hgx.len]; exact hmx
      have hsetH : Hid (∀ (A2 : Option Addr) (c2 : Nat), (aqVals Q).set (i * 14 + 12) (.slice A2 (aqAt Q i).n c2) = aqVals (Q.set i ⟨(aqAt Q i).a, A2, (aqAt Q i).n, c2⟩)) := fun A2 c2 => aq_set Q i (by omega) A2 _ c2
      have hvalH : Hid (∀ k, k < 14 → (aqVals Q)[i * 14 + k]? = (aqAt Q i).vals[k]?) := fun k hk => aqVals_at Q i k (by omega) hk
      have hgx' := Lib.hid hgx
      have hxe : Hid (∃ x, x = aqAt Q i) := ⟨_, rfl⟩
      obtain ⟨x, hxe⟩ := hxe.out
      rw [← hxe] at hat hgx' hxn hsetH hvalH
      have hxe' := Lib.hid hxe
      have cC : Calls Tryz.prog 91 #[.agg #[.int .i64 x.a.make.kind, .int .i64 x.a.make.num, .int .i64 x.a.make.low, .int .i64 x.a.make.high, .float .f64 x.a.make.real, .int .i64 x.a.make.cap, .string (str x.a.make.text), .slice x.A x.n x.c]] wr.drew fun e w5 => ∃ (A2 : Option Addr) (c2 : Nat), e = .returned (.agg #[.int .i64 x.a.make.kind, .int .i64 x.a.make.num, .int .i64 x.a.make.low, .int .i64 x.a.make.high, .float .f64 x.a.make.real, .int .i64 x.a.make.cap, .string (str x.a.make.text), .slice A2 x.n c2]) ∧ Hid (OnlyBy (fun k => wr.heap.size ≤ k ∧ k < w5.heap.size) w5 fun W => RdItems W A2 x.n x.a.make.list) ∧ Blk w5 w.heap.size 48 #[.slice (some ⟨g, 0, none⟩) n c'] ∧ Blk w5 g 90 cur ∧ Hid (Cln wr w5) := by
        refine (clone_any x.a.make x.A x.n x.c wr.drew ((hgx'.out.cln hcl.out).cln (Below.drew (Below.refl _ _))) hxn).mono ?_
        rintro e w5 ⟨A2, c2, rfl, hown2, hq2⟩
        have hq3 : Cln wr w5 := cln_trans (Below.drew (Below.refl _ _)) hq2
        have hr2 := own_items hown2 (fun j => hgx'.out.wf j)
        exact ⟨A2, c2, rfl, hr2.only (fun ad e => by
          obtain ⟨A3, c3, hv, hA3, _⟩ := own_form hown2
          injection hv with h1 h2 h3
          have h5 := (hA3 ad (h1 ▸ e)).2.2.1
          have h6 : wr.drew.heap.size = wr.heap.size := rfl
          omega), hb0.out.cln hq3, hgB.cln hq3, hq3⟩
      have ig1 : (0 : Int) ≤ (i : Int) := by omega
      have ig2 : (i : Int) < (n : Int) := by omega
      have r5 : wr.cell? ⟨g, i * 14 + 5, none⟩ = some (.int .i64 x.a.make.kind) := hat 5 _ (by decide) rfl
      have r6 : wr.cell? ⟨g, i * 14 + 6, none⟩ = some (.int .i64 x.a.make.num) := hat 6 _ (by decide) rfl
      have r7 : wr.cell? ⟨g, i * 14 + 7, none⟩ = some (.int .i64 x.a.make.low) := hat 7 _ (by decide) rfl
      have r8 : wr.cell? ⟨g, i * 14 + 8, none⟩ = some (.int .i64 x.a.make.high) := hat 8 _ (by decide) rfl
      have r9 : wr.cell? ⟨g, i * 14 + 9, none⟩ = some (.float .f64 x.a.make.real) := hat 9 _ (by decide) rfl
      have r10 : wr.cell? ⟨g, i * 14 + 10, none⟩ = some (.int .i64 x.a.make.cap) := hat 10 _ (by decide) rfl
      have r11 : wr.cell? ⟨g, i * 14 + 11, none⟩ = some (.string (str x.a.make.text)) := hat 11 _ (by decide) rfl
      have r12 : wr.cell? ⟨g, i * 14 + 12, none⟩ = some (.slice x.A x.n x.c) := hat 12 _ (by decide) rfl
      clear hgx hmx hxe hcs hat hgx'
      go_wp2_with fail
      go_region_law (go_simp; go_at_call 91; with_reducible refine cC.mono ?_; rintro e w5 ⟨A2, c2, rfl, hfr, hb5, hg5, hq5⟩; have c5 := hb5.cell; have l5 := hb5.lt; have gl5 := hg5.lt; have gf5 := hg5.frozen; have s5 : w5.cell? ⟨g, i * 14 + 5, none⟩ = some (.int .i64 x.a.make.kind) := (Kept.of_below (S := fun _ => False) hq5.out).cell r5 id; have s6 : w5.cell? ⟨g, i * 14 + 5 + 1, none⟩ = some (.int .i64 x.a.make.num) := (Kept.of_below (S := fun _ => False) hq5.out).cell r6 id; have s7 : w5.cell? ⟨g, i * 14 + 5 + 2, none⟩ = some (.int .i64 x.a.make.low) := (Kept.of_below (S := fun _ => False) hq5.out).cell r7 id; have s8 : w5.cell? ⟨g, i * 14 + 5 + 3, none⟩ = some (.int .i64 x.a.make.high) := (Kept.of_below (S := fun _ => False) hq5.out).cell r8 id; have s9 : w5.cell? ⟨g, i * 14 + 5 + 4, none⟩ = some (.float .f64 x.a.make.real) := (Kept.of_below (S := fun _ => False) hq5.out).cell r9 id; have s10 : w5.cell? ⟨g, i * 14 + 5 + 5, none⟩ = some (.int .i64 x.a.make.cap) := (Kept.of_below (S := fun _ => False) hq5.out).cell r10 id; have s11 : w5.cell? ⟨g, i * 14 + 5 + 6, none⟩ = some (.string (str x.a.make.text)) := (Kept.of_below (S := fun _ => False) hq5.out).cell r11 id; have s12 : w5.cell? ⟨g, i * 14 + 5 + 7, none⟩ = some (.slice x.A x.n x.c) := (Kept.of_below (S := fun _ => False) hq5.out).cell r12 id)
      all_goals
        have hO5 := own_same hO.out (fun k hk => hq5.out.block k (own_ge hO.out k hk).2)
        have hvv : ∀ k, k < 14 → (aqVals Q)[i * 14 + k]? = x.vals[k]? := hvalH.out
        have hO9 : Hid (((((((((w5.setCell ⟨g, i * 14 + 5, none⟩ (.int .i64 x.a.make.kind)).setCell ⟨g, i * 14 + 5 + 1, none⟩ (.int .i64 x.a.make.num)).setCell ⟨g, i * 14 + 5 + 2, none⟩ (.int .i64 x.a.make.low)).setCell ⟨g, i * 14 + 5 + 3, none⟩ (.int .i64 x.a.make.high)).setCell ⟨g, i * 14 + 5 + 4, none⟩ (.float .f64 x.a.make.real)).setCell ⟨g, i * 14 + 5 + 5, none⟩ (.int .i64 x.a.make.cap)).setCell ⟨g, i * 14 + 5 + 6, none⟩ (.string (str x.a.make.text))).setCell ⟨g, i * 14 + 5 + 7, none⟩ (.slice A2 x.n c2)).ownsRow (w.heap.size + 1 + 1) 90 14 (.slice (some ⟨g, 0, none⟩) n c') n (aqVals (Q.set i ⟨x.a, A2, x.n, c2⟩))) := by
          have e5 := own_set hO5 (j := i * 14 + 5) (by omega) (.int .i64 x.a.make.kind)
          rw [set_same (show (aqVals Q)[i * 14 + 5]? = _ from hvv 5 (by decide))] at e5
          have e6 := own_set e5 (j := i * 14 + 5 + 1) (by omega) (.int .i64 x.a.make.num)
          rw [set_same (show (aqVals Q)[i * 14 + 5 + 1]? = _ from hvv 6 (by decide))] at e6
          have e7 := own_set e6 (j := i * 14 + 5 + 2) (by omega) (.int .i64 x.a.make.low)
          rw [set_same (show (aqVals Q)[i * 14 + 5 + 2]? = _ from hvv 7 (by decide))] at e7
          have e8 := own_set e7 (j := i * 14 + 5 + 3) (by omega) (.int .i64 x.a.make.high)
          rw [set_same (show (aqVals Q)[i * 14 + 5 + 3]? = _ from hvv 8 (by decide))] at e8
          have e9 := own_set e8 (j := i * 14 + 5 + 4) (by omega) (.float .f64 x.a.make.real)
          rw [set_same (show (aqVals Q)[i * 14 + 5 + 4]? = _ from hvv 9 (by decide))] at e9
          have e10 := own_set e9 (j := i * 14 + 5 + 5) (by omega) (.int .i64 x.a.make.cap)
          rw [set_same (show (aqVals Q)[i * 14 + 5 + 5]? = _ from hvv 10 (by decide))] at e10
          have e11 := own_set e10 (j := i * 14 + 5 + 6) (by omega) (.string (str x.a.make.text))
          rw [set_same (show (aqVals Q)[i * 14 + 5 + 6]? = _ from hvv 11 (by decide))] at e11
          have e12 := own_set e11 (j := i * 14 + 5 + 7) (by omega) (.slice A2 x.n c2)
          have e13 := hsetH.out A2 c2
          rw [show i * 14 + 12 = i * 14 + 5 + 7 from rfl] at e13
          rw [e13] at e12
          exact e12
        have hKg : Hid (Kept (fun k => k = g) w5 ((((((((w5.setCell ⟨g, i * 14 + 5, none⟩ (.int .i64 x.a.make.kind)).setCell ⟨g, i * 14 + 5 + 1, none⟩ (.int .i64 x.a.make.num)).setCell ⟨g, i * 14 + 5 + 2, none⟩ (.int .i64 x.a.make.low)).setCell ⟨g, i * 14 + 5 + 3, none⟩ (.int .i64 x.a.make.high)).setCell ⟨g, i * 14 + 5 + 4, none⟩ (.float .f64 x.a.make.real)).setCell ⟨g, i * 14 + 5 + 5, none⟩ (.int .i64 x.a.make.cap)).setCell ⟨g, i * 14 + 5 + 6, none⟩ (.string (str x.a.make.text))).setCell ⟨g, i * 14 + 5 + 7, none⟩ (.slice A2 x.n c2))) := by
          unfold Hid
          iterate 8 refine Kept.setCell (S := fun k => k = g) ?_ (fun _ => rfl) _
          exact Kept.refl _ _
        have hb9 := Lib.hid (hb5.kept hKg.out (show ¬ w.heap.size = g by omega))
        have hb19 := Lib.hid ((hb1.out.cln hq5.out).kept hKg.out (show ¬ w.heap.size + 1 = g by omega))
        have hcl9 : Hid (Cln w ((((((((w5.setCell ⟨g, i * 14 + 5, none⟩ (.int .i64 x.a.make.kind)).setCell ⟨g, i * 14 + 5 + 1, none⟩ (.int .i64 x.a.make.num)).setCell ⟨g, i * 14 + 5 + 2, none⟩ (.int .i64 x.a.make.low)).setCell ⟨g, i * 14 + 5 + 3, none⟩ (.int .i64 x.a.make.high)).setCell ⟨g, i * 14 + 5 + 4, none⟩ (.float .f64 x.a.make.real)).setCell ⟨g, i * 14 + 5 + 5, none⟩ (.int .i64 x.a.make.cap)).setCell ⟨g, i * 14 + 5 + 6, none⟩ (.string (str x.a.make.text))).setCell ⟨g, i * 14 + 5 + 7, none⟩ (.slice A2 x.n c2))) := ((Kept.of_below (S := fun k => k = g) (cln_trans hcl.out hq5.out)).trans hKg.out).toBelow (Nat.le_refl _) (fun k hk e => by have e : k = g := e; omega)
        have hsz9 : wr.heap.size ≤ ((((((((w5.setCell ⟨g, i * 14 + 5, none⟩ (.int .i64 x.a.make.kind)).setCell ⟨g, i * 14 + 5 + 1, none⟩ (.int .i64 x.a.make.num)).setCell ⟨g, i * 14 + 5 + 2, none⟩ (.int .i64 x.a.make.low)).setCell ⟨g, i * 14 + 5 + 3, none⟩ (.int .i64 x.a.make.high)).setCell ⟨g, i * 14 + 5 + 4, none⟩ (.float .f64 x.a.make.real)).setCell ⟨g, i * 14 + 5 + 5, none⟩ (.int .i64 x.a.make.cap)).setCell ⟨g, i * 14 + 5 + 6, none⟩ (.string (str x.a.make.text))).setCell ⟨g, i * 14 + 5 + 7, none⟩ (.slice A2 x.n c2)).heap.size := Nat.le_trans hq5.out.size hKg.out.size
        have hset : ∀ j, aqAt (Q.set i ⟨x.a, A2, x.n, c2⟩) j = if j = i then ⟨x.a, A2, x.n, c2⟩ else aqAt Q j := fun j => by
          simp only [aqAt, List.getD_eq_getElem?_getD, List.getElem?_set]
          by_cases hji : j = i
          · subst hji; simp [show j < Q.length by omega]
          · rw [if_neg (fun e => hji e.symm), if_neg hji]
        have hx0 : aqAt Q i = x := hxe'.out.symm
        have hQ9 : Hid ((Q.set i ⟨x.a, A2, x.n, c2⟩).map (·.a) = l) := by
          unfold Hid
          rw [List.map_set, ← hQ.out]
          refine set_same ?_
          rw [List.getElem?_map]
          have : Q[i]? = some x := by rw [← hx0]; simp [aqAt, List.getD, show i < Q.length by omega]
          rw [this]; rfl
        have hwf9 : Hid (∀ y ∈ Q.set i ⟨x.a, A2, x.n, c2⟩, y.a.WF) := fun y hy => by
          rcases List.mem_or_eq_of_mem_set hy with h | h
          · exact hwf.out y h
          · subst h
            exact hwf.out x (by rw [← hx0]; simp [aqAt, List.getD, show i < Q.length by omega])
        have hnew9 : Hid (∀ j, j < i + 1 → OnlyBy (fun k => w.heap.size + 1 + 1 ≤ k ∧ k < ((((((((w5.setCell ⟨g, i * 14 + 5, none⟩ (.int .i64 x.a.make.kind)).setCell ⟨g, i * 14 + 5 + 1, none⟩ (.int .i64 x.a.make.num)).setCell ⟨g, i * 14 + 5 + 2, none⟩ (.int .i64 x.a.make.low)).setCell ⟨g, i * 14 + 5 + 3, none⟩ (.int .i64 x.a.make.high)).setCell ⟨g, i * 14 + 5 + 4, none⟩ (.float .f64 x.a.make.real)).setCell ⟨g, i * 14 + 5 + 5, none⟩ (.int .i64 x.a.make.cap)).setCell ⟨g, i * 14 + 5 + 6, none⟩ (.string (str x.a.make.text))).setCell ⟨g, i * 14 + 5 + 7, none⟩ (.slice A2 x.n c2)).heap.size ∧ (Value.slice (some ⟨g, 0, none⟩) n c').ownBlock ≠ some k) ((((((((w5.setCell ⟨g, i * 14 + 5, none⟩ (.int .i64 x.a.make.kind)).setCell ⟨g, i * 14 + 5 + 1, none⟩ (.int .i64 x.a.make.num)).setCell ⟨g, i * 14 + 5 + 2, none⟩ (.int .i64 x.a.make.low)).setCell ⟨g, i * 14 + 5 + 3, none⟩ (.int .i64 x.a.make.high)).setCell ⟨g, i * 14 + 5 + 4, none⟩ (.float .f64 x.a.make.real)).setCell ⟨g, i * 14 + 5 + 5, none⟩ (.int .i64 x.a.make.cap)).setCell ⟨g, i * 14 + 5 + 6, none⟩ (.string (str x.a.make.text))).setCell ⟨g, i * 14 + 5 + 7, none⟩ (.slice A2 x.n c2)) fun W => RdItems W (aqAt (Q.set i ⟨x.a, A2, x.n, c2⟩) j).A (aqAt (Q.set i ⟨x.a, A2, x.n, c2⟩) j).n (aqAt (Q.set i ⟨x.a, A2, x.n, c2⟩) j).a.make.list) := fun j hj => by
          rw [hset j]
          by_cases hji : j = i
          · rw [if_pos hji]
            refine hfr.out.to (fun k hk => hKg.out.block k hk.2 (fun e => by have e : k = g := e; have := hk.1; omega)) (fun k hk => ⟨?_, Nat.lt_of_lt_of_le hk.2 hKg.out.size, ?_⟩)
            · have := hb1.out.lt; have := hk.1; omega
            · intro e; have e : g = k := by injection e
              have := hk.1; omega
          · rw [if_neg hji]
            have h1 := hnew.out j (by omega)
            refine h1.to (fun k hk => (hKg.out.block k (Nat.lt_of_lt_of_le hk.2.1 hq5.out.size) (fun e => hk.2.2 (by have e : k = g := e; rw [e]; rfl))).trans (hq5.out.block k hk.2.1)) (fun k hk => ⟨hk.1, Nat.lt_of_lt_of_le hk.2.1 hsz9, hk.2.2⟩)
        have hold9 : Hid (∀ j, i + 1 ≤ j → j < n → RdItems w (aqAt (Q.set i ⟨x.a, A2, x.n, c2⟩) j).A (aqAt (Q.set i ⟨x.a, A2, x.n, c2⟩) j).n (aqAt (Q.set i ⟨x.a, A2, x.n, c2⟩) j).a.make.list) := fun j h1 h2 => by
          rw [hset j, if_neg (by omega)]
          exact hold.out j (by omega) h2
        clear hO5 hvv hset hx0 hO hb0 hb1 hcl hQ hwf hnew hold hxe' hsetH hvalH hfr hb5 hg5 hq5 hsz9 r5 r6 r7 r8 r9 r10 r11 r12 s5 s6 s7 s8 s9 s10 s11 s12 c5 l5 gl5 gf5
        go_wp2_with fail
        go_roundw
        case rel => exact ⟨i + 1, _, hlt, by go_num, hQ9, hO9, hb9, hb19, hcl9, hwf9, hnew9, hold9⟩
        case measure => simp [intOf]; omega
    · obtain rfl : i = n := by omega
      have t3 : decide ((i : Int) < (i : Int)) = false := decide_eq_false (by omega)
      have c1 := hb1.out.cell; have l1 := hb1.out.lt; have f1 := hb1.out.frozen
      have s1 : (Tryz.prog.info? 48).map (·.size) = some 1 := by kernel_rfl
      go_wp2_with fail
      have hset := keptSet wr (w.heap.size + 1) 0 (.slice A' i c')
      refine bodyPost_ret (v := .agg #[.slice A' i c']) ?_ rfl ⟨A', c', rfl, ?_, ?_⟩
      · refine results_cell_row Tryz.results51 _ _ (w.heap.size + 1) 48 #[.slice A' i c'] (0, 0) _ ?_ ?_ Tryz.underlying48 ?_ ?_
        · rfl
        · exact hb1.out.set_ 0 (.slice A' i c')
        · rfl
        · exact s1
      · intro W hW
        have hown9 := own_same hO.out (w' := W) (fun k hk => by
          have h2 := own_ge hO.out k hk
          rw [hW k ⟨by omega, Nat.lt_of_lt_of_le h2.2 hset.size⟩]
          exact hset.block k h2.2 (fun e => by have e : k = w.heap.size + 1 := e; omega))
        have hr9 := own_acts hown9 (fun x hx => ⟨hwf.out x hx, by
          obtain ⟨j, hj, rfl⟩ := List.getElem_of_mem hx
          have h3 := hnew.out j (by omega)
          have e : aqAt Q j = Q[j] := by simp [aqAt, List.getD, hj]
          rw [e] at h3
          exact h3 W fun k hk => by
            rw [hW k ⟨by omega, Nat.lt_of_lt_of_le hk.2.1 hset.size⟩]
            exact hset.block k hk.2.1 (fun e => by have e : k = w.heap.size + 1 := e; omega)⟩)
        rw [hQ.out] at hr9
        exact hr9
      · exact ((Kept.of_below (S := fun k => k = w.heap.size + 1) hcl.out).trans hset).toBelow (Nat.le_refl _) (fun k hk e => by have e : k = w.heap.size + 1 := e; omega)
end Go.Proofs.YtoeoodiifpoomaaGreatDoor
