/- The walks of slices.Clip over deals, lot.Cut and the document's Many. (Printed by wip/tools/gen_cut.py.) -/
import Derived.Test.YtoeoodiifpoomaaGreatDoorCut
import Derived.Test.YtoeoodiifpoomaaGreatDoorWLot3
import Derived.Test.YtoeoodiifpoomaaGreatDoorWClone
import Derived.Deep.RegionLaw
import Derived.Deep.RegionLawGrows
set_option linter.unusedSimpArgs false
set_option linter.unusedVariables false
set_option maxRecDepth 20000
namespace Go.Proofs.YtoeoodiifpoomaaGreatDoor
open Go.RowKit Moi
attribute [local go_sem] toList_str str_size less_ltB store_float
theorem size_drew_ (W : World) : W.drew.heap.size = W.heap.size := rfl
theorem clip_any (A : Option Addr) (n c : Nat) (hnc : n ≤ c) (hA : A = none → n = 0 ∧ c = 0) (w : World) :
    Calls Tryz.prog 65 #[.slice A n c] w fun e w' => e = .returned (.slice A n n) ∧ Cln w w' := by
  rcases A with _ | ad
  · obtain ⟨rfl, rfl⟩ := hA rfl
    go_enter Tryz.func65, Tryz.ntmps65
    go_wp2_with fail
    go_ret
    exact ⟨rfl, Below.refl _ _⟩
  · have t1 : (n : Int) ≤ (c : Int) := by omega
    go_enter Tryz.func65, Tryz.ntmps65
    go_wp2_with fail
    go_ret
    exact ⟨rfl, Below.refl _ _⟩
set_option maxHeartbeats 4000000 in
theorem rmany_any (num : Int) (l : List (List MAct)) (A : Option Addr) (n c : Nat) (hnc : n ≤ c) (hn : n ≤ 1048576) (hmod : Mod l) (w : World) (hK : KindsAt w) (hr : RdDeals w A n l) :
    Calls Tryz.prog 24 #[.int .i64 num, .slice A n c] w fun e w' => e = .returned (.int .i64 (many num l : Nat)) ∧ Cln w w' := by
  have hlen := hr.len
  have hS0 : Hid (many num l = manyGo num l (n - 0) 0) := by unfold Hid many; rw [hlen]; rfl
  go_enter Tryz.func24, Tryz.ntmps24
  go_wp2_with fail
  go_loopw [5] (fun v wr => ∃ i : Nat, i ≤ n ∧ v = .int .i64 (i : Nat) ∧ Hid (Cln w wr) ∧ Hid (many num l = manyGo num l (n - i) i)) (fun v _ => (n - intOf v).toNat)
  case atStart => exact ⟨0, Nat.zero_le _, rfl, Below.refl _ _, hS0⟩
  case round =>
    clear hS0
    obtain ⟨i, hi, rfl, hcl, hH⟩ := hrel
    by_cases hlt : i < n
    · have t3 : decide ((i : Int) < (n : Int)) = true := decide_eq_true (by omega)
      obtain ⟨b, o, rfl, hblt, _⟩ := hr.rows (by omega)
      have hstep := Lib.hid (hH.out.trans (manyGo_step hlt))
      have hrt := Lib.hid ((hr.cln hcl.out).take (i + 1) (by omega))
      have i1 : (0 : Int) ≤ (i : Int) + 1 := by omega
      have i2 : (i : Int) + 1 ≤ (c : Int) := by omega
      have i3 : IntKind.i64.wrap ((i : Int) + 1) = ((i + 1 : Nat) : Int) := by rw [IntWalk.i64_in _ (by omega)]; rfl
      clear hH
      go_wp2_with fail
      refine (rlcheck_any ⟨num, l.take (i + 1)⟩ (some ⟨b, o, none⟩) (i + 1) c (hmod.take _) wr (hK.cln hcl.out) hrt.out).mono ?_
      rintro e w3 ⟨rfl, hq⟩
      have hcl3 := Lib.hid (cln_trans hcl.out hq)
      clear hq hcl hrt
      by_cases hca : (checkLot ⟨num, l.take (i + 1)⟩).1 = 0
      · have t5 : ((((checkLot ⟨num, l.take (i + 1)⟩).1 : Nat) : Int) != 0) = false := by rw [hca]; rfl
        have hst : Hid (many num l = manyGo num l (n - (i + 1)) (i + 1)) := by unfold Hid; rw [hstep.out, if_pos hca]
        replace hca := Lib.hid hca
        go_wp2_with fail
        go_roundw
        case rel => exact ⟨i + 1, hlt, by go_num, hcl3, hst⟩
        case measure => simp [intOf]; omega
      · have t5 : ((((checkLot ⟨num, l.take (i + 1)⟩).1 : Nat) : Int) != 0) = true := by rw [bne_iff_ne]; omega
        have hst : Hid (many num l = i) := by unfold Hid; rw [hstep.out, if_neg hca]
        go_wp2_with fail
        go_ret
        exact ⟨by rw [hst.out]; rfl, hcl3.out⟩
    · obtain rfl : i = n := by omega
      have t3 : decide ((i : Int) < (i : Int)) = false := decide_eq_false (by omega)
      have hst : Hid (many num l = i) := by unfold Hid; rw [hH.out, Nat.sub_self]; rfl
      go_wp2_with fail
      go_ret
      exact ⟨by rw [hst.out]; rfl, hcl.out⟩
theorem results_ct {P : Program} {fn : Func} {p p' : Tmp} {ty : TypeId} (h : fn.results = #[.cell p ty, .tmp p']) (tmps : Array Value) (w : World) (g : Nat) (t : TypeId) (cs : Array Value) (fr : Nat × Nat) (d : TypeDesc)
    (hp : tmps.getD p undef = .pointer (some ⟨g, 0, none⟩)) (hg : w.heap[g]? = some (.cells cs t fr))
    (hu : P.underlying ty = some d) (hd : (match d with | .struct _ | .array _ _ => true | _ => false) = true) (hi : (P.info? ty).map (·.size) = some cs.size) :
    (results fn tmps).run P w = .ok (.tuple #[.agg cs, tmps.getD p' undef]) w := by
  have h1 : tmps[p]?.getD undef = .pointer (some ⟨g, 0, none⟩) := by simpa using hp
  simp [results, h, h1, asAddr, run_loadVar_row w g t ty cs fr d hg hu hd hi]
set_option maxHeartbeats 8000000 in
theorem cut_any (num : Int) (l : List (List MAct)) (A : Option Addr) (n c : Nat) (hnc : n ≤ c) (hAc : A = none → c = 0) (hn : n ≤ 1048576) (hmod : Mod l) (hacts : ∀ d ∈ l, d.length ≤ 1048576 ∧ ∀ a ∈ d, a.make.list.length ≤ 1048576) (w : World) (hK : KindsAt w) (hr : RdDeals w A n l) :
    Calls Tryz.prog 23 #[.int .i64 num, .slice A n c] w fun e w' => ∃ (A1 A2 : Option Addr) (n1 c1 n2 c2 : Nat), e = .returned (.tuple #[.agg #[.int .i64 num, .slice A1 n1 c1], .slice A2 n2 c2]) ∧ n1 = many num l ∧ n2 = n - many num l ∧ n1 ≤ c1 ∧ n2 ≤ c2 ∧ RdDeals w' A1 n1 (l.take n1) ∧ RdDeals w' A2 n2 (l.drop n1) ∧ Cln w w' := by
  have hlen := hr.len
  have hS0 : Hid (many num l = manyGo num l (n - 0) 0) := by unfold Hid many; rw [hlen]; rfl
  have hb0 := (Blk.new w 24 #[.int .i64 0, .slice none 0 0]).alloc (.cells #[.int .i64 num, .slice none 0 0] 24)
  have hb1 := Blk.new (w.alloc (.cells #[.int .i64 0, .slice none 0 0] 24)) 24 #[.int .i64 num, .slice none 0 0]
  have hcl0 : Hid (Cln w ((w.alloc (.cells #[.int .i64 0, .slice none 0 0] 24)).alloc (.cells #[.int .i64 num, .slice none 0 0] 24))) := by unfold Hid; (repeat (first | (with_reducible exact Below.refl _ _) | (with_reducible assumption) | (with_reducible refine Below.setCell ?_ (by first | omega | (simp; done) | (simp; omega)) _) | (with_reducible refine Below.alloc ?_ (by first | omega | (simp; done) | (simp; omega)) _) | (with_reducible refine Below.drew ?_) | (with_reducible refine below_drewN ?_ _)))
  simp only [World.size_alloc] at hb1
  replace hb0 := Lib.hid hb0; replace hb1 := Lib.hid hb1
  go_enter Tryz.func23, Tryz.ntmps23
  go_wp2_with fail
  rename_i KA hKA
  have hJ : ∀ (s2 s3 s7 s8 s9 s10 s11 s12 s13 s14 s15 s16 s17 s18 s19 s20 s21 s22 s23 s24 s25 s26 s27 s28 s29 s30 s31 s32 s33 s34 s35 s36 s37 s38 s39 s40 s41 s42 s43 s44 s45 s46 s47 s48 s49 s50 s51 s52 s53 s54 s55 s56 s57 s58 : Value) (m : Nat) (acc : List DQ) (A' : Option Addr) (c' : Nat) (W : World), Hid (m = many num l) → Hid (OwnDeals W (w.heap.size + 1 + 1) (.slice A' m c') m acc) → Hid (acc.map (·.d) = l.take m) → Hid (Blk W w.heap.size 24 #[.int .i64 0, .slice none 0 0]) → Hid (Blk W (w.heap.size + 1) 24 #[.int .i64 num, .slice A' m c']) → Hid (Cln w W) →
      KA { tmps := #[.int .i64 num, .slice A n c, s2, s3, .pointer (some ⟨w.heap.size, 0, none⟩), .slice none 0 0, .pointer (some ⟨w.heap.size + 1, 0, none⟩), s7, s8, s9, s10, s11, s12, s13, s14, s15, s16, s17, s18, s19, s20, s21, s22, s23, s24, s25, s26, s27, s28, s29, s30, s31, s32, s33, s34, s35, s36, s37, s38, s39, s40, s41, s42, s43, s44, s45, s46, s47, s48, s49, s50, s51, s52, s53, s54, s55, s56, s57, s58], defers := [] } W := by
    intro s2 s3 s7 s8 s9 s10 s11 s12 s13 s14 s15 s16 s17 s18 s19 s20 s21 s22 s23 s24 s25 s26 s27 s28 s29 s30 s31 s32 s33 s34 s35 s36 s37 s38 s39 s40 s41 s42 s43 s44 s45 s46 s47 s48 s49 s50 s51 s52 s53 s54 s55 s56 s57 s58 m acc A' c' W hm hO hacc hb0 hb1 hcl
    refine hKA _ _ ?_
    clear hKA hS0 hcl0
    have c1 := hb1.out.cell; have l1 := hb1.out.lt
    have hml : m ≤ n := by rw [hm.out, ← hlen]; exact many_le _ _
    have i1 : (0 : Int) ≤ (m : Int) := by omega
    have i2 : (m : Int) ≤ (n : Int) := by omega
    have i3 : (m : Int) ≤ (c : Int) := by omega
    have hsW : w.heap.size + 1 < W.heap.size := hb1.out.lt
    have i4 : ((n : Int) - (m : Int)) = ((n - m : Nat) : Int) := by omega
    have hEnd : ∀ (A2 : Option Addr) (c2 : Nat) (acc2 : List DQ) (W2 : World) (tm : Array Value), OwnDeals W2 W.heap.size (.slice A2 (n - m) c2) (n - m) acc2 → acc2.map (·.d) = l.drop m → Cln W W2 → tm.getD 4 undef = .pointer (some ⟨w.heap.size, 0, none⟩) → tm.getD 5 undef = .slice A2 (n - m) c2 →
        bodyPost Tryz.prog Tryz.f23 (fun e w' => ∃ (A1 A2 : Option Addr) (n1 c1 n2 c2 : Nat), e = .returned (.tuple #[.agg #[.int .i64 num, .slice A1 n1 c1], .slice A2 n2 c2]) ∧ n1 = many num l ∧ n2 = n - many num l ∧ n1 ≤ c1 ∧ n2 ≤ c2 ∧ RdDeals w' A1 n1 (l.take n1) ∧ RdDeals w' A2 n2 (l.drop n1) ∧ Cln w w') .ret { tmps := tm, defers := [] } ((W2.setCell ⟨w.heap.size, 0, none⟩ (.int .i64 num)).setCell ⟨w.heap.size, 1, none⟩ (.slice A' m c')) := by
      intro A2 c2 acc2 W2 tm hO2 hacc2 hcl2 ht4 ht5
      have s1 : (Tryz.prog.info? 24).map (·.size) = some 2 := by kernel_rfl
      have hk2 : Kept (fun k => k = w.heap.size) W2 ((W2.setCell ⟨w.heap.size, 0, none⟩ (.int .i64 num)).setCell ⟨w.heap.size, 1, none⟩ (.slice A' m c')) := ((Kept.refl (fun k => k = w.heap.size) W2).setCell (p := ⟨w.heap.size, 0, none⟩) (fun _ => rfl) _).setCell (p := ⟨w.heap.size, 1, none⟩) (fun _ => rfl) _
      have hb9 := (hb0.out.cln hcl2).store2 (v0 := .int .i64 num) (v1 := .slice A' m c')
      have hr1 := OwnDeals.rd (OwnQ.kept (OwnQ.cln hO.out hcl2) hk2 (fun k hk _ e => by have e : k = w.heap.size := e; omega))
      have hr2 := OwnDeals.rd (OwnQ.kept hO2 hk2 (fun k hk _ e => by have e : k = w.heap.size := e; omega))
      rw [hacc.out] at hr1
      rw [hacc2] at hr2
      have hres := results_ct Tryz.results23 tm _ w.heap.size 24 _ (0, 0) _ ht4 hb9 Tryz.underlying24 rfl s1
      rw [ht5] at hres
      refine bodyPost_ret hres rfl ⟨A', A2, m, c', n - m, c2, rfl, hm.out, by rw [← hm.out], own_cap hO.out.own, own_cap hO2.own, hr1, hr2, ?_⟩
      exact ((Kept.of_below (S := fun k => k = w.heap.size) (cln_trans hcl.out hcl2)).trans hk2).toBelow (Nat.le_refl _) (fun k hk e => by have e : k = w.heap.size := e; omega)
    have hEnd := Lib.hid hEnd
    have hb0H := hb0; have hb1H := hb1
    by_cases hmc : m = c
    · subst hmc
      have hnm : n - m = 0 := by omega
      have hdn : Hid (l.drop m = []) := by unfold Hid; rw [List.drop_eq_nil_iff]; omega
      have j1 : ((m : Int) - (m : Int)) = 0 := by omega
      have j2 : ((n : Int) - (m : Int)) = 0 := by omega
      replace hnm := Lib.hid hnm
      have f0 := hb0.out.frozen; have c0 := hb0.out.cell; have l0 := hb0.out.lt
      go_wp2_with fail
      go_loopw [47, 12] (fun v v12 wr => v = .int .i64 0 ∧ v12 = .slice none 0 0 ∧ wr = W) (fun _ _ _ => 0)
      case atStart => exact ⟨rfl, rfl, rfl⟩
      case round =>
        obtain ⟨rfl, rfl, rfl⟩ := hrel
        go_wp2_with fail
        refine hEnd.out none 0 [] _ _ (by rw [hnm.out]; exact OwnQ.nil _ _ _ _ _ _) hdn.out.symm (Below.refl _ _) ?_ ?_
        · rfl
        · rw [hnm.out]; rfl
    · by_cases hnz : n = 0
      · rcases A with _ | ad
        · exact absurd (hAc rfl) (by omega)
        obtain ⟨b, o, sp⟩ := ad
        have j2 : ¬ (c : Int) - (m : Int) = 0 := by omega
        have f0 := hb0.out.frozen; have c0 := hb0.out.cell; have l0 := hb0.out.lt
        have hnm : Hid (n - m = 0) := by unfold Hid; omega
        have hdn : Hid (l.drop m = []) := by unfold Hid; rw [List.drop_eq_nil_iff]; omega
        have hnzH := Lib.hid hnz
        clear hnz
        go_wp2_with fail
        go_loopw [47, 12] (fun v v12 wr => v = .int .i64 0 ∧ v12 = .slice none 0 0 ∧ wr = W) (fun _ _ _ => 0)
        case atStart => exact ⟨rfl, rfl, rfl⟩
        case round =>
          obtain ⟨rfl, rfl, rfl⟩ := hrel
          have t3 : decide ((0 : Int) < ((n - m : Nat) : Int)) = false := decide_eq_false (by have := hnm.out; omega)
          have t4 : decide (0 < n - m) = false := decide_eq_false (by have := hnm.out; omega)
          go_wp2_with fail
          refine hEnd.out none 0 [] _ _ (by rw [hnm.out]; exact OwnQ.nil _ _ _ _ _ _) hdn.out.symm (Below.refl _ _) ?_ ?_
          · rfl
          · rw [hnm.out]; rfl
      obtain ⟨b, o, rfl, hblt, hcell⟩ := hr.rows (by omega)
      have j2 : ¬ (c : Int) - (m : Int) = 0 := by omega
      have f0 := hb0.out.frozen; have c0 := hb0.out.cell; have l0 := hb0.out.lt
      replace hcell := Lib.hid hcell
      have hC0 : Hid (Cln w W) := hcl
      go_wp2_with fail
      clear f0 c0 l0 c1 l1
      go_loopw [47, 12] (fun v v12 wr => ∃ (j : Nat) (acc2 : List DQ) (A2 : Option Addr) (c2 : Nat), j ≤ n - m ∧ v = .int .i64 (j : Nat) ∧ v12 = .slice A2 j c2 ∧ Hid (OwnDeals wr W.heap.size (.slice A2 j c2) j acc2) ∧ Hid (acc2.map (·.d) = (l.drop m).take j) ∧ Hid (Cln W wr)) (fun v _ _ => (n - m - intOf v).toNat)
      case atStart => exact ⟨0, [], none, 0, Nat.zero_le _, rfl, rfl, OwnQ.nil _ _ _ _ _ _, rfl, Below.refl _ _⟩
      case round =>
        obtain ⟨j, acc2, A2, c2, hj, rfl, rfl, hO2, hacc2, hcl2⟩ := hrel
        by_cases hlt : j < n - m
        · have t3 : decide ((j : Int) < ((n - m : Nat) : Int)) = true := decide_eq_true (by omega)
          obtain ⟨Ai, ni, ci, hc0⟩ := hcell.out (m + j) (by omega)
          have hclr := Lib.hid (cln_trans hcl.out hcl2.out)
          have f0 := (hc0.cln hclr.out).c0
          rw [← Nat.add_assoc] at f0
          have hblt2 : b < wr.heap.size := by have := hclr.out.size; omega
          have hme := hacts _ (dealAt_mem l (m + j) (by omega))
          have hni : ni ≤ 1048576 := by have := hc0.it.len; omega
          have hme2 := Lib.hid hme.2
          have hit := Lib.hid hc0.it
          have hsn := Lib.hid (take_snoc (l.drop m) j (by rw [List.length_drop]; omega))
          rw [dealAt_dropped] at hsn
          clear hc0 hme
          generalize dealAt l (m + j) = d at hit hme2 hsn
          have hwa : Cln wr (wr.alloc (.cells #[.slice Ai ni ci] 48)) := by (repeat (first | (with_reducible exact Below.refl _ _) | (with_reducible assumption) | (with_reducible refine Below.setCell ?_ (by first | omega | (simp; done) | (simp; omega)) _) | (with_reducible refine Below.alloc ?_ (by first | omega | (simp; done) | (simp; omega)) _) | (with_reducible refine Below.drew ?_) | (with_reducible refine below_drewN ?_ _)))
          obtain ⟨i0, hi0, hz0, hz1, hz2⟩ := info_parts Tryz.info48
          have hWs : Hid (W.heap.size ≤ (wr.alloc (.cells #[.slice Ai ni ci] 48)).heap.size) := by have := hcl2.out.size; unfold Hid; simp; omega
          go_wp2_with fail
          refine (dclone_any d Ai ni ci _ (hit.out.cln (cln_trans hclr.out hwa)) hni hme2.out).mono ?_
          rintro e w6 ⟨Ax, cx, rfl, hq6, hcl6⟩
          have hO6 := OwnQ.cln (OwnQ.cln hO2.out hwa) hcl6
          have hc6 := cln_trans hcl2.out (cln_trans hwa hcl6)
          have hs6 := hc6.size
          have hob := fun g hg => (own_ge hO2.out.own g hg).2
          simp only []
          rename_i hKK
          go_wp2_with (
            at_builtin
            refine wpList_pushAt rfl _ _ 22 rfl W.heap.size 48 i0 (.agg #[.slice none 0 0]) 1 24 Tryz.underlying22 hi0 hz0 hz1 hz2 rfl (by decide) (by decide) (.slice A2 j c2) j (acc2.flatMap DQ.vals) [.slice Ax ni cx] rfl (by simp [Value.oneCell']) rfl rfl hO6.own (by omega) hs6 ?_
            intro v' w7 hown7 hgr7 hv7
            obtain ⟨A3, c3, rfl, _, _⟩ := own_form hown7
            have hO7 : Hid (OwnDeals w7 W.heap.size (.slice A3 (j + 1) c3) (j + 1) (acc2 ++ [(⟨d, Ax, ni, cx⟩ : DQ)])) :=
              OwnQ.push (P := DQ.rd) (b1 := _) (q := (⟨d, Ax, ni, cx⟩ : DQ)) hO6 (by rw [← dqVals_snoc]; exact hown7) hgr7 hv7 hWs.out (fun g hg => by have := hob g hg; simp; omega) hq6
            have hc7 : Hid (Cln W w7) := ((Kept.of_below (S := fun k => W.heap.size ≤ k) hc6).alloc _ |>.grown hgr7 (fun k hk _ => (own_ge hO6.own k hk).1)).toBelow (Nat.le_refl _) (fun k hk h => by omega)
            have hA7 : Hid ((acc2 ++ [(⟨d, Ax, ni, cx⟩ : DQ)]).map (·.d) = (l.drop m).take (j + 1)) := by unfold Hid; rw [List.map_append, hacc2.out, hsn.out]; rfl
            clear hO6 hc6 hs6 hob hown7 hgr7 hv7 hq6 hcl6 f0)
          go_roundw
          case rel => exact ⟨j + 1, _, A3, c3, hlt, by go_num, rfl, hO7, hA7, hc7⟩
          case measure => simp [intOf]; omega
        · obtain rfl : j = n - m := by omega
          have t3 : decide (((n - m : Nat) : Int) < ((n - m : Nat) : Int)) = false := decide_eq_false (by omega)
          have hx0 := hb0.out.cln hcl2.out
          have hx1 := hb1.out.cln hcl2.out
          have f0 := hx0.frozen; have c0 := hx0.cell; have l0 := hx0.lt; have c1 := hx1.cell; have l1 := hx1.lt
          rw [List.take_of_length_le (by rw [List.length_drop]; omega)] at hacc2
          clear hx0 hx1
          go_wp2_with fail
          refine hEnd.out A2 c2 acc2 wr _ hO2.out hacc2.out hcl2.out ?_ ?_
          · rfl
          · rfl
  clear hKA
  go_loopw [19] (fun v wr => ∃ (i : Nat) (acc : List DQ) (A' : Option Addr) (c' : Nat), i ≤ n ∧ v = .int .i64 (i : Nat) ∧ Hid (OwnDeals wr (w.heap.size + 1 + 1) (.slice A' i c') i acc) ∧ Hid (acc.map (·.d) = l.take i) ∧ Hid (Blk wr w.heap.size 24 #[.int .i64 0, .slice none 0 0]) ∧ Hid (Blk wr (w.heap.size + 1) 24 #[.int .i64 num, .slice A' i c']) ∧ Hid (Cln w wr) ∧ Hid (many num l = manyGo num l (n - i) i)) (fun v _ => (n - intOf v).toNat)
  case atStart => exact ⟨0, [], none, 0, Nat.zero_le _, rfl, OwnQ.nil _ _ _ _ _ _, rfl, hb0, hb1, hcl0, hS0⟩
  case round =>
    clear hS0 hcl0
    obtain ⟨i, acc, A', c', hi, rfl, hO, hacc, hb0, hb1, hcl, hH⟩ := hrel
    by_cases hlt : i < n
    · have t3 : decide ((i : Int) < (n : Int)) = true := decide_eq_true (by omega)
      have hstep := Lib.hid (hH.out.trans (manyGo_step hlt))
      obtain ⟨b, o, rfl, hblt, hcell⟩ := hr.rows (by omega)
      obtain ⟨Ai, ni, ci, hc0⟩ := hcell i hlt
      clear hcell hH
      have f0 := (hc0.cln hcl.out).c0
      have hblt2 : b < wr.heap.size := by have := hcl.out.size; omega
      have hme := hacts _ (dealAt_mem l i (by omega))
      have hni : ni ≤ 1048576 := by have := hc0.it.len; omega
      have hme2 := Lib.hid hme.2
      have hit := Lib.hid hc0.it
      have hsn := Lib.hid (take_snoc l i (by omega))
      clear hc0 hme
      generalize dealAt l i = d at hit hme2 hsn
      have hb8 := Blk.new wr 48 #[.slice Ai ni ci]
      have h1b := hb1.out.alloc (.cells #[.slice Ai ni ci] 48)
      have hsz0 : w.heap.size + 1 < wr.heap.size := hb1.out.lt
      have hT : Hid (∀ W, Cln (wr.alloc (.cells #[.slice Ai ni ci] 48)) W → W.cell? ⟨w.heap.size + 1, 1, none⟩ = some (.slice A' i c') ∧ W.cell? ⟨wr.heap.size, 0, none⟩ = some (.slice Ai ni ci) ∧ w.heap.size + 1 < W.heap.size ∧ wr.heap.size < W.heap.size) := fun W h =>
        ⟨(h1b.cln h).cell 1, (hb8.cln h).cell 0, (h1b.cln h).lt, (hb8.cln h).lt⟩
      have hwa : Cln wr (wr.alloc (.cells #[.slice Ai ni ci] 48)) := by (repeat (first | (with_reducible exact Below.refl _ _) | (with_reducible assumption) | (with_reducible refine Below.setCell ?_ (by first | omega | (simp; done) | (simp; omega)) _) | (with_reducible refine Below.alloc ?_ (by first | omega | (simp; done) | (simp; omega)) _) | (with_reducible refine Below.drew ?_) | (with_reducible refine below_drewN ?_ _)))
      have hcur : Hid (Cln (wr.alloc (.cells #[.slice Ai ni ci] 48)) (wr.alloc (.cells #[.slice Ai ni ci] 48)).drew) := Below.drew (Below.refl _ _)
      have hcap := own_cap hO.out.own
      have hnn : A' = none → i = 0 ∧ c' = 0 := fun e => own_none (e ▸ hO.out.own)
      have cClip : ∀ W, Calls Tryz.prog 65 #[.slice A' i c'] W fun e w' => e = .returned (.slice A' i i) ∧ Cln W w' := fun W => clip_any A' i c' hcap hnn W
      have cClone : ∀ W, Cln (wr.alloc (.cells #[.slice Ai ni ci] 48)) W → Calls Tryz.prog 51 #[.agg #[.slice Ai ni ci]] W fun e w' => ∃ (Ax : Option Addr) (cx s5 : Nat), e = .returned (.agg #[.slice Ax ni cx]) ∧ s5 = W.heap.size ∧ Hid (OnlyBy (fun k => s5 ≤ k ∧ k < w'.heap.size) w' (DQ.rd ⟨d, Ax, ni, cx⟩)) ∧ Cln W w' := fun W h =>
        (dclone_any d Ai ni ci W (hit.out.cln (cln_trans hcl.out (cln_trans hwa h))) hni hme2.out).mono (fun e w' ⟨Ax, cx, h1, h2, h3⟩ => ⟨Ax, cx, _, h1, rfl, h2, h3⟩)
      have hO1 := Lib.hid (OwnQ.cln hO.out hwa)
      have hb01 := Lib.hid (hb0.out.cln hwa)
      have hclA := Lib.hid (cln_trans hcl.out hwa)
      obtain ⟨i0, hi0, hz0, hz1, hz2⟩ := info_parts Tryz.info48
      obtain ⟨u1, u2, u3, u4⟩ := hT.out _ hcur.out
      have hsb : Hid (w.heap.size + 1 + 1 ≤ (wr.alloc (.cells #[.slice Ai ni ci] 48)).heap.size) := by unfold Hid; simp; omega
      have h1b := Lib.hid h1b
      obtain ⟨y1, y2, y3, y4⟩ := hT.out ((wr.alloc (.cells #[.slice Ai ni ci] 48)).alloc (.cells #[.int .i64 0, .slice none 0 0] 24)) (by (repeat (first | (with_reducible exact Below.refl _ _) | (with_reducible assumption) | (with_reducible refine Below.setCell ?_ (by first | omega | (simp; done) | (simp; omega)) _) | (with_reducible refine Below.alloc ?_ (by first | omega | (simp; done) | (simp; omega)) _) | (with_reducible refine Below.drew ?_) | (with_reducible refine below_drewN ?_ _))))
      clear hb8 hcap hnn hit hme2 hb0 hcl hO
      go_wp2_with fail
      rename_i KB hKB
      have hJ2 : ∀ (s10 s11 s20 s21 s22 s23 s24 s25 s26 s27 s28 s29 s30 s31 s32 s33 s34 s35 s36 s37 s38 s39 s40 : Value) (A2 Ax : Option Addr) (c2 cx g9 s5 : Nat) (w6 w7 W9 : World), Cln (wr.alloc (.cells #[.slice Ai ni ci] 48)) w6 → Hid (OnlyBy (fun k => s5 ≤ k ∧ k < w6.heap.size) w6 (DQ.rd ⟨d, Ax, ni, cx⟩)) → (wr.alloc (.cells #[.slice Ai ni ci] 48)).heap.size ≤ s5 → Cln w6 w7 → w7.ownsRow w6.heap.size 48 1 (.slice A2 (i + 1) c2) (i + 1) (acc.flatMap DQ.vals ++ [.slice Ax ni cx]) →
          (wr.alloc (.cells #[.slice Ai ni ci] 48)).heap.size ≤ g9 → (g9 < s5 ∨ w6.heap.size ≤ g9) → (∀ g, (Value.slice A2 (i + 1) c2).ownBlock = some g → g ≠ g9) → Kept (fun k => k = g9) w7 W9 → Blk W9 g9 24 #[.int .i64 num, .slice A2 (i + 1) c2] →
          KB { tmps := #[.int .i64 num, .slice (some ⟨b, o, none⟩) n c, undef, undef, .pointer (some ⟨w.heap.size, 0, none⟩), .slice none 0 0, .pointer (some ⟨w.heap.size + 1, 0, none⟩), undef, .pointer (some ⟨wr.heap.size, 0, none⟩), .pointer (some ⟨g9, 0, none⟩), s10, s11, undef, undef, undef, .int .i64 num, .agg #[.int .i64 num, .slice none 0 0], .slice (some ⟨b, o, none⟩) n c, .int .i64 (n : Nat), .int .i64 (i : Nat), s20, s21, s22, s23, s24, s25, s26, s27, s28, s29, s30, s31, s32, s33, s34, s35, s36, s37, s38, s39, s40, undef, undef, undef, undef, undef, undef, undef, undef, undef, undef, undef, undef, undef, undef, undef, undef, undef, undef], defers := [] } W9 := by as_aux_lemma =>
        intro s10 s11 s20 s21 s22 s23 s24 s25 s26 s27 s28 s29 s30 s31 s32 s33 s34 s35 s36 s37 s38 s39 s40 A2 Ax c2 cx g9 s5 w6 w7 W9 hc6 hq6 hs5 hc7 hown7 hg9 hg9s hg9o hk9 hb9
        refine hKB _ _ ?_
        clear hKB
        have hO9 : Hid (OwnDeals W9 (w.heap.size + 1 + 1) (.slice A2 (i + 1) c2) (i + 1) (acc ++ [(⟨d, Ax, ni, cx⟩ : DQ)])) := by
          have hsb' := hsb.out
          have h67 := hc7.size; have h79 := hk9.size; have ha6 := hc6.size
          refine ⟨?_, fun x hx => ?_⟩
          · rw [← dqVals_snoc]
            refine own_base (own_same hown7 fun k hk => hk9.block k (own_ge hown7 k hk).2 (fun e => hg9o k hk e)) (by omega)
          · rcases List.mem_append.1 hx with hx | hx
            · refine (hO1.out.it x hx).to (fun k hk => ?_) (fun k hk => ⟨hk.1, by omega, fun e => by have := (own_ge hown7 k e).1; omega⟩)
              have hk1 := hk.2.1
              rw [hk9.block k (by omega) (fun e => by have e : k = g9 := e; omega), hc7.block k (by omega), hc6.block k hk1]
            · obtain rfl : x = ⟨d, Ax, ni, cx⟩ := by simpa using hx
              refine hq6.out.to (fun k hk => ?_) (fun k hk => ⟨by omega, by omega, fun e => by have := (own_ge hown7 k e).1; omega⟩)
              rw [hk9.block k (by omega) (fun e => by have e : k = g9 := e; omega), hc7.block k hk.2]
        have hc9 : Hid (Cln (wr.alloc (.cells #[.slice Ai ni ci] 48)) W9) := ((Kept.of_below (S := fun k => k = g9) (cln_trans hc6 hc7)).trans hk9).toBelow (Nat.le_refl _) (fun k hk e => by have e : k = g9 := e; omega)
        clear hc6 hq6 hs5 hc7 hown7 hg9s hg9o hk9
        have hrd := OwnDeals.rd hO9.out
        have hds : (acc ++ [(⟨d, Ax, ni, cx⟩ : DQ)]).map (·.d) = l.take (i + 1) := by rw [List.map_append, hacc.out, hsn.out]; rfl
        rw [hds] at hrd
        have hb9H := Lib.hid hb9
        have c9 := hb9.cell; have l9 := hb9.lt
        clear hb9
        go_wp2_with fail
        refine (lcheck_any ⟨num, l.take (i + 1)⟩ A2 (i + 1) c2 (hmod.take _) W9 (hK.cln (cln_trans hclA.out hc9.out)) hrd).mono ?_
        rintro e w10 ⟨rfl, hq⟩
        have hO10 := Lib.hid (OwnQ.cln hO9.out hq)
        have hc10 := Lib.hid (cln_trans hc9.out hq)
        have hb10 := hb9H.out.cln hq
        clear c9 l9 hrd hq hO9 hc9 hb9H
        by_cases hca : (checkLot ⟨num, l.take (i + 1)⟩).1 = 0
        · have t5 : ((((checkLot ⟨num, l.take (i + 1)⟩).1 : Nat) : Int) != 0) = false := by rw [hca]; rfl
          have hst : Hid (many num l = manyGo num l (n - (i + 1)) (i + 1)) := by unfold Hid; rw [hstep.out, if_pos hca]
          replace hca := Lib.hid hca
          have c10 := hb10.cell; have l10 := hb10.lt
          have ho10 := (h1b.out.cln hc10.out)
          have co := ho10.cell; have lo := ho10.lt; have fo := ho10.frozen
          have hb00 := hb01.out.cln hc10.out
          have hcw10 := cln_trans hclA.out hc10.out
          have hne9 : ¬ g9 = w.heap.size + 1 := by have := hsb.out; omega
          have hne9' : ¬ w.heap.size + 1 = g9 := by omega
          replace hb00 := Lib.hid hb00; replace ho10 := Lib.hid ho10; replace hcw10 := Lib.hid hcw10
          have hdsH := Lib.hid hds
          clear hb10 hds
          go_wp2_with fail
          go_roundw
          case measure => simp [intOf]; omega
          have hst2 : Kept (fun k => k = w.heap.size + 1) w10 ((w10.setCell ⟨w.heap.size + 1, 0, none⟩ (.int .i64 num)).setCell ⟨w.heap.size + 1, 1, none⟩ (.slice A2 (i + 1) c2)) := ((Kept.refl (fun k => k = w.heap.size + 1) w10).setCell (p := ⟨w.heap.size + 1, 0, none⟩) (fun _ => rfl) _).setCell (p := ⟨w.heap.size + 1, 1, none⟩) (fun _ => rfl) _
          refine ⟨i + 1, _, A2, c2, hlt, by go_num, ?_, hdsH, ?_, ?_, ?_, hst⟩
          · exact OwnQ.kept hO10.out hst2 (fun k hk _ e => by have e : k = w.heap.size + 1 := e; omega)
          · exact hb00.out.kept hst2 (show ¬ w.heap.size = w.heap.size + 1 by omega)
          · exact ho10.out.store2 (v0 := .int .i64 num) (v1 := .slice A2 (i + 1) c2)
          · exact ((Kept.of_below (S := fun k => k = w.heap.size + 1) hcw10.out).trans hst2).toBelow (Nat.le_refl _) (fun k hk e => by have e : k = w.heap.size + 1 := e; omega)
        · have t5 : ((((checkLot ⟨num, l.take (i + 1)⟩).1 : Nat) : Int) != 0) = true := by rw [bne_iff_ne]; omega
          have hst : Hid (i = many num l) := by unfold Hid; rw [hstep.out, if_neg hca]
          have hO11 := Lib.hid (OwnQ.cln hO1.out hc10.out)
          have hb00 := Lib.hid (hb01.out.cln hc10.out)
          have ho10 := Lib.hid (h1b.out.cln hc10.out)
          have hcw10 := Lib.hid (cln_trans hclA.out hc10.out)
          clear hb10 hO10 hc10
          go_wp2_with fail
          exact hJ _ _ _ _ _ _ _ _ _ _ _ _ _ _ _ _ _ _ _ _ _ _ _ _ _ _ _ _ _ _ _ _ _ _ _ _ _ _ _ _ _ _ _ _ _ _ _ _ _ _ _ _ _ _ i acc A' c' _ hst hO11 hacc hb00 ho10 hcw10
      clear hKB hJ hclA hb01 hsn hacc hstep h1b
      go_region_law (first
        | (go_simp; go_at_call 65; with_reducible refine (cClip _).mono ?_; rintro e w5 ⟨rfl, hq5⟩; (try (have hz9 := (by first | exact Blk.cln (Blk.new (wr.alloc (.cells #[.slice Ai ni ci] 48)) 24 #[.int .i64 0, .slice none 0 0]) hq5 | exact Blk.cln (Blk.drew (Blk.new (wr.alloc (.cells #[.slice Ai ni ci] 48)) 24 #[.int .i64 0, .slice none 0 0])) hq5 : Blk w5 (wr.alloc (.cells #[.slice Ai ni ci] 48)).heap.size 24 #[.int .i64 0, .slice none 0 0]); (try simp only [World.size_alloc, size_drew_] at hz9))); (try have hy9 := hq5.size); have hcur := Lib.hid (show Cln (wr.alloc (.cells #[.slice Ai ni ci] 48)) w5 from by first | exact cln_trans hcur.out hq5 | exact cln_trans (show Cln (wr.alloc (.cells #[.slice Ai ni ci] 48)) ((wr.alloc (.cells #[.slice Ai ni ci] 48)).alloc (.cells #[.int .i64 0, .slice none 0 0] 24)).drew from by (repeat (first | (with_reducible exact Below.refl _ _) | (with_reducible assumption) | (with_reducible refine Below.setCell ?_ (by first | omega | (simp; done) | (simp; omega)) _) | (with_reducible refine Below.alloc ?_ (by first | omega | (simp; done) | (simp; omega)) _) | (with_reducible refine Below.drew ?_) | (with_reducible refine below_drewN ?_ _)))) hq5); clear hq5; obtain ⟨u1, u2, u3, u4⟩ := hT.out _ hcur.out)
        | (go_simp; go_at_call 51; with_reducible refine (cClone _ (by first | exact hcur.out | exact cln_trans hcur.out (by (repeat (first | (with_reducible exact Below.refl _ _) | (with_reducible assumption) | (with_reducible refine Below.setCell ?_ (by first | omega | (simp; done) | (simp; omega)) _) | (with_reducible refine Below.alloc ?_ (by first | omega | (simp; done) | (simp; omega)) _) | (with_reducible refine Below.drew ?_) | (with_reducible refine below_drewN ?_ _)))))).mono ?_; rintro e w6 ⟨Ax, cx, s5, rfl, hs5, hq6, hcl6⟩; (try replace hz9 := hz9.cln hcl6); (try (have hz9 := Blk.cln (Blk.new _ 24 #[.int .i64 0, .slice none 0 0]) hcl6; (try simp only [World.size_alloc, size_drew_] at hz9))); have hsa5 := hcur.out.size; have hsz6 := hcl6.size; have hcur := Lib.hid (show Cln (wr.alloc (.cells #[.slice Ai ni ci] 48)) w6 from by first | exact cln_trans hcur.out hcl6 | exact cln_trans (cln_trans hcur.out (by (repeat (first | (with_reducible exact Below.refl _ _) | (with_reducible assumption) | (with_reducible refine Below.setCell ?_ (by first | omega | (simp; done) | (simp; omega)) _) | (with_reducible refine Below.alloc ?_ (by first | omega | (simp; done) | (simp; omega)) _) | (with_reducible refine Below.drew ?_) | (with_reducible refine below_drewN ?_ _))))) hcl6); clear hcl6; obtain ⟨u1, u2, u3, u4⟩ := hT.out _ hcur.out; have hO6 := OwnQ.cln hO1.out hcur.out)
        | (refine step_pushNew (w := w6.alloc (.cells #[.slice Ax ni cx] 48)) rfl _ _ _ rfl (w.heap.size + 1 + 1) _ _ _ _ _ ?hu hi0 hz0 hz1 hz2 rfl (by decide) (by decide) A' c' i w6.heap.size (acc.flatMap DQ.vals) [.slice Ax ni cx] rfl (by simp [Value.oneCell']) ?hs ?hx (Blk.new w6 _ _) (hO6.own.alloc _) (by omega) ?_; (case hu => exact Tryz.underlying22); (case hs => rfl); (case hx => rfl); intro v' w7 hown7 hgr7; obtain ⟨A2, c2, rfl, _, _⟩ := own_form hown7; have hw7 := ((Kept.refl (fun _ => False) _).grown hgr7 (fun k hk _ => by cases hk)).toBelow (Nat.le_refl _) (fun k _ h => h); (try (have hz7 := (hz9.alloc (.cells #[.slice Ax ni cx] 48)).cln hw7; have hz7c := hz7.cell; have hz7f := hz7.frozen; have hz7l := hz7.lt)))
        | (refine step_pushNew (w := (w6.alloc (.cells #[.slice Ax ni cx] 48)).alloc (.cells #[.int .i64 0, .slice none 0 0] 24)) rfl _ _ _ rfl (w.heap.size + 1 + 1) _ _ _ _ _ ?hu hi0 hz0 hz1 hz2 rfl (by decide) (by decide) A' c' i w6.heap.size (acc.flatMap DQ.vals) [.slice Ax ni cx] rfl (by simp [Value.oneCell']) ?hs ?hx ((Blk.new w6 _ _).alloc _) ((hO6.own.alloc _).alloc _) (by omega) ?_; (case hu => exact Tryz.underlying22); (case hs => rfl); (case hx => rfl); intro v' w7 hown7 hgr7; obtain ⟨A2, c2, rfl, _, _⟩ := own_form hown7; have hw7 := ((Kept.refl (fun _ => False) _).grown hgr7 (fun k hk _ => by cases hk)).toBelow (Nat.le_refl _) (fun k _ h => h); have hz7 := (Blk.new (w6.alloc (.cells #[.slice Ax ni cx] 48)) 24 #[.int .i64 0, .slice none 0 0]).cln hw7; simp only [World.size_alloc] at hz7; have hz7c := hz7.cell; have hz7f := hz7.frozen; have hz7l := hz7.lt)
        | (refine step_pushNew (w := (w6.alloc (.cells #[.int .i64 0, .slice none 0 0] 24)).alloc (.cells #[.slice Ax ni cx] 48)) rfl _ _ _ rfl (w.heap.size + 1 + 1) _ _ _ _ _ ?hu hi0 hz0 hz1 hz2 rfl (by decide) (by decide) A' c' i (w6.heap.size + 1) (acc.flatMap DQ.vals) [.slice Ax ni cx] rfl (by simp [Value.oneCell']) ?hs ?hx (by have h := Blk.new (w6.alloc (.cells #[.int .i64 0, .slice none 0 0] 24)) 48 #[.slice Ax ni cx]; rw [World.size_alloc] at h; exact h) ((hO6.own.alloc _).alloc _) (by omega) ?_; (case hu => exact Tryz.underlying22); (case hs => rfl); (case hx => rfl); intro v' w7 hown7 hgr7; obtain ⟨A2, c2, rfl, _, _⟩ := own_form hown7; have hw7 := ((Kept.refl (fun _ => False) _).grown hgr7 (fun k hk _ => by cases hk)).toBelow (Nat.le_refl _) (fun k _ h => h); have hz7 := ((Blk.new w6 24 #[.int .i64 0, .slice none 0 0]).alloc (.cells #[.slice Ax ni cx] 48)).cln hw7; have hz7c := hz7.cell; have hz7f := hz7.frozen; have hz7l := hz7.lt))
      all_goals
        have q1 := hw7.size
        have q2 := hcur.out.size
        have q3 := own_ge hown7
        try simp only [World.size_alloc, size_drew_] at q1
        try simp only [World.size_alloc, size_drew_] at hs5
        try simp only [World.size_alloc, size_drew_] at hsa5
        try simp only [World.size_alloc, size_drew_] at hsz6
        try simp only [World.size_alloc, size_drew_] at hy9
        try simp only [World.size_alloc, size_drew_] at q2
        try simp only [World.size_alloc, size_drew_] at q3
        refine hJ2 _ _ _ _ _ _ _ _ _ _ _ _ _ _ _ _ _ _ _ _ _ _ _ A2 Ax c2 cx _ s5 w6 w7 _ hcur.out hq6 ?_ (cln_trans (by (repeat (first | (with_reducible exact Below.refl _ _) | (with_reducible assumption) | (with_reducible refine Below.setCell ?_ (by first | omega | (simp; done) | (simp; omega)) _) | (with_reducible refine Below.alloc ?_ (by first | omega | (simp; done) | (simp; omega)) _) | (with_reducible refine Below.drew ?_) | (with_reducible refine below_drewN ?_ _)))) hw7) (own_base hown7 (by simp only [World.size_alloc]; omega)) ?_ ?_ ?_ ?_ ?_
        · simp only [World.size_alloc]; omega
        · simp only [World.size_alloc]; omega
        · omega
        · intro k hk e; have := q3 k hk; omega
        · first
          | exact (Kept.refl _ _).alloc _
          | exact ((Kept.refl (fun k => k = _) _).setCell (p := ⟨_, 0, none⟩) (fun _ => rfl) _).setCell (p := ⟨_, 1, none⟩) (fun _ => rfl) _
        · first
          | exact Blk.new _ _ _
          | exact hz7.store2
    · obtain rfl : i = n := by omega
      have t3 : decide ((i : Int) < (i : Int)) = false := decide_eq_false (by omega)
      have hst : Hid (i = many num l) := by unfold Hid; rw [hH.out, Nat.sub_self]; rfl
      go_wp2_with fail
      exact hJ _ _ _ _ _ _ _ _ _ _ _ _ _ _ _ _ _ _ _ _ _ _ _ _ _ _ _ _ _ _ _ _ _ _ _ _ _ _ _ _ _ _ _ _ _ _ _ _ _ _ _ _ _ _ i acc A' c' _ hst hO hacc hb0 hb1 hcl
end Go.Proofs.YtoeoodiifpoomaaGreatDoor
