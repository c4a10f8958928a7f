/- The walk of the document's Read of acts. (Printed by wip/tools/gen_aread.py.) -/
import Derived.Test.YtocllhghbmbjpaaDoorANexts
import Derived.StillTailTactics
import Derived.BigRegion
set_option linter.unusedSimpArgs false
set_option linter.unusedVariables false
set_option maxRecDepth 20000
namespace Go.Proofs.YtocllhghbmbjpaaDoor
open Go.RowKit Moi
attribute [local go_sem] toList_str str_size less_ltB store_float
theorem anext_any (p : Nat) (A : Option Addr) (n c : Nat) (bs : List UInt8) (a : Nat) (w : World) (hE : IsE w p A n c bs a 0) (hA : ∀ ad, A = some ad → ad.block < w.heap.size) :
    Calls Tryd.prog 47 #[.pointer (some ⟨p, 0, none⟩)] w (ANextPost w p A n c bs (rAct bs a)) := by
  cases h : rUpto 21 bs a with
  | error er => obtain ⟨cd, a1⟩ := er; exact anext_err p A n c bs a w hE hA cd a1 h
  | ok x =>
    obtain ⟨k, a1⟩ := x
    have hk := rUpto_le h
    by_cases h0 : k = 0
    · subst h0; exact anext_zero p A n c bs a w hE hA a1 h
    have hk1 : 1 ≤ k ∧ k ≤ 21 := by omega
    rcases act_class k hk1 with ⟨hN, hX, hS, hM, he⟩ | ⟨hN, hX, hS, hM, he⟩ | ⟨hN, hX, hS, hM, he⟩ | ⟨hN, hX, hS, hM, he⟩ | ⟨hN, hX, hS, hM, he⟩ | ⟨hN, hX, hS, hM, he⟩
    · exact anext_none p A n c bs a w hE hA k a1 hk1 h hN hX hS hM he
    · exact anext_make p A n c bs a w hE hA k a1 hk1 h hN hX hS hM he
    · exact anext_text p A n c bs a w hE hA k a1 hk1 h hN hX hS hM he
    · exact anext_num p A n c bs a w hE hA k a1 hk1 h hN hX hS hM he
    · exact anext_real p A n c bs a w hE hA k a1 hk1 h hN hX hS hM he
    · exact anext_offer p A n c bs a w hE hA k a1 hk1 h hN hX hS hM he
/-- What the document's Read hands back. -/
def RAReadPost (w : World) (o : MAct × RErr) (e : Ending) (w' : World) : Prop :=
  ∃ AL nL cL, e = .returned (.tuple #[actVal o.1 AL nL cL, .int .i64 (o.2.1 : Nat), .int .i64 (o.2.2 : Nat)]) ∧ RdItems w' AL nL o.1.make.list ∧ nL ≤ 32 ∧ Cln w w'
set_option maxHeartbeats 8000000 in
theorem raread_any (A : Option Addr) (n c : Nat) (bs : List UInt8) (w : World) (hr : RdBytes w A n bs) (hc : n ≤ c) (hb : n ≤ 140737488355328) (hA : ∀ ad, A = some ad → ad.block < w.heap.size) :
    Calls Tryd.prog 23 #[.slice A n c] w (RAReadPost w (readAct bs)) := by
  have hlen : Hid (bs.length = n) := hr.len
  have hcl0 : Cln w ((w.alloc (.cells #[.int .i64 0, .string ⟨#[]⟩, .int .i64 0, .float .f64 0, .string ⟨#[]⟩, .int .i64 0, .int .i64 0, .int .i64 0, .int .i64 0, .float .f64 0, .int .i64 0, .string ⟨#[]⟩, .slice none 0 0, .bool false] 33)).alloc (.cells #[.slice A n c, .int .i64 0, .int .i64 0] 77)) := by (repeat (first | (with_reducible exact Below.refl _ _) | (with_reducible assumption) | (with_reducible refine Below.setCell ?_ (by first | omega | (simp; done) | (simp; omega)) _) | (with_reducible refine Below.alloc ?_ (by first | omega | (simp; done) | (simp; omega)) _) | (with_reducible refine Below.drew ?_) | (with_reducible refine below_drewN ?_ _)))
  have hE0 : IsE ((w.alloc (.cells #[.int .i64 0, .string ⟨#[]⟩, .int .i64 0, .float .f64 0, .string ⟨#[]⟩, .int .i64 0, .int .i64 0, .int .i64 0, .int .i64 0, .float .f64 0, .int .i64 0, .string ⟨#[]⟩, .slice none 0 0, .bool false] 33)).alloc (.cells #[.slice A n c, .int .i64 0, .int .i64 0] 77)) (w.heap.size + 1) A n c bs 0 0 := by
    refine ⟨?_, hr.cln hcl0, Nat.zero_le _, hc, hb, fun ad e => by have := hA ad e; omega⟩
    have := Blk.new (w.alloc (.cells #[.int .i64 0, .string ⟨#[]⟩, .int .i64 0, .float .f64 0, .string ⟨#[]⟩, .int .i64 0, .int .i64 0, .int .i64 0, .int .i64 0, .float .f64 0, .int .i64 0, .string ⟨#[]⟩, .slice none 0 0, .bool false] 33)) 77 #[.slice A n c, .int .i64 0, .int .i64 0]
    rw [World.size_alloc] at this
    exact this
  have hb0 := Lib.hid ((Blk.new w 33 #[.int .i64 0, .string ⟨#[]⟩, .int .i64 0, .float .f64 0, .string ⟨#[]⟩, .int .i64 0, .int .i64 0, .int .i64 0, .int .i64 0, .float .f64 0, .int .i64 0, .string ⟨#[]⟩, .slice none 0 0, .bool false]).alloc (.cells #[.slice A n c, .int .i64 0, .int .i64 0] 77))
  have hAo : Hid (∀ ad, A = some ad → ad.block < w.heap.size) := hA
  replace hE0 := Lib.hid hE0
  clear hr hA
  go_enter Tryd.func23, Tryd.ntmps23
  go_wp2_with fail
  refine (anext_any (w.heap.size + 1) A n c bs 0 _ hE0.out (fun ad e => by have := hAo.out ad e; simp only [World.size_alloc]; omega)).mono ?_
  intro e w1 hP
  cases hR : rAct bs 0 with
  | error er =>
    obtain ⟨cd, a1⟩ := er
    rw [hR] at hP
    obtain ⟨rfl, hE1, hk1⟩ := hP
    have hI : Hid (readAct bs = (zeroAct, (cd, a1))) := by unfold Hid readAct; rw [hR]
    have hz : cd ≠ 0 := rAct_nz hR
    have t1 : (((cd : Nat) : Int) != 0) = true := by rw [bne_iff_ne]; omega
    have hb1 := Lib.hid (hb0.out.kept hk1 (show ¬ w.heap.size = w.heap.size + 1 by omega))
    have hcl1 : Cln w w1 := ((Kept.of_below (S := fun i => i = w.heap.size + 1) hcl0).trans hk1).toBelow (Nat.le_refl _) (fun i hi h => by omega)
    have hlt1 : w.heap.size + 1 < w1.heap.size := hE1.blk.lt
    replace hE1 := Lib.hid hE1
    replace hcl1 := Lib.hid hcl1
    rw [show actVal zeroAct none 0 0 = .agg #[.int .i64 0, .string ⟨#[]⟩, .int .i64 0, .float .f64 0, .string ⟨#[]⟩, .int .i64 0, .int .i64 0, .int .i64 0, .int .i64 0, .float .f64 0, .int .i64 0, .string ⟨#[]⟩, .slice none 0 0, .bool false] from rfl]
    clear hb0 hE0 hk1 hcl0 hR
    go_wp2_with fail
    refine (end_old (w.heap.size + 1) A n c bs a1 cd hz _ (hE1.out.cln (by (repeat (first | (with_reducible exact Below.refl _ _) | (with_reducible assumption) | (with_reducible refine Below.setCell ?_ (by first | omega | (simp; done) | (simp; omega)) _) | (with_reducible refine Below.alloc ?_ (by first | omega | (simp; done) | (simp; omega)) _) | (with_reducible refine Below.drew ?_) | (with_reducible refine below_drewN ?_ _)))))).mono ?_
    rintro e w2 ⟨rfl, hq⟩
    have hq1 : Cln w1 w2 := cln_trans (by (repeat (first | (with_reducible exact Below.refl _ _) | (with_reducible assumption) | (with_reducible refine Below.setCell ?_ (by first | omega | (simp; done) | (simp; omega)) _) | (with_reducible refine Below.alloc ?_ (by first | omega | (simp; done) | (simp; omega)) _) | (with_reducible refine Below.drew ?_) | (with_reducible refine below_drewN ?_ _)))) hq
    have hE2 := hE1.out.cln hq1
    have hb2 := hb1.out.cln hq1
    have hcl2 : Cln w w2 := cln_trans hcl1.out hq1
    have c1 := hE2.blk.cell 1; have c2 := hE2.blk.cell 2; have lE := hE2.blk.lt
    have f0 := hb2.frozen; have l0 := hb2.lt
    have k0 := hb2.cell 0; have k1 := hb2.cell 1; have k2 := hb2.cell 2; have k3 := hb2.cell 3; have k4 := hb2.cell 4; have k5 := hb2.cell 5; have k6 := hb2.cell 6; have k7 := hb2.cell 7; have k8 := hb2.cell 8; have k9 := hb2.cell 9; have k10 := hb2.cell 10; have k11 := hb2.cell 11; have k12 := hb2.cell 12; have k13 := hb2.cell 13
    have hne : ¬ w.heap.size = w.heap.size + 1 := by omega
    have hb3 := Lib.hid (Blk.store14 hb2 (v0 := .int .i64 0) (v1 := .string ⟨#[]⟩) (v2 := .int .i64 0) (v3 := .float .f64 0) (v4 := .string ⟨#[]⟩) (v5 := .int .i64 0) (v6 := .int .i64 0) (v7 := .int .i64 0) (v8 := .int .i64 0) (v9 := .float .f64 0) (v10 := .int .i64 0) (v11 := .string ⟨#[]⟩) (v12 := .slice none 0 0) (v13 := .bool false))
    replace hcl2 := Lib.hid hcl2
    clear hb1 hE1 hcl1 hq hq1 hE2 hb2
    go_wp2_with fail
    go_region
    go_wp2_with fail
    refine bodyPost_ret (results_ctt Tryd.results23 _ _ w.heap.size 33 #[.int .i64 0, .string ⟨#[]⟩, .int .i64 0, .float .f64 0, .string ⟨#[]⟩, .int .i64 0, .int .i64 0, .int .i64 0, .int .i64 0, .float .f64 0, .int .i64 0, .string ⟨#[]⟩, .slice none 0 0, .bool false] (0, 0) _ rfl ?_ Tryd.underlying33 rfl size_act) rfl ?_
    · exact blk_drew hb3.out
    · rw [hI.out]
      have hcl3 := hcl2.out
      exact ⟨none, 0, 0, rfl, RdItems.none_ _, Nat.zero_le _, by (repeat (first | (with_reducible exact Below.refl _ _) | (with_reducible assumption) | (with_reducible refine Below.setCell ?_ (by first | omega | (simp; done) | (simp; omega)) _) | (with_reducible refine Below.alloc ?_ (by first | omega | (simp; done) | (simp; omega)) _) | (with_reducible refine Below.drew ?_) | (with_reducible refine below_drewN ?_ _)))⟩
  | ok x =>
    obtain ⟨r, a1⟩ := x
    rw [hR] at hP
    obtain ⟨AL, nL, cL, rfl, hL, hn32, hge, hE1, hk1⟩ := hP
    have hb1 := Lib.hid (hb0.out.kept hk1 (show ¬ w.heap.size = w.heap.size + 1 by omega))
    have hcl1 : Cln w w1 := ((Kept.of_below (S := fun i => i = w.heap.size + 1) hcl0).trans hk1).toBelow (Nat.le_refl _) (fun i hi h => by omega)
    have hlt1 : w.heap.size + 1 < w1.heap.size := hE1.blk.lt
    have hge' : Hid (∀ ad, AL = some ad → w.heap.size + 2 ≤ ad.block) := fun ad e => by have := hge ad e; simp only [World.size_alloc] at this; omega
    replace hE1 := Lib.hid hE1
    replace hcl1 := Lib.hid hcl1
    replace hL := Lib.hid hL
    replace hR := Lib.hid hR
    unfold actVal
    clear hb0 hE0 hk1 hcl0 hge
    go_wp2_with fail
    have hclA : Cln w1 (w1.alloc (.cells #[.int .i64 r.kind, .string (str r.key), .int .i64 r.n, .float .f64 r.x, .string (str r.s), .int .i64 r.make.kind, .int .i64 r.make.num, .int .i64 r.make.low, .int .i64 r.make.high, .float .f64 r.make.real, .int .i64 r.make.cap, .string (str r.make.text), .slice AL nL cL, .bool r.must] 33)) := by (repeat (first | (with_reducible exact Below.refl _ _) | (with_reducible assumption) | (with_reducible refine Below.setCell ?_ (by first | omega | (simp; done) | (simp; omega)) _) | (with_reducible refine Below.alloc ?_ (by first | omega | (simp; done) | (simp; omega)) _) | (with_reducible refine Below.drew ?_) | (with_reducible refine below_drewN ?_ _)))
    have hbr := Blk.new w1 33 #[.int .i64 r.kind, .string (str r.key), .int .i64 r.n, .float .f64 r.x, .string (str r.s), .int .i64 r.make.kind, .int .i64 r.make.num, .int .i64 r.make.low, .int .i64 r.make.high, .float .f64 r.make.real, .int .i64 r.make.cap, .string (str r.make.text), .slice AL nL cL, .bool r.must]
    have hEA := hE1.out.cln hclA
    have hbA := hb1.out.cln hclA
    have hLA := hL.out.cln hclA
    have hcA : Cln w _ := cln_trans hcl1.out hclA
    by_cases hlt : a1 < n
    case neg =>
      obtain rfl : a1 = n := by have := hEA.le; omega
      have hI : Hid (readAct bs = (r, (0, 0))) := by unfold Hid readAct; rw [hR.out]; simp only [rEnd]; rw [if_neg (by rw [hlen.out]; omega)]
      refine (end_full (w.heap.size + 1) A a1 c bs 0 _ hEA).mono ?_
      rintro e w2 ⟨rfl, hq⟩
      have hE2 := hEA.cln hq
      have hb2 := hbA.cln hq
      have hbr2 := hbr.cln hq
      have hcl2 : Cln w w2 := cln_trans hcA hq
      have c2 := hE2.blk.cell 2; have lE := hE2.blk.lt
      have k0 := hbr2.cell 0; have k1 := hbr2.cell 1; have k2 := hbr2.cell 2; have k3 := hbr2.cell 3; have k4 := hbr2.cell 4; have k5 := hbr2.cell 5; have k6 := hbr2.cell 6; have k7 := hbr2.cell 7; have k8 := hbr2.cell 8; have k9 := hbr2.cell 9; have k10 := hbr2.cell 10; have k11 := hbr2.cell 11; have k12 := hbr2.cell 12; have k13 := hbr2.cell 13; have lr := hbr2.lt
      have q0 := hb2.cell
      have f0 := hb2.frozen; have l0 := hb2.lt
      have hne : ¬ w.heap.size = w.heap.size + 1 := by omega
      have hne2 : ¬ w1.heap.size = w.heap.size := by omega
      have hfk := fill14_kept w2 w.heap.size (.int .i64 r.kind) (.string (str r.key)) (.int .i64 r.n) (.float .f64 r.x) (.string (str r.s)) (.int .i64 r.make.kind) (.int .i64 r.make.num) (.int .i64 r.make.low) (.int .i64 r.make.high) (.float .f64 r.make.real) (.int .i64 r.make.cap) (.string (str r.make.text)) (.slice AL nL cL) (.bool r.must)
      have hb3 := Lib.hid (Blk.store14 hb2 (v0 := .int .i64 r.kind) (v1 := .string (str r.key)) (v2 := .int .i64 r.n) (v3 := .float .f64 r.x) (v4 := .string (str r.s)) (v5 := .int .i64 r.make.kind) (v6 := .int .i64 r.make.num) (v7 := .int .i64 r.make.low) (v8 := .int .i64 r.make.high) (v9 := .float .f64 r.make.real) (v10 := .int .i64 r.make.cap) (v11 := .string (str r.make.text)) (v12 := .slice AL nL cL) (v13 := .bool r.must))
      have hL3 := Lib.hid ((hLA.cln hq).kept hfk (fun ad e _ h2 => by have := hge'.out ad e; omega))
      have hcl3 : Hid (Cln w (fill14 w2 w.heap.size (.int .i64 r.kind) (.string (str r.key)) (.int .i64 r.n) (.float .f64 r.x) (.string (str r.s)) (.int .i64 r.make.kind) (.int .i64 r.make.num) (.int .i64 r.make.low) (.int .i64 r.make.high) (.float .f64 r.make.real) (.int .i64 r.make.cap) (.string (str r.make.text)) (.slice AL nL cL) (.bool r.must))) := ((Kept.of_below (S := fun i => i = w.heap.size) hcl2).trans hfk).toBelow (Nat.le_refl _) (fun i hi h => by omega)
      clear hb1 hE1 hcl1 hq hE2 hb2 hEA hbA hLA hcA hclA hbr hbr2 hcl2 hfk hL
      go_wp2_with fail
      refine bodyPost_ret (results_ctt Tryd.results23 _ _ w.heap.size 33 #[.int .i64 r.kind, .string (str r.key), .int .i64 r.n, .float .f64 r.x, .string (str r.s), .int .i64 r.make.kind, .int .i64 r.make.num, .int .i64 r.make.low, .int .i64 r.make.high, .float .f64 r.make.real, .int .i64 r.make.cap, .string (str r.make.text), .slice AL nL cL, .bool r.must] (0, 0) _ rfl ?_ Tryd.underlying33 rfl size_act) rfl ?_
      · exact hb3.out
      · rw [hI.out]
        exact ⟨AL, nL, cL, rfl, hL3.out, hn32, hcl3.out⟩
    case pos =>
      have hI : Hid (readAct bs = (zeroAct, (3, a1))) := by unfold Hid readAct; rw [hR.out]; simp only [rEnd]; rw [if_pos (by rw [hlen.out]; omega)]
      refine (end_left (w.heap.size + 1) A n c bs a1 hlt _ hEA).mono ?_
      rintro e w2 ⟨rfl, hE2, hq⟩
      have hb2 := hbA.kept hq (show ¬ w.heap.size = w.heap.size + 1 by omega)
      have hcl2 : Cln w w2 := ((Kept.of_below (S := fun i => i = w.heap.size + 1) hcA).trans hq).toBelow (Nat.le_refl _) (fun i hi h => by omega)
      have c1 := hE2.blk.cell 1; have c2 := hE2.blk.cell 2; have lE := hE2.blk.lt
      have f0 := hb2.frozen; have l0 := hb2.lt
      have k0 := hb2.cell 0; have k1 := hb2.cell 1; have k2 := hb2.cell 2; have k3 := hb2.cell 3; have k4 := hb2.cell 4; have k5 := hb2.cell 5; have k6 := hb2.cell 6; have k7 := hb2.cell 7; have k8 := hb2.cell 8; have k9 := hb2.cell 9; have k10 := hb2.cell 10; have k11 := hb2.cell 11; have k12 := hb2.cell 12; have k13 := hb2.cell 13
      have hne : ¬ w.heap.size = w.heap.size + 1 := by omega
      have hb3 := Lib.hid (Blk.store14 hb2 (v0 := .int .i64 0) (v1 := .string ⟨#[]⟩) (v2 := .int .i64 0) (v3 := .float .f64 0) (v4 := .string ⟨#[]⟩) (v5 := .int .i64 0) (v6 := .int .i64 0) (v7 := .int .i64 0) (v8 := .int .i64 0) (v9 := .float .f64 0) (v10 := .int .i64 0) (v11 := .string ⟨#[]⟩) (v12 := .slice none 0 0) (v13 := .bool false))
      replace hcl2 := Lib.hid hcl2
      clear hb1 hE1 hcl1 hq hE2 hb2 hEA hbA hLA hcA hclA hbr hL
      go_wp2_with fail
      go_region
      go_wp2_with fail
      refine bodyPost_ret (results_ctt Tryd.results23 _ _ w.heap.size 33 #[.int .i64 0, .string ⟨#[]⟩, .int .i64 0, .float .f64 0, .string ⟨#[]⟩, .int .i64 0, .int .i64 0, .int .i64 0, .int .i64 0, .float .f64 0, .int .i64 0, .string ⟨#[]⟩, .slice none 0 0, .bool false] (0, 0) _ rfl ?_ Tryd.underlying33 rfl size_act) rfl ?_
      · exact blk_drew hb3.out
      · rw [hI.out]
        have hcl3 := hcl2.out
        exact ⟨none, 0, 0, rfl, RdItems.none_ _, Nat.zero_le _, by (repeat (first | (with_reducible exact Below.refl _ _) | (with_reducible assumption) | (with_reducible refine Below.setCell ?_ (by first | omega | (simp; done) | (simp; omega)) _) | (with_reducible refine Below.alloc ?_ (by first | omega | (simp; done) | (simp; omega)) _) | (with_reducible refine Below.drew ?_) | (with_reducible refine below_drewN ?_ _)))⟩
end Go.Proofs.YtocllhghbmbjpaaDoor
