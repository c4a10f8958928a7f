/- The walk of the document's Read: the record that bytes are, or why there is none. -/
import Derived.Test.YtocllhghbmbjpaaWNext7
import Derived.Test.YtocllhghbmbjpaaWNext5
import Derived.Test.YtocllhghbmbjpaaWRead
import Derived.StillTailTactics
import Derived.BigRegion
set_option linter.unusedSimpArgs false
set_option linter.unusedVariables false
set_option maxRecDepth 20000
namespace Go.Proofs.Ytocllhghbmbjpaa
open Go.RowKit Moi
attribute [local go_sem] toList_str str_size less_ltB store_float
theorem next_any (p : Nat) (A : Option Addr) (n c : Nat) (bs : List UInt8) (a : Nat) (w : World) (hE : IsE w p A n c bs a 0) (hA : ∀ ad, A = some ad → ad.block < w.heap.size) :
    Calls Try.prog 42 #[.pointer (some ⟨p, 0, none⟩)] w (NextPost w p A n c bs (rRec bs a)) := by
  cases h : rUpto 9 bs a with
  | error er => obtain ⟨cd, a1⟩ := er; exact next_err p A n c bs a w hE hA cd a1 h
  | ok x =>
    obtain ⟨k, a1⟩ := x
    have hk := rUpto_le h
    have hcases : k = 0 ∨ k = 1 ∨ k = 2 ∨ k = 3 ∨ k = 4 ∨ k = 5 ∨ k = 6 ∨ k = 7 ∨ k = 8 ∨ k = 9 := by omega
    rcases hcases with h0 | h0 | h0 | h0 | h0 | h0 | h0 | h0 | h0 | h0
    all_goals subst h0
    · exact next_zero p A n c bs a w hE hA a1 h
    · exact next_text p A n c bs a w hE hA a1 h
    · exact next_num2 p A n c bs a w hE hA a1 h
    · exact next_num3 p A n c bs a w hE hA a1 h
    · exact next_purse p A n c bs a w hE hA a1 h
    · exact next_real5 p A n c bs a w hE hA a1 h
    · exact next_real6 p A n c bs a w hE hA a1 h
    · exact next_real7 p A n c bs a w hE hA a1 h
    · exact next_set p A n c bs a w hE hA a1 h
    · exact next_top p A n c bs a w hE hA a1 h
theorem end_old (p : Nat) (A : Option Addr) (n c : Nat) (bs : List UInt8) (a er : Nat) (hz : er ≠ 0) (w : World) (hE : IsE w p A n c bs a er) :
    Calls Try.prog 43 #[.pointer (some ⟨p, 0, none⟩)] w fun e w' => e = .returned (.tuple #[]) ∧ Cln w w' := by
  by_cases ha : a < n
  case neg =>
    obtain rfl : a = n := by have := hE.le; omega
    exact end_full p A a c bs er w hE
  have c0 := hE.blk.cell 0; have c1 := hE.blk.cell 1
  have t1 : decide ((a : Int) < (n : Int)) = true := decide_eq_true (by omega)
  have t1' : decide (a < n) = true := decide_eq_true ha
  have hEH := Lib.hid hE
  clear hE
  go_enter Try.func43, Try.ntmps43
  go_wp2_with fail
  go_quiet (fail)
  go_wp2_with fail
  refine (fail_old p A n c bs a er hz 3 _ (hEH.out.cln (by (repeat (first | (with_reducible exact Below.refl _ _) | (with_reducible assumption) | (with_reducible refine Below.setCell ?_ (by first | omega | (simp; done) | (simp; omega)) _) | (with_reducible refine Below.alloc ?_ (by first | omega | (simp; done) | (simp; omega)) _) | (with_reducible refine Below.drew ?_) | (with_reducible refine below_drewN ?_ _)))))).mono ?_
  rintro e w1 ⟨rfl, rfl⟩
  go_wp2_with fail
  go_end0
  exact ⟨rfl, by (repeat (first | (with_reducible exact Below.refl _ _) | (with_reducible assumption) | (with_reducible refine Below.setCell ?_ (by first | omega | (simp; done) | (simp; omega)) _) | (with_reducible refine Below.alloc ?_ (by first | omega | (simp; done) | (simp; omega)) _) | (with_reducible refine Below.drew ?_) | (with_reducible refine below_drewN ?_ _)))⟩
/-- What the document's Read hands back. -/
def RReadPost (w : World) (o : MRec × RErr) (e : Ending) (w' : World) : Prop :=
  ∃ AL nL cL, e = .returned (.tuple #[recVal o.1 AL nL cL, .int .i64 (o.2.1 : Nat), .int .i64 (o.2.2 : Nat)]) ∧ RdItems w' AL nL o.1.list ∧ nL ≤ 32 ∧ Cln w w'
set_option maxHeartbeats 8000000 in
theorem rread_any (A : Option Addr) (n c : Nat) (bs : List UInt8) (w : World) (hr : RdBytes w A n bs) (hc : n ≤ c) (hb : n ≤ 140737488355328) (hA : ∀ ad, A = some ad → ad.block < w.heap.size) :
    Calls Try.prog 18 #[.slice A n c] w (RReadPost w (readOut bs)) := by
  have hlen : Hid (bs.length = n) := hr.len
  have hcl0 : Cln w ((w.alloc (.cells #[.int .i64 0, .int .i64 0, .int .i64 0, .int .i64 0, .float .f64 0, .int .i64 0, .string ⟨#[]⟩, .slice none 0 0] 25)).alloc (.cells #[.slice A n c, .int .i64 0, .int .i64 0] 76)) := by (repeat (first | (with_reducible exact Below.refl _ _) | (with_reducible assumption) | (with_reducible refine Below.setCell ?_ (by first | omega | (simp; done) | (simp; omega)) _) | (with_reducible refine Below.alloc ?_ (by first | omega | (simp; done) | (simp; omega)) _) | (with_reducible refine Below.drew ?_) | (with_reducible refine below_drewN ?_ _)))
  have hE0 : IsE ((w.alloc (.cells #[.int .i64 0, .int .i64 0, .int .i64 0, .int .i64 0, .float .f64 0, .int .i64 0, .string ⟨#[]⟩, .slice none 0 0] 25)).alloc (.cells #[.slice A n c, .int .i64 0, .int .i64 0] 76)) (w.heap.size + 1) A n c bs 0 0 := by
    refine ⟨?_, hr.cln hcl0, Nat.zero_le _, hc, hb, fun ad e => by have := hA ad e; omega⟩
    have := Blk.new (w.alloc (.cells #[.int .i64 0, .int .i64 0, .int .i64 0, .int .i64 0, .float .f64 0, .int .i64 0, .string ⟨#[]⟩, .slice none 0 0] 25)) 76 #[.slice A n c, .int .i64 0, .int .i64 0]
    rw [World.size_alloc] at this
    exact this
  have hb0 := Lib.hid ((Blk.new w 25 #[.int .i64 0, .int .i64 0, .int .i64 0, .int .i64 0, .float .f64 0, .int .i64 0, .string ⟨#[]⟩, .slice none 0 0]).alloc (.cells #[.slice A n c, .int .i64 0, .int .i64 0] 76))
  have hAo : Hid (∀ ad, A = some ad → ad.block < w.heap.size) := hA
  replace hE0 := Lib.hid hE0
  clear hr hA
  go_enter Try.func18, Try.ntmps18
  go_wp2_with fail
  refine (next_any (w.heap.size + 1) A n c bs 0 _ hE0.out (fun ad e => by have := hAo.out ad e; simp only [World.size_alloc]; omega)).mono ?_
  intro e w1 hP
  cases hR : rRec bs 0 with
  | error er =>
    obtain ⟨cd, a1⟩ := er
    rw [hR] at hP
    obtain ⟨rfl, hE1, hk1⟩ := hP
    have hI : Hid (readOut bs = (zeroRec, (cd, a1))) := by unfold Hid readOut; rw [hR]
    have hz : cd ≠ 0 := rRec_nz hR
    have t1 : (((cd : Nat) : Int) != 0) = true := by rw [bne_iff_ne]; omega
    have hb1 := Lib.hid (hb0.out.kept hk1 (show ¬ w.heap.size = w.heap.size + 1 by omega))
    have hcl1 : Cln w w1 := ((Kept.of_below (S := fun i => i = w.heap.size + 1) hcl0).trans hk1).toBelow (Nat.le_refl _) (fun i hi h => by omega)
    have hlt1 : w.heap.size + 1 < w1.heap.size := hE1.blk.lt
    replace hE1 := Lib.hid hE1
    replace hcl1 := Lib.hid hcl1
    rw [show recVal zeroRec none 0 0 = .agg #[.int .i64 0, .int .i64 0, .int .i64 0, .int .i64 0, .float .f64 0, .int .i64 0, .string ⟨#[]⟩, .slice none 0 0] from rfl]
    clear hb0 hE0 hk1 hcl0 hR
    go_wp2_with fail
    refine (end_old (w.heap.size + 1) A n c bs a1 cd hz _ (hE1.out.cln (by (repeat (first | (with_reducible exact Below.refl _ _) | (with_reducible assumption) | (with_reducible refine Below.setCell ?_ (by first | omega | (simp; done) | (simp; omega)) _) | (with_reducible refine Below.alloc ?_ (by first | omega | (simp; done) | (simp; omega)) _) | (with_reducible refine Below.drew ?_) | (with_reducible refine below_drewN ?_ _)))))).mono ?_
    rintro e w2 ⟨rfl, hq⟩
    have hq1 : Cln w1 w2 := cln_trans (by (repeat (first | (with_reducible exact Below.refl _ _) | (with_reducible assumption) | (with_reducible refine Below.setCell ?_ (by first | omega | (simp; done) | (simp; omega)) _) | (with_reducible refine Below.alloc ?_ (by first | omega | (simp; done) | (simp; omega)) _) | (with_reducible refine Below.drew ?_) | (with_reducible refine below_drewN ?_ _)))) hq
    have hE2 := hE1.out.cln hq1
    have hb2 := hb1.out.cln hq1
    have hcl2 : Cln w w2 := cln_trans hcl1.out hq1
    have c1 := hE2.blk.cell 1; have c2 := hE2.blk.cell 2; have lE := hE2.blk.lt
    have f0 := hb2.frozen; have l0 := hb2.lt
    have k0 := hb2.cell 0; have k1 := hb2.cell 1; have k2 := hb2.cell 2; have k3 := hb2.cell 3; have k4 := hb2.cell 4; have k5 := hb2.cell 5; have k6 := hb2.cell 6; have k7 := hb2.cell 7
    have hne : ¬ w.heap.size = w.heap.size + 1 := by omega
    have hb3 := Lib.hid (hb2.store8 (v0 := .int .i64 0) (v1 := .int .i64 0) (v2 := .int .i64 0) (v3 := .int .i64 0) (v4 := .float .f64 0) (v5 := .int .i64 0) (v6 := .string ⟨#[]⟩) (v7 := .slice none 0 0))
    replace hcl2 := Lib.hid hcl2
    clear hb1 hE1 hcl1 hq hq1 hE2 hb2
    go_wp2_with fail
    go_region
    go_wp2_with fail
    refine bodyPost_ret (results_ctt Try.results18 _ _ w.heap.size 25 #[.int .i64 0, .int .i64 0, .int .i64 0, .int .i64 0, .float .f64 0, .int .i64 0, .string ⟨#[]⟩, .slice none 0 0] (0, 0) _ rfl ?_ Try.underlying25 rfl size_rec) rfl ?_
    · exact blk_drew hb3.out
    · rw [hI.out]
      have hcl3 := hcl2.out
      exact ⟨none, 0, 0, rfl, RdItems.none_ _, Nat.zero_le _, by (repeat (first | (with_reducible exact Below.refl _ _) | (with_reducible assumption) | (with_reducible refine Below.setCell ?_ (by first | omega | (simp; done) | (simp; omega)) _) | (with_reducible refine Below.alloc ?_ (by first | omega | (simp; done) | (simp; omega)) _) | (with_reducible refine Below.drew ?_) | (with_reducible refine below_drewN ?_ _)))⟩
  | ok x =>
    obtain ⟨r, a1⟩ := x
    rw [hR] at hP
    obtain ⟨AL, nL, cL, rfl, hL, hn32, hge, hE1, hk1⟩ := hP
    have hb1 := Lib.hid (hb0.out.kept hk1 (show ¬ w.heap.size = w.heap.size + 1 by omega))
    have hcl1 : Cln w w1 := ((Kept.of_below (S := fun i => i = w.heap.size + 1) hcl0).trans hk1).toBelow (Nat.le_refl _) (fun i hi h => by omega)
    have hlt1 : w.heap.size + 1 < w1.heap.size := hE1.blk.lt
    have hge' : Hid (∀ ad, AL = some ad → w.heap.size + 2 ≤ ad.block) := fun ad e => by have := hge ad e; simp only [World.size_alloc] at this; omega
    replace hE1 := Lib.hid hE1
    replace hcl1 := Lib.hid hcl1
    replace hL := Lib.hid hL
    replace hR := Lib.hid hR
    unfold recVal
    clear hb0 hE0 hk1 hcl0 hge
    go_wp2_with fail
    have hclA : Cln w1 (w1.alloc (.cells #[.int .i64 r.kind, .int .i64 r.num, .int .i64 r.low, .int .i64 r.high, .float .f64 r.real, .int .i64 r.cap, .string (str r.text), .slice AL nL cL] 25)) := by (repeat (first | (with_reducible exact Below.refl _ _) | (with_reducible assumption) | (with_reducible refine Below.setCell ?_ (by first | omega | (simp; done) | (simp; omega)) _) | (with_reducible refine Below.alloc ?_ (by first | omega | (simp; done) | (simp; omega)) _) | (with_reducible refine Below.drew ?_) | (with_reducible refine below_drewN ?_ _)))
    have hbr := Blk.new w1 25 #[.int .i64 r.kind, .int .i64 r.num, .int .i64 r.low, .int .i64 r.high, .float .f64 r.real, .int .i64 r.cap, .string (str r.text), .slice AL nL cL]
    have hEA := hE1.out.cln hclA
    have hbA := hb1.out.cln hclA
    have hLA := hL.out.cln hclA
    have hcA : Cln w _ := cln_trans hcl1.out hclA
    by_cases hlt : a1 < n
    case neg =>
      obtain rfl : a1 = n := by have := hEA.le; omega
      have hI : Hid (readOut bs = (r, (0, 0))) := by unfold Hid readOut; rw [hR.out]; simp only [rEnd]; rw [if_neg (by rw [hlen.out]; omega)]
      refine (end_full (w.heap.size + 1) A a1 c bs 0 _ hEA).mono ?_
      rintro e w2 ⟨rfl, hq⟩
      have hE2 := hEA.cln hq
      have hb2 := hbA.cln hq
      have hbr2 := hbr.cln hq
      have hcl2 : Cln w w2 := cln_trans hcA hq
      have c2 := hE2.blk.cell 2; have lE := hE2.blk.lt
      have k0 := hbr2.cell 0; have k1 := hbr2.cell 1; have k2 := hbr2.cell 2; have k3 := hbr2.cell 3; have k4 := hbr2.cell 4; have k5 := hbr2.cell 5; have k6 := hbr2.cell 6; have k7 := hbr2.cell 7; have lr := hbr2.lt
      have q0 := hb2.cell
      have f0 := hb2.frozen; have l0 := hb2.lt
      have hne : ¬ w.heap.size = w.heap.size + 1 := by omega
      have hne2 : ¬ w1.heap.size = w.heap.size := by omega
      have hfk := fill8_kept w2 w.heap.size (.int .i64 r.kind) (.int .i64 r.num) (.int .i64 r.low) (.int .i64 r.high) (.float .f64 r.real) (.int .i64 r.cap) (.string (str r.text)) (.slice AL nL cL)
      have hb3 := Lib.hid (hb2.store8 (v0 := .int .i64 r.kind) (v1 := .int .i64 r.num) (v2 := .int .i64 r.low) (v3 := .int .i64 r.high) (v4 := .float .f64 r.real) (v5 := .int .i64 r.cap) (v6 := .string (str r.text)) (v7 := .slice AL nL cL))
      have hL3 := Lib.hid ((hLA.cln hq).kept hfk (fun ad e _ h2 => by have := hge'.out ad e; omega))
      have hcl3 : Hid (Cln w (fill8 w2 w.heap.size (.int .i64 r.kind) (.int .i64 r.num) (.int .i64 r.low) (.int .i64 r.high) (.float .f64 r.real) (.int .i64 r.cap) (.string (str r.text)) (.slice AL nL cL))) := ((Kept.of_below (S := fun i => i = w.heap.size) hcl2).trans hfk).toBelow (Nat.le_refl _) (fun i hi h => by omega)
      clear hb1 hE1 hcl1 hq hE2 hb2 hEA hbA hLA hcA hclA hbr hbr2 hcl2 hfk hL
      go_wp2_with fail
      refine bodyPost_ret (results_ctt Try.results18 _ _ w.heap.size 25 #[.int .i64 r.kind, .int .i64 r.num, .int .i64 r.low, .int .i64 r.high, .float .f64 r.real, .int .i64 r.cap, .string (str r.text), .slice AL nL cL] (0, 0) _ rfl ?_ Try.underlying25 rfl size_rec) rfl ?_
      · exact hb3.out
      · rw [hI.out]
        exact ⟨AL, nL, cL, rfl, hL3.out, hn32, hcl3.out⟩
    case pos =>
      have hI : Hid (readOut bs = (zeroRec, (3, a1))) := by unfold Hid readOut; rw [hR.out]; simp only [rEnd]; rw [if_pos (by rw [hlen.out]; omega)]
      refine (end_left (w.heap.size + 1) A n c bs a1 hlt _ hEA).mono ?_
      rintro e w2 ⟨rfl, hE2, hq⟩
      have hb2 := hbA.kept hq (show ¬ w.heap.size = w.heap.size + 1 by omega)
      have hcl2 : Cln w w2 := ((Kept.of_below (S := fun i => i = w.heap.size + 1) hcA).trans hq).toBelow (Nat.le_refl _) (fun i hi h => by omega)
      have c1 := hE2.blk.cell 1; have c2 := hE2.blk.cell 2; have lE := hE2.blk.lt
      have f0 := hb2.frozen; have l0 := hb2.lt
      have k0 := hb2.cell 0; have k1 := hb2.cell 1; have k2 := hb2.cell 2; have k3 := hb2.cell 3; have k4 := hb2.cell 4; have k5 := hb2.cell 5; have k6 := hb2.cell 6; have k7 := hb2.cell 7
      have hne : ¬ w.heap.size = w.heap.size + 1 := by omega
      have hb3 := Lib.hid (hb2.store8 (v0 := .int .i64 0) (v1 := .int .i64 0) (v2 := .int .i64 0) (v3 := .int .i64 0) (v4 := .float .f64 0) (v5 := .int .i64 0) (v6 := .string ⟨#[]⟩) (v7 := .slice none 0 0))
      replace hcl2 := Lib.hid hcl2
      clear hb1 hE1 hcl1 hq hE2 hb2 hEA hbA hLA hcA hclA hbr hL
      go_wp2_with fail
      go_region
      go_wp2_with fail
      refine bodyPost_ret (results_ctt Try.results18 _ _ w.heap.size 25 #[.int .i64 0, .int .i64 0, .int .i64 0, .int .i64 0, .float .f64 0, .int .i64 0, .string ⟨#[]⟩, .slice none 0 0] (0, 0) _ rfl ?_ Try.underlying25 rfl size_rec) rfl ?_
      · exact blk_drew hb3.out
      · rw [hI.out]
        have hcl3 := hcl2.out
        exact ⟨none, 0, 0, rfl, RdItems.none_ _, Nat.zero_le _, by (repeat (first | (with_reducible exact Below.refl _ _) | (with_reducible assumption) | (with_reducible refine Below.setCell ?_ (by first | omega | (simp; done) | (simp; omega)) _) | (with_reducible refine Below.alloc ?_ (by first | omega | (simp; done) | (simp; omega)) _) | (with_reducible refine Below.drew ?_) | (with_reducible refine below_drewN ?_ _)))⟩
end Go.Proofs.Ytocllhghbmbjpaa
