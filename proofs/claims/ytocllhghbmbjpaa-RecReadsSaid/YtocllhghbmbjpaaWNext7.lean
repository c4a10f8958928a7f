/- The walk of the document's Next, of lists with scores. (Printed by wip/tools/gen_next6.py.) -/
import Derived.Test.YtocllhghbmbjpaaWNext6
set_option linter.unusedSimpArgs false
set_option linter.unusedVariables false
set_option maxRecDepth 20000
namespace Go.Proofs.Ytocllhghbmbjpaa
open Go.RowKit Moi
attribute [local go_sem] toList_str str_size less_ltB store_float
set_option maxHeartbeats 8000000 in
theorem next_top (p : Nat) (A : Option Addr) (n c : Nat) (bs : List UInt8) (a : Nat) (w : World) (hE : IsE w p A n c bs a 0) (hA : ∀ ad, A = some ad → ad.block < w.heap.size) (a1 : Nat) (hU : rUpto 9 bs a = .ok (9, a1)) :
    Calls Try.prog 42 #[.pointer (some ⟨p, 0, none⟩)] w (NextPost w p A n c bs (rRec bs a)) := by
  have hI0 : Hid (rRec bs a = rBody 9 bs a1) := by unfold Hid rRec; simp only [hU]; rfl
  have hp0 := hE.blk.lt
  go_enter Try.func42, Try.ntmps42
  go_wp2_with fail
  refine (upto_new p A n c bs a 9 (by decide) _ (hE.cln (by (repeat (first | (with_reducible exact Below.refl _ _) | (with_reducible assumption) | (with_reducible refine Below.setCell ?_ (by first | omega | (simp; done) | (simp; omega)) _) | (with_reducible refine Below.alloc ?_ (by first | omega | (simp; done) | (simp; omega)) _) | (with_reducible refine Below.drew ?_) | (with_reducible refine below_drewN ?_ _)))))).mono ?_
  intro e w1 hP
  rw [hU] at hP
  obtain ⟨rfl, hE1, hk⟩ := hP
  rcases h1 : nxt (rUpto 32 bs) 0 a1 0 with ⟨cc, a2, e2⟩
  rcases h2 : nxt (rUpto 32 bs) 0 a2 e2 with ⟨m, a3, e3⟩
  have hI : Hid (rRec bs a = rListEnd 9 cc (eGo true bs m [] a3 e3)) := by unfold Hid; rw [hI0.out]; exact rList_nxt (by decide) h1 h2
  have hcc : cc ≤ 32 := nxt_all (fun x : Nat => x ≤ 32) (by decide) (fun x a' h => rUpto_le h) h1
  have hm : m ≤ 32 := nxt_all (fun x : Nat => x ≤ 32) (by decide) (fun x a' h => rUpto_le h) h2
  replace h1 := Lib.hid h1; replace h2 := Lib.hid h2
  have hb2 := ((Blk.new w 25 #[.int .i64 0, .int .i64 0, .int .i64 0, .int .i64 0, .float .f64 0, .int .i64 0, .string ⟨#[]⟩, .slice none 0 0]).alloc (.cells #[.int .i64 0, .int .i64 0, .int .i64 0, .int .i64 0, .float .f64 0, .int .i64 0, .string ⟨#[]⟩, .slice none 0 0] 25)).kept hk (by show ¬ w.heap.size = p; omega)
  have hb3 := (Blk.new (w.alloc (.cells #[.int .i64 0, .int .i64 0, .int .i64 0, .int .i64 0, .float .f64 0, .int .i64 0, .string ⟨#[]⟩, .slice none 0 0] 25)) 25 #[.int .i64 0, .int .i64 0, .int .i64 0, .int .i64 0, .float .f64 0, .int .i64 0, .string ⟨#[]⟩, .slice none 0 0]).kept hk (by show ¬ (w.alloc _).heap.size = p; rw [World.size_alloc]; omega)
  rw [World.size_alloc] at hb3
  have st0 : EyeS w p A n c bs #[.int .i64 0, .int .i64 0, .int .i64 0, .int .i64 0, .float .f64 0, .int .i64 0, .string ⟨#[]⟩, .slice none 0 0] w1 a1 0 :=
    ⟨hE1, (Kept.of_below (S := fun i => i = p) (show Cln w ((w.alloc (.cells #[.int .i64 0, .int .i64 0, .int .i64 0, .int .i64 0, .float .f64 0, .int .i64 0, .string ⟨#[]⟩, .slice none 0 0] 25)).alloc (.cells #[.int .i64 0, .int .i64 0, .int .i64 0, .int .i64 0, .float .f64 0, .int .i64 0, .string ⟨#[]⟩, .slice none 0 0] 25)) from by (repeat (first | (with_reducible exact Below.refl _ _) | (with_reducible assumption) | (with_reducible refine Below.setCell ?_ (by first | omega | (simp; done) | (simp; omega)) _) | (with_reducible refine Below.alloc ?_ (by first | omega | (simp; done) | (simp; omega)) _) | (with_reducible refine Below.drew ?_) | (with_reducible refine below_drewN ?_ _))))).then_ hk (fun i _ h => h), hb2, hb3, hp0, hA⟩
  have st1 := st0.store (cs1' := #[.int .i64 9, .int .i64 0, .int .i64 0, .int .i64 0, .float .f64 0, .int .i64 0, .string ⟨#[]⟩, .slice none 0 0]) 0 (.int .i64 9) rfl
  have c3 := hb3.cell 0; have f3 := hb3.frozen 0; have l3 := hb3.lt
  replace st1 := Lib.hid st1
  have hAo : Hid (∀ ad, A = some ad → ad.block < w.heap.size) := hA
  clear hE hE1 hk hU hA hb2 hb3 st0 hI0
  go_wp2_with fail
  refine (upto_st p A n c bs a1 0 _ st1.out.e 32 (by decide) h1.out).mono ?_
  rintro e w2 ⟨rfl, hE2, hk2⟩
  have st2 := st1.out.step hE2 hk2
  clear c3 f3 l3 st1 hE2 hk2
  have c3 := st2.b1.cell 5; have f3 := st2.b1.frozen 5; have l3 := st2.b1.lt
  have st3 := Lib.hid (st2.store (cs1' := #[.int .i64 9, .int .i64 0, .int .i64 0, .int .i64 0, .float .f64 0, .int .i64 (cc : Int), .string ⟨#[]⟩, .slice none 0 0]) 5 (.int .i64 (cc : Int)) rfl)
  clear st2
  go_wp2_with fail
  refine (upto_st p A n c bs a2 e2 _ st3.out.e 32 (by decide) h2.out).mono ?_
  rintro e w3 ⟨rfl, hE3, hk3⟩
  have st4 := st3.out.step hE3 hk3
  clear c3 f3 l3 hE3 hk3
  have hL0 : EyeL w p A n c bs 9 cc 0 [] none 0 w3 a3 e3 := ⟨st4, World.ownsRow_nil _ _ _ _, fun j => by simp [itAt], by have := st4.b1.lt; omega⟩
  have hH0 : Hid (rRec bs a = rListEnd 9 cc (eGo true bs (m - 0) [] a3 e3)) := hI
  clear h1 h2 hI st3 st4
  go_wp2_with fail
  go_loopw [5] (fun v wr => ∃ (i : Nat) (acc : List MItem) (A' : Option Addr) (c' ar er : Nat), i ≤ m ∧ v = .int .i64 (i : Nat) ∧ EyeL w p A n c bs 9 cc i acc A' c' wr ar er ∧ Hid (rRec bs a = rListEnd 9 cc (eGo true bs (m - i) acc ar er))) (fun v _ => (m - intOf v).toNat)
  case atStart => exact ⟨0, [], none, 0, a3, e3, Nat.zero_le _, rfl, hL0, hH0⟩
  case round =>
    obtain ⟨i, acc, A', c', ar, er, hi, rfl, hT, hH⟩ := hrel
    clear hL0 hH0
    by_cases hz : er = 0
    case neg =>
      by_cases hlt5 : i < m
      · have t2 : decide ((i : Int) < (m : Int)) = true := decide_eq_true (by omega)
        have hJ : Hid (rRec bs a = .error (er, ar)) := by unfold Hid; rw [hH.out]; unfold eGo; rw [if_neg hz]; rfl
        have t3 : (((er : Nat) : Int) == 0) = false := by rw [beq_eq_false_iff_ne]; omega
        have t4 : (((er : Nat) : Int) != 0) = true := by rw [bne_iff_ne]; omega
        have stF := hT.st
        have cE := stF.e.blk.cell 2
        have hlp := stF.e.blk.lt
        have hm := stF.b0.frozen
        have hl0 := stF.b0.lt
        have hc0 := stF.b0.cell
        have hfin := stF.b0.store8 (v0 := .int .i64 0) (v1 := .int .i64 0) (v2 := .int .i64 0) (v3 := .int .i64 0) (v4 := .float .f64 0) (v5 := .int .i64 0) (v6 := .string ⟨#[]⟩) (v7 := .slice none 0 0)
        have hEe := Lib.hid (stF.e.kept (fill8_kept wr w.heap.size (.int .i64 0) (.int .i64 0) (.int .i64 0) (.int .i64 0) (.float .f64 0) (.int .i64 0) (.string ⟨#[]⟩) (.slice none 0 0)) (fun e => by have := stF.Bp; omega) (fun ad e h2 => by have := stF.BA ad e; omega))
        have hKw := Lib.hid (stF.K.then_ (fill8_kept wr w.heap.size (.int .i64 0) (.int .i64 0) (.int .i64 0) (.int .i64 0) (.float .f64 0) (.int .i64 0) (.string ⟨#[]⟩) (.slice none 0 0)) (fun i hi h2 => by exfalso; omega))
        replace hfin := Lib.hid hfin
        have hpn := stF.Bp
        have hn0p : ¬ p = w.heap.size := by omega
        clear hT hH stF
        go_wp2_with fail
        refine bodyPost_ret (v := .agg #[.int .i64 0, .int .i64 0, .int .i64 0, .int .i64 0, .float .f64 0, .int .i64 0, .string ⟨#[]⟩, .slice none 0 0]) ?_ rfl ?_
        · refine results_cell_row Try.results42 _ _ w.heap.size 25 #[.int .i64 0, .int .i64 0, .int .i64 0, .int .i64 0, .float .f64 0, .int .i64 0, .string ⟨#[]⟩, .slice none 0 0] (0, 0) _ ?_ ?_ Try.underlying25 ?_ ?_
          · rfl
          · exact hfin.out
          · rfl
          · exact size_rec
        · rw [hJ.out]
          exact ⟨rfl, hEe.out, hKw.out⟩
      · have t2 : decide ((i : Int) < (m : Int)) = false := decide_eq_false (by omega)
        have hJ : Hid (rRec bs a = .error (er, ar)) := by unfold Hid; rw [hH.out]; unfold eGo; rw [if_neg hz]; rfl
        have t3 : (((er : Nat) : Int) == 0) = false := by rw [beq_eq_false_iff_ne]; omega
        have t4 : (((er : Nat) : Int) != 0) = true := by rw [bne_iff_ne]; omega
        have stF := hT.st
        have cE := stF.e.blk.cell 2
        have hlp := stF.e.blk.lt
        have hm := stF.b0.frozen
        have hl0 := stF.b0.lt
        have hc0 := stF.b0.cell
        have hfin := stF.b0.store8 (v0 := .int .i64 0) (v1 := .int .i64 0) (v2 := .int .i64 0) (v3 := .int .i64 0) (v4 := .float .f64 0) (v5 := .int .i64 0) (v6 := .string ⟨#[]⟩) (v7 := .slice none 0 0)
        have hEe := Lib.hid (stF.e.kept (fill8_kept wr w.heap.size (.int .i64 0) (.int .i64 0) (.int .i64 0) (.int .i64 0) (.float .f64 0) (.int .i64 0) (.string ⟨#[]⟩) (.slice none 0 0)) (fun e => by have := stF.Bp; omega) (fun ad e h2 => by have := stF.BA ad e; omega))
        have hKw := Lib.hid (stF.K.then_ (fill8_kept wr w.heap.size (.int .i64 0) (.int .i64 0) (.int .i64 0) (.int .i64 0) (.float .f64 0) (.int .i64 0) (.string ⟨#[]⟩) (.slice none 0 0)) (fun i hi h2 => by exfalso; omega))
        replace hfin := Lib.hid hfin
        have hpn := stF.Bp
        have hn0p : ¬ p = w.heap.size := by omega
        clear hT hH stF
        go_wp2_with fail
        refine bodyPost_ret (v := .agg #[.int .i64 0, .int .i64 0, .int .i64 0, .int .i64 0, .float .f64 0, .int .i64 0, .string ⟨#[]⟩, .slice none 0 0]) ?_ rfl ?_
        · refine results_cell_row Try.results42 _ _ w.heap.size 25 #[.int .i64 0, .int .i64 0, .int .i64 0, .int .i64 0, .float .f64 0, .int .i64 0, .string ⟨#[]⟩, .slice none 0 0] (0, 0) _ ?_ ?_ Try.underlying25 ?_ ?_
          · rfl
          · exact hfin.out
          · rfl
          · exact size_rec
        · rw [hJ.out]
          exact ⟨rfl, hEe.out, hKw.out⟩
    subst hz
    by_cases hlt5 : i < m
    · have t2 : decide ((i : Int) < (m : Int)) = true := decide_eq_true (by omega)
      have cE := hT.st.e.blk.cell 2
      have hlp := hT.st.e.blk.lt
      have hd := hT.st.b1.cell
      have hdl := hT.st.b1.lt
      have hdn : ¬ w.heap.size + 1 = wr.heap.size := by omega
      have hdn' : ¬ wr.heap.size = w.heap.size + 1 := by omega
      have hpn : ¬ p = wr.heap.size := by omega
      have hno := Lib.hid hT.fresh
      have hpx : Hid (wr.heap.size ≠ p) := by unfold Hid; omega
      have hBx : Hid (w.heap.size + 2 ≤ wr.heap.size) := hT.Bs
      have T0 := hT.cln ((Below.refl _ _).alloc (Nat.le_refl _) (.cells #[.float .f64 0, .string ⟨#[]⟩] 45))
      have x0 := Blk.new wr 45 #[.float .f64 0, .string ⟨#[]⟩]
      rcases h1 : nxt (rF bs) (funkey 0) ar 0 with ⟨s, ar1, er1⟩
      rcases h2 : nxt (rS 16 bs) [] ar1 er1 with ⟨x, ar2, er2⟩
      have hH9 : Hid (rRec bs a = rListEnd 9 cc (eGo true bs (m - (i + 1)) (acc ++ [⟨s, x⟩]) ar2 er2)) := hH.out.trans (congrArg (rListEnd 9 cc) (eGo_top hlt5 h1 h2))
      have hsx : s < 18446744073709551616 := nxt_all (fun x : Nat => x < 18446744073709551616) funkey_lt0 (fun x a' h => rF_lt h) h1
      replace h1 := Lib.hid h1; replace h2 := Lib.hid h2
      clear hT hH
      obtain ⟨i0, hi0, hz0, hz1, hz2⟩ := info_parts Try.info45
      go_wp2_with fail
      refine (part_f_st p A n c bs ar 0 _ T0.st.e 0 h1.out).mono ?_
      rintro e w5 ⟨⟨_, _, _, K, _, _, rfl, hK1, hK2⟩, hE5, hk5⟩
      have T1 := T0.step hE5 hk5
      have x1 := x0.kept hk5 hpx.out
      have T2 := T1.far (keptSet w5 wr.heap.size 0 (.float .f64 s)) hBx.out hno.out
      have x2 : Blk _ _ _ #[.float .f64 s, .string ⟨#[]⟩] := Blk.store1 x1 0 (.float .f64 s) rfl
      replace hK2 := Lib.hid hK2
      clear hd hdl hE5 hk5 cE hlp
      have hd := T1.st.b1.cell
      have hdl := T1.st.b1.lt
      have xc := x1.cell 0
      have xf := x1.frozen 0
      have xl := x1.lt
      go_wp2_with (simp only [field_part3])
      refine (number_any K hK1 _).mono ?_
      rintro e w9 ⟨rfl, rfl⟩
      rw [hK2.out]
      go_wp2_with fail
      refine (part_s_st p A n c bs ar1 er1 _ T2.st.e 16 (by decide) h2.out).mono ?_
      rintro e w6 ⟨⟨_, _, _, _, _, rfl⟩, hE6, hk6⟩
      have T3 := T2.step hE6 hk6
      have x3 := x2.kept hk6 hpx.out
      have T4 := T3.far (keptSet w6 wr.heap.size 1 (.string (str x))) hBx.out hno.out
      clear hd hdl xc xf xl hE6 hk6 T1 T2 x1 x2 hK1 hK2
      have hd := T3.st.b1.cell
      have hdl := T3.st.b1.lt
      have xc := x3.cell
      have xf := x3.frozen
      have xl := x3.lt
      clear T0 x0
      go_wp2_with (first | (simp only [field_part4]) | (
        at_builtin
        refine wpList_push rfl _ _ 23 rfl (w.heap.size + 2) 45 i0 (.agg #[.float .f64 0, .string ⟨#[]⟩]) 2 24 Try.underlying23 hi0 hz0 hz1 hz2 rfl (by decide) (by decide) (.slice A' i c') i (itemVals acc) [.float .f64 s, .string (str x)] rfl (by simp [Value.oneCell']) rfl (by simp only [World.size_setCell]; rfl) T4.own (by omega) T4.Bs ?_
        intro v' w1 hown1 hg1
        obtain ⟨A2, c2, rfl, _, _⟩ := own_form hown1
        rw [itemVals_snoc acc ⟨s, x⟩] at hown1
        obtain ⟨hst, hBs⟩ := T4.grow hg1
        have T5 := Lib.hid (T4.push hsx hst hBs hown1)
        clear hd hdl xc xf xl hown1 hg1
        have hd := hst.b1.cell
        have hdl := hst.b1.lt
        have hdf := hst.b1.frozen
        clear hst))
      go_roundw
      case rel => exact ⟨i + 1, _, A2, c2, _, _, hlt5, by go_num, T5.out, hH9⟩
      case measure => simp [intOf]; omega
    · obtain rfl : i = m := by omega
      have t2 : decide ((i : Int) < (i : Int)) = false := decide_eq_false (by omega)
      have hspec9 : Hid (rRec bs a = rDone ⟨9, 0, 0, 0, 0, (cc : Int), [], acc⟩ ar) := by unfold Hid; rw [hH.out, Nat.sub_self]; rfl
      have hLI : RdItems wr A' i acc := own_items hT.own hT.wf
      have hge : Hid (∀ ad, A' = some ad → w.heap.size + 2 ≤ ad.block) := fun ad e => by
        obtain ⟨A3, c3, hv3, hA3, _⟩ := own_form hT.own
        injection hv3 with h1 h2 h3
        exact (hA3 ad (h1 ▸ e)).2.2.1
      have st9 := hT.st
      clear hH hT
      have cE := st9.e.blk.cell 2
      have hlp := st9.e.blk.lt
      have hc9 := st9.b1.cell
      have hl9 := st9.b1.lt
      have hwf : Hid ((⟨9, 0, 0, 0, 0, (cc : Int), [], acc⟩ : MRec).WF) := by constructor <;> dsimp only <;> omega
      have cC : ∀ W : World, Cln wr W → Calls Try.prog 12 #[.agg #[.int .i64 9, .int .i64 0, .int .i64 0, .int .i64 0, .float .f64 0, .int .i64 (cc : Int), .string ⟨#[]⟩, .slice A' i c']] W fun e w' => e = .returned (.int .i64 (checkRec ⟨9, 0, 0, 0, 0, (cc : Int), [], acc⟩ : Nat)) ∧ Cln W w' := fun W hW => rcheck_any ⟨9, 0, 0, 0, 0, (cc : Int), [], acc⟩ A' i c' (by omega) hwf.out W (RdItems.cln hLI hW)
      generalize hcd : checkRec ⟨9, 0, 0, 0, 0, (cc : Int), [], acc⟩ = cd at cC
      replace hcd := Lib.hid hcd
      go_wp2_with fail
      refine (cC _ (by (repeat (first | (with_reducible exact Below.refl _ _) | (with_reducible assumption) | (with_reducible refine Below.setCell ?_ (by first | omega | (simp; done) | (simp; omega)) _) | (with_reducible refine Below.alloc ?_ (by first | omega | (simp; done) | (simp; omega)) _) | (with_reducible refine Below.drew ?_) | (with_reducible refine below_drewN ?_ _))))).mono ?_
      rintro e w4 ⟨rfl, hq⟩
      have st10 := Lib.hid (st9.cln hq)
      have hL10 : Hid (RdItems w4 A' i acc) := RdItems.cln hLI hq
      clear cE hlp hc9 hl9 cC st9 hq hLI
      go_wp2_with fail
      refine (fail_new p A n c bs ar cd _ st10.out.e).mono ?_
      rintro e w5 ⟨rfl, hE5, hk5⟩
      have hL11 : Hid (RdItems w5 A' i acc) := hL10.out.kept hk5 (fun ad e _ h2 => by have := hge.out ad e; have := st10.out.Bp; omega)
      have stF := st10.out.step hE5 hk5
      have cE := stF.e.blk.cell 2
      have hlp := stF.e.blk.lt
      have hm := stF.b0.frozen
      have hl0 := stF.b0.lt
      have hc0 := stF.b0.cell
      have hpn : ¬ p = w.heap.size := by have := stF.Bp; omega
      clear st10 hE5 hk5 hL10
      by_cases hz : cd = 0
      · subst hz
        have hJ : Hid (rRec bs a = .ok (⟨9, 0, 0, 0, 0, (cc : Int), [], acc⟩, ar)) := by unfold Hid; rw [hspec9.out]; unfold rDone; rw [if_pos hcd.out]
        have hc1 := stF.b1.cell
        have hl1 := stF.b1.lt
        have hfin := Lib.hid (stF.b0.store8 (v0 := .int .i64 9) (v1 := .int .i64 0) (v2 := .int .i64 0) (v3 := .int .i64 0) (v4 := .float .f64 0) (v5 := .int .i64 (cc : Int)) (v6 := .string ⟨#[]⟩) (v7 := .slice A' i c'))
        have hfk := fill8_kept w5 w.heap.size (.int .i64 9) (.int .i64 0) (.int .i64 0) (.int .i64 0) (.float .f64 0) (.int .i64 (cc : Int)) (.string ⟨#[]⟩) (.slice A' i c')
        have hEe := Lib.hid (stF.e.kept hfk (fun e => by have := stF.Bp; omega) (fun ad e h2 => by have := stF.BA ad e; omega))
        have hKw := Lib.hid (stF.K.then_ hfk (fun i hi h2 => by exfalso; omega))
        have hLL := Lib.hid (hL11.out.kept hfk (fun ad e _ h2 => by have := hge.out ad e; omega))
        clear hfk stF hL11
        go_wp2_with fail
        refine bodyPost_ret (v := .agg #[.int .i64 9, .int .i64 0, .int .i64 0, .int .i64 0, .float .f64 0, .int .i64 (cc : Int), .string ⟨#[]⟩, .slice A' i c']) ?_ rfl ?_
        · refine results_cell_row Try.results42 _ _ w.heap.size 25 #[.int .i64 9, .int .i64 0, .int .i64 0, .int .i64 0, .float .f64 0, .int .i64 (cc : Int), .string ⟨#[]⟩, .slice A' i c'] (0, 0) _ ?_ ?_ Try.underlying25 ?_ ?_
          · rfl
          · exact hfin.out
          · rfl
          · exact size_rec
        · rw [hJ.out]
          exact ⟨A', i, c', rfl, hLL.out, by omega, (fun ad e => by have := hge.out ad e; omega), hEe.out, hKw.out⟩
      · have hJ : Hid (rRec bs a = .error (cd, ar)) := by unfold Hid; rw [hspec9.out]; unfold rDone; rw [if_neg (by rw [hcd.out]; exact hz), hcd.out]
        have t4 : (((cd : Nat) : Int) != 0) = true := by rw [bne_iff_ne]; omega
        have hfin := Lib.hid (stF.b0.store8 (v0 := .int .i64 0) (v1 := .int .i64 0) (v2 := .int .i64 0) (v3 := .int .i64 0) (v4 := .float .f64 0) (v5 := .int .i64 0) (v6 := .string ⟨#[]⟩) (v7 := .slice none 0 0))
        have hfk := fill8_kept w5 w.heap.size (.int .i64 0) (.int .i64 0) (.int .i64 0) (.int .i64 0) (.float .f64 0) (.int .i64 0) (.string ⟨#[]⟩) (.slice none 0 0)
        have hEe := Lib.hid (stF.e.kept hfk (fun e => by have := stF.Bp; omega) (fun ad e h2 => by have := stF.BA ad e; omega))
        have hKw := Lib.hid (stF.K.then_ hfk (fun i hi h2 => by exfalso; omega))
        clear hfk stF hL11
        go_wp2_with fail
        refine bodyPost_ret (v := .agg #[.int .i64 0, .int .i64 0, .int .i64 0, .int .i64 0, .float .f64 0, .int .i64 0, .string ⟨#[]⟩, .slice none 0 0]) ?_ rfl ?_
        · refine results_cell_row Try.results42 _ _ w.heap.size 25 #[.int .i64 0, .int .i64 0, .int .i64 0, .int .i64 0, .float .f64 0, .int .i64 0, .string ⟨#[]⟩, .slice none 0 0] (0, 0) _ ?_ ?_ Try.underlying25 ?_ ?_
          · rfl
          · exact hfin.out
          · rfl
          · exact size_rec
        · rw [hJ.out]
          exact ⟨rfl, hEe.out, hKw.out⟩
end Go.Proofs.Ytocllhghbmbjpaa
