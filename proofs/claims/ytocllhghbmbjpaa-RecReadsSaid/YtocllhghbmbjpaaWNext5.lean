/- The walk of the document's Next, of purses. (Printed by wip/tools/gen_next5.py out of next_text.) -/
import Derived.Test.YtocllhghbmbjpaaWNext4
set_option linter.unusedSimpArgs false
set_option linter.unusedVariables false
set_option maxRecDepth 20000
namespace Go.Proofs.Ytocllhghbmbjpaa
open Go.RowKit Moi
attribute [local go_sem] toList_str str_size less_ltB store_float
set_option maxHeartbeats 8000000 in
theorem next_purse (p : Nat) (A : Option Addr) (n c : Nat) (bs : List UInt8) (a : Nat) (w : World) (hE : IsE w p A n c bs a 0) (hA : ∀ ad, A = some ad → ad.block < w.heap.size) (a1 : Nat) (hU : rUpto 9 bs a = .ok (4, a1)) :
    Calls Try.prog 42 #[.pointer (some ⟨p, 0, none⟩)] w (NextPost w p A n c bs (rRec bs a)) := by
  have hI0 : Hid (rRec bs a = rBody 4 bs a1) := by unfold Hid rRec; simp only [hU]; rfl
  have hp0 := hE.blk.lt
  go_enter Try.func42, Try.ntmps42
  go_wp2_with fail
  refine (upto_new p A n c bs a 9 (by decide) _ (hE.cln (by (repeat (first | (with_reducible exact Below.refl _ _) | (with_reducible assumption) | (with_reducible refine Below.setCell ?_ (by first | omega | (simp; done) | (simp; omega)) _) | (with_reducible refine Below.alloc ?_ (by first | omega | (simp; done) | (simp; omega)) _) | (with_reducible refine Below.drew ?_) | (with_reducible refine below_drewN ?_ _)))))).mono ?_
  intro e w1 hP
  rw [hU] at hP
  obtain ⟨rfl, hE1, hk⟩ := hP
  have hkw := Lib.hid ((Kept.of_below (S := fun i => i = p) (show Cln w ((w.alloc (.cells #[.int .i64 0, .int .i64 0, .int .i64 0, .int .i64 0, .float .f64 0, .int .i64 0, .string ⟨#[]⟩, .slice none 0 0] 25)).alloc (.cells #[.int .i64 0, .int .i64 0, .int .i64 0, .int .i64 0, .float .f64 0, .int .i64 0, .string ⟨#[]⟩, .slice none 0 0] 25)) from by (repeat (first | (with_reducible exact Below.refl _ _) | (with_reducible assumption) | (with_reducible refine Below.setCell ?_ (by first | omega | (simp; done) | (simp; omega)) _) | (with_reducible refine Below.alloc ?_ (by first | omega | (simp; done) | (simp; omega)) _) | (with_reducible refine Below.drew ?_) | (with_reducible refine below_drewN ?_ _))))).then_ hk (fun i _ h => h))
  have hb2 := Lib.hid (((Blk.new w 25 #[.int .i64 0, .int .i64 0, .int .i64 0, .int .i64 0, .float .f64 0, .int .i64 0, .string ⟨#[]⟩, .slice none 0 0]).alloc (.cells #[.int .i64 0, .int .i64 0, .int .i64 0, .int .i64 0, .float .f64 0, .int .i64 0, .string ⟨#[]⟩, .slice none 0 0] 25)).kept hk (by show ¬ w.heap.size = p; omega))
  have hb3 := (Blk.new (w.alloc (.cells #[.int .i64 0, .int .i64 0, .int .i64 0, .int .i64 0, .float .f64 0, .int .i64 0, .string ⟨#[]⟩, .slice none 0 0] 25)) 25 #[.int .i64 0, .int .i64 0, .int .i64 0, .int .i64 0, .float .f64 0, .int .i64 0, .string ⟨#[]⟩, .slice none 0 0]).kept hk (by show ¬ (w.alloc _).heap.size = p; rw [World.size_alloc]; omega)
  rw [World.size_alloc] at hb3
  have c3 := hb3.cell; have f3 := hb3.frozen; have l3 := hb3.lt
  replace hb3 := Lib.hid hb3
  replace hE1 := Lib.hid hE1
  have hne3 : ¬ p = w.heap.size + 1 := by omega
  have hne3' : ¬ w.heap.size + 1 = p := by omega
  have hne2 : ¬ p = w.heap.size := by omega
  have hAo : Hid (∀ ad, A = some ad → ad.block < w.heap.size) := hA
  clear hE hk hU hA
  go_wp2_with fail
  rcases h1 : nxt (rI bs) 0 a1 0 with ⟨x1, a2, e2⟩
  rcases h2 : nxt (rI bs) 0 a2 e2 with ⟨x2, a3, e3⟩
  rcases h3 : nxt (rI bs) 0 a3 e3 with ⟨x3, a4, e4⟩
  have hI : Hid (rRec bs a = if e4 = 0 then rDone ⟨4, x3, x1, x2, 0, 0, [], []⟩ a4 else .error (e4, a4)) := by unfold Hid; rw [hI0.out]; exact rPurse_nxt h1 h2 h3
  have hw1 := Lib.hid (nxt_all (fun x : Int => -9223372036854775808 ≤ x ∧ x < 9223372036854775808) (by decide) (fun x a' h => rI_lt h) h1)
  have hw2 := Lib.hid (nxt_all (fun x : Int => -9223372036854775808 ≤ x ∧ x < 9223372036854775808) (by decide) (fun x a' h => rI_lt h) h2)
  have hw3 := Lib.hid (nxt_all (fun x : Int => -9223372036854775808 ≤ x ∧ x < 9223372036854775808) (by decide) (fun x a' h => rI_lt h) h3)
  replace h1 := Lib.hid h1; replace h2 := Lib.hid h2; replace h3 := Lib.hid h3
  refine (part_i_st p A n c bs a1 0 _ (hE1.out.other (by dsimp only; omega) (fun ad e => by have := hAo.out ad e; dsimp only; omega) _) 0 h1.out).mono ?_
  rintro e w2 ⟨⟨_, _, _, _, _, rfl⟩, hE2, hk2⟩
  have hb2w := Lib.hid ((hb2.out.far (p := ⟨w.heap.size + 1, 0, none⟩) (by dsimp only; omega) (.int .i64 4)).kept hk2 (by show ¬ w.heap.size = p; omega))
  have hb3w := Lib.hid ((Blk.store1 hb3.out 0 (.int .i64 4) (cs' := #[.int .i64 4, .int .i64 0, .int .i64 0, .int .i64 0, .float .f64 0, .int .i64 0, .string ⟨#[]⟩, .slice none 0 0]) rfl).kept hk2 (by show ¬ w.heap.size + 1 = p; omega))
  have hkw2 : Hid (Kept (· = p) w w2) := (hkw.out.setCell (p := ⟨w.heap.size + 1, 0, none⟩) (fun hl => by exfalso; dsimp only at hl; omega) (.int .i64 4)).then_ hk2 (fun i _ h => h)
  replace hE2 := Lib.hid hE2
  clear hk2 c3 f3 l3 hb2 hb3 hkw hE1
  have k30 := hb3w.out.cell 2; have k31 := hb3w.out.frozen 2; have l3 := hb3w.out.lt
  go_wp2_with (simp only [field_part2])
  refine (part_i_st p A n c bs a2 e2 _ (hE2.out.other (by dsimp only; omega) (fun ad e => by have := hAo.out ad e; dsimp only; omega) _) 0 h2.out).mono ?_
  rintro e w3 ⟨⟨_, _, _, _, _, rfl⟩, hE3, hk3⟩
  have hb2x := Lib.hid ((hb2w.out.far (p := ⟨w.heap.size + 1, 2, none⟩) (by dsimp only; omega) (.int .i64 x1)).kept hk3 (by show ¬ w.heap.size = p; omega))
  have hb3x := Lib.hid ((Blk.store1 hb3w.out 2 (.int .i64 x1) (cs' := #[.int .i64 4, .int .i64 0, .int .i64 x1, .int .i64 0, .float .f64 0, .int .i64 0, .string ⟨#[]⟩, .slice none 0 0]) rfl).kept hk3 (by show ¬ w.heap.size + 1 = p; omega))
  have hkw3 : Hid (Kept (· = p) w w3) := (hkw2.out.setCell (p := ⟨w.heap.size + 1, 2, none⟩) (fun hl => by exfalso; dsimp only at hl; omega) (.int .i64 x1)).then_ hk3 (fun i _ h => h)
  replace hE3 := Lib.hid hE3
  clear hk3 k30 k31 l3 hb2w hb3w hkw2 hE2
  have k30 := hb3x.out.cell 3; have k31 := hb3x.out.frozen 3; have l3 := hb3x.out.lt
  go_wp2_with (simp only [field_part2])
  refine (part_i_st p A n c bs a3 e3 _ (hE3.out.other (by dsimp only; omega) (fun ad e => by have := hAo.out ad e; dsimp only; omega) _) 0 h3.out).mono ?_
  rintro e w4 ⟨⟨_, _, _, _, _, rfl⟩, hE4, hk4⟩
  have hb2y := Lib.hid ((hb2x.out.far (p := ⟨w.heap.size + 1, 3, none⟩) (by dsimp only; omega) (.int .i64 x2)).kept hk4 (by show ¬ w.heap.size = p; omega))
  have hb3y := Lib.hid ((Blk.store1 hb3x.out 3 (.int .i64 x2) (cs' := #[.int .i64 4, .int .i64 0, .int .i64 x1, .int .i64 x2, .float .f64 0, .int .i64 0, .string ⟨#[]⟩, .slice none 0 0]) rfl).kept hk4 (by show ¬ w.heap.size + 1 = p; omega))
  have hkw4 : Hid (Kept (· = p) w w4) := (hkw3.out.setCell (p := ⟨w.heap.size + 1, 3, none⟩) (fun hl => by exfalso; dsimp only at hl; omega) (.int .i64 x2)).then_ hk4 (fun i _ h => h)
  have cE := hE4.blk.cell 2
  replace hE4 := Lib.hid hE4
  clear hk4 k30 k31 l3 hb2x hb3x hkw3 hE3
  by_cases hz4 : e4 = 0
  case neg =>
    have hJ : Hid (rRec bs a = .error (e4, a4)) := by unfold Hid; rw [hI.out]; rw [if_neg hz4]
    have t1 : (((e4 : Nat) : Int) == 0) = false := by rw [beq_eq_false_iff_ne]; omega
    have t2 : (((e4 : Nat) : Int) != 0) = true := by rw [bne_iff_ne]; omega
    have k30 := hb3y.out.cell 1; have k31 := hb3y.out.frozen 1; have l3 := hb3y.out.lt
    have c2 := hb2y.out.cell; have f2 := hb2y.out.frozen; have l2 := hb2y.out.lt
    have hn23 : ¬ w.heap.size = w.heap.size + 1 := by omega
    clear hI
    go_wp2_with (simp only [field_part2])
    refine bodyPost_ret (v := .agg #[.int .i64 0, .int .i64 0, .int .i64 0, .int .i64 0, .float .f64 0, .int .i64 0, .string ⟨#[]⟩, .slice none 0 0]) ?_ rfl ?_
    · refine results_cell_row Try.results42 _ _ w.heap.size 25 #[.int .i64 0, .int .i64 0, .int .i64 0, .int .i64 0, .float .f64 0, .int .i64 0, .string ⟨#[]⟩, .slice none 0 0] (0, 0) _ ?_ ?_ Try.underlying25 ?_ ?_
      · rfl
      · show Blk _ w.heap.size 25 _
        with_reducible refine Blk.store8 (a0 := .int .i64 0) (a1 := .int .i64 0) (a2 := .int .i64 0) (a3 := .int .i64 0) (a4 := .float .f64 0) (a5 := .int .i64 0) (a6 := .string ⟨#[]⟩) (a7 := .slice none 0 0) ?_
        repeat (first | with_reducible refine Blk.far ?_ (by dsimp only; omega) _ | with_reducible exact hb2y.out)
      · rfl
      · exact size_rec
    · rw [hJ.out]
      have hK : ∀ W : World, Kept (· = p) w W → True := fun _ _ => trivial
      refine ⟨rfl, ?_, ?_⟩
      · repeat (first | with_reducible refine IsE.other ?_ (by dsimp only; omega) (fun ad e => by have := hAo.out ad e; dsimp only; omega) _ | with_reducible exact hE4.out)
      · repeat (first | with_reducible refine Kept.setCell ?_ (fun hl => by first | rfl | (exfalso; dsimp only at hl; omega)) _ | with_reducible exact hkw4.out)
  case pos =>
    subst hz4
    replace hI : Hid (rRec bs a = rDone ⟨4, x3, x1, x2, 0, 0, [], []⟩ a4) := by unfold Hid; rw [hI.out]; rw [if_pos rfl]
    have k0 := hb3y.out.cell 0; have k1 := hb3y.out.cell 1; have k2 := hb3y.out.cell 2; have k3 := hb3y.out.cell 3; have k4 := hb3y.out.cell 4; have k5 := hb3y.out.cell 5; have k6 := hb3y.out.cell 6; have k7 := hb3y.out.cell 7
    have f6 := hb3y.out.frozen 1; have l3 := hb3y.out.lt
    have hwf : Hid ((⟨4, x3, x1, x2, 0, 0, [], []⟩ : MRec).WF) := by
      have q1 := hw1.out; have q2 := hw2.out; have q3 := hw3.out
      constructor <;> dsimp only <;> first | omega | exact q1 | exact q2 | exact q3
    have cC : ∀ W : World, Calls Try.prog 12 #[.agg #[.int .i64 4, .int .i64 x3, .int .i64 x1, .int .i64 x2, .float .f64 0, .int .i64 0, .string ⟨#[]⟩, .slice none 0 0]] W fun e w' => e = .returned (.int .i64 (checkRec ⟨4, x3, x1, x2, 0, 0, [], []⟩ : Nat)) ∧ Cln W w' := fun W => rcheck_any ⟨4, x3, x1, x2, 0, 0, [], []⟩ none 0 0 (by omega) hwf.out W (RdItems.none_ _)
    generalize hcd : checkRec ⟨4, x3, x1, x2, 0, 0, [], []⟩ = cd at cC
    replace hcd := Lib.hid hcd
    have hb2w := hb2y; have hb3w := hb3y; have hkw2 := hkw4; have hE2 := hE4
    clear hb2y hb3y hkw4 hE4 h1 h2 h3
    go_wp2_with (simp only [field_part2])
    refine (cC _).mono ?_
    rintro e w5 ⟨rfl, hq⟩
    have hb2x := Lib.hid ((hb2w.out.far (p := ⟨w.heap.size + 1, 1, none⟩) (by dsimp only; omega) (.int .i64 x3)).cln hq)
    have hb3x := Lib.hid ((Blk.store1 hb3w.out 1 (.int .i64 x3) (cs' := #[.int .i64 4, .int .i64 x3, .int .i64 x1, .int .i64 x2, .float .f64 0, .int .i64 0, .string ⟨#[]⟩, .slice none 0 0]) rfl).cln hq)
    have hE3 := Lib.hid ((hE2.out.other (q := ⟨w.heap.size + 1, 1, none⟩) (by dsimp only; omega) (fun ad e => by have := hAo.out ad e; dsimp only; omega) (.int .i64 x3)).cln hq)
    have hkw3 := Lib.hid ((hkw2.out.setCell (p := ⟨w.heap.size + 1, 1, none⟩) (fun hl => by exfalso; dsimp only at hl; omega) (.int .i64 x3)).below_ hq)
    clear hq k0 k1 k2 k3 k4 k5 k6 k7 f6 l3 hb2w hb3w hkw2 hE2 cE cC
    go_wp2_with fail
    refine (fail_new p A n c bs a4 cd _ hE3.out).mono ?_
    rintro e w6 ⟨rfl, hE4, hk4⟩
    have hb2y := Lib.hid (hb2x.out.kept hk4 (by show ¬ w.heap.size = p; omega))
    have hb3y := Lib.hid (hb3x.out.kept hk4 (by show ¬ w.heap.size + 1 = p; omega))
    have hkw4 := Lib.hid (hkw3.out.then_ hk4 (fun i _ h => h))
    have cE := hE4.blk.cell 2
    replace hE4 := Lib.hid hE4
    clear hk4 hb2x hb3x hkw3 hE3
    have c2 := hb2y.out.cell; have f2 := hb2y.out.frozen; have l2 := hb2y.out.lt; have l3 := hb3y.out.lt
    have hn23 : ¬ w.heap.size = w.heap.size + 1 := by omega
    by_cases hz : cd = 0
    · subst hz
      have hJ : Hid (rRec bs a = .ok (⟨4, x3, x1, x2, 0, 0, [], []⟩, a4)) := by unfold Hid; rw [hI.out]; unfold rDone; rw [if_pos hcd.out]
      have k0 := hb3y.out.cell 0; have k1 := hb3y.out.cell 1; have k2 := hb3y.out.cell 2; have k3 := hb3y.out.cell 3; have k4 := hb3y.out.cell 4; have k5 := hb3y.out.cell 5; have k6 := hb3y.out.cell 6; have k7 := hb3y.out.cell 7
      go_wp2_with fail
      refine bodyPost_ret (v := .agg #[.int .i64 4, .int .i64 x3, .int .i64 x1, .int .i64 x2, .float .f64 0, .int .i64 0, .string ⟨#[]⟩, .slice none 0 0]) ?_ rfl ?_
      · refine results_cell_row Try.results42 _ _ w.heap.size 25 #[.int .i64 4, .int .i64 x3, .int .i64 x1, .int .i64 x2, .float .f64 0, .int .i64 0, .string ⟨#[]⟩, .slice none 0 0] (0, 0) _ ?_ ?_ Try.underlying25 ?_ ?_
        · rfl
        · show Blk _ w.heap.size 25 _
          with_reducible refine Blk.store8 (a0 := .int .i64 0) (a1 := .int .i64 0) (a2 := .int .i64 0) (a3 := .int .i64 0) (a4 := .float .f64 0) (a5 := .int .i64 0) (a6 := .string ⟨#[]⟩) (a7 := .slice none 0 0) ?_
          repeat (first | with_reducible refine Blk.far ?_ (by dsimp only; omega) _ | with_reducible exact hb2y.out)
        · rfl
        · exact size_rec
      · rw [hJ.out]
        refine ⟨none, 0, 0, rfl, RdItems.none_ _, by omega, (fun ad e => by cases e), ?_, ?_⟩
        · repeat (first | with_reducible refine IsE.other ?_ (by dsimp only; omega) (fun ad e => by have := hAo.out ad e; dsimp only; omega) _ | with_reducible exact hE4.out)
        · repeat (first | with_reducible refine Kept.setCell ?_ (fun hl => by first | rfl | (exfalso; dsimp only at hl; omega)) _ | with_reducible exact hkw4.out)
    · have hJ : Hid (rRec bs a = .error (cd, a4)) := by unfold Hid; rw [hI.out]; unfold rDone; rw [if_neg (by rw [hcd.out]; exact hz), hcd.out]
      have t2 : (((cd : Nat) : Int) != 0) = true := by rw [bne_iff_ne]; omega
      go_wp2_with fail
      refine bodyPost_ret (v := .agg #[.int .i64 0, .int .i64 0, .int .i64 0, .int .i64 0, .float .f64 0, .int .i64 0, .string ⟨#[]⟩, .slice none 0 0]) ?_ rfl ?_
      · refine results_cell_row Try.results42 _ _ w.heap.size 25 #[.int .i64 0, .int .i64 0, .int .i64 0, .int .i64 0, .float .f64 0, .int .i64 0, .string ⟨#[]⟩, .slice none 0 0] (0, 0) _ ?_ ?_ Try.underlying25 ?_ ?_
        · rfl
        · show Blk _ w.heap.size 25 _
          with_reducible refine Blk.store8 (a0 := .int .i64 0) (a1 := .int .i64 0) (a2 := .int .i64 0) (a3 := .int .i64 0) (a4 := .float .f64 0) (a5 := .int .i64 0) (a6 := .string ⟨#[]⟩) (a7 := .slice none 0 0) ?_
          repeat (first | with_reducible refine Blk.far ?_ (by dsimp only; omega) _ | with_reducible exact hb2y.out)
        · rfl
        · exact size_rec
      · rw [hJ.out]
        refine ⟨rfl, ?_, ?_⟩
        · repeat (first | with_reducible refine IsE.other ?_ (by dsimp only; omega) (fun ad e => by have := hAo.out ad e; dsimp only; omega) _ | with_reducible exact hE4.out)
        · repeat (first | with_reducible refine Kept.setCell ?_ (fun hl => by first | rfl | (exfalso; dsimp only at hl; omega)) _ | with_reducible exact hkw4.out)
end Go.Proofs.Ytocllhghbmbjpaa
