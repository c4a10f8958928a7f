/- The walk of the document's Next: the record that comes next of bytes; where its kind can't be. -/
import Derived.Test.YtocllhghbmbjpaaWEye4
import Derived.Test.YtocllhghbmbjpaaWRCheck2
set_option linter.unusedSimpArgs false
set_option linter.unusedVariables false
set_option maxRecDepth 20000
namespace Go.Proofs.Ytocllhghbmbjpaa
open Go.RowKit Moi
attribute [local go_sem] toList_str str_size less_ltB store_float
/-- What comes of Next. -/
def NextPost (w : World) (p : Nat) (A : Option Addr) (n c : Nat) (bs : List UInt8) (res : RRes MRec) (e : Ending) (w' : World) : Prop :=
  match res with
  | .ok (r, a) => ∃ AL nL cL, e = .returned (recVal r AL nL cL) ∧ RdItems w' AL nL r.list ∧ nL ≤ 32 ∧ (∀ ad, AL = some ad → w.heap.size ≤ ad.block) ∧ IsE w' p A n c bs a 0 ∧ Kept (· = p) w w'
  | .error (cd, a) => e = .returned (recVal zeroRec none 0 0) ∧ IsE w' p A n c bs a cd ∧ Kept (· = p) w w'
theorem IsE.other {w : World} {p : Nat} {A : Option Addr} {n c : Nat} {bs : List UInt8} {a er : Nat} (h : IsE w p A n c bs a er) {q : Addr} (hp : p ≠ q.block) (hA : ∀ ad, A = some ad → ad.block ≠ q.block) (v : Value) : IsE (w.setCell q v) p A n c bs a er :=
  h.kept (S := fun i => i = q.block) ((Kept.refl (fun i => i = q.block) w).setCell (p := q) (fun _ => rfl) v) (fun e => hp e) (fun ad e h => hA ad e h)
theorem size_rec : (Try.prog.info? 25).map (·.size) = some 8 := by kernel_rfl
set_option maxHeartbeats 8000000 in
theorem next_err (p : Nat) (A : Option Addr) (n c : Nat) (bs : List UInt8) (a : Nat) (w : World) (hE : IsE w p A n c bs a 0) (hA : ∀ ad, A = some ad → ad.block < w.heap.size) (cd a1 : Nat) (hU : rUpto 9 bs a = .error (cd, a1)) :
    Calls Try.prog 42 #[.pointer (some ⟨p, 0, none⟩)] w (NextPost w p A n c bs (rRec bs a)) := by
  have hI : Hid (rRec bs a = .error (cd, a1)) := by unfold Hid rRec; rw [hU]
  have hnz := rUpto_nz hU
  have t1 : (((cd : Nat) : Int) == 0) = false := by rw [beq_eq_false_iff_ne]; simp at hnz; omega
  have t2 : (((cd : Nat) : Int) != 0) = true := by rw [bne_iff_ne]; simp at hnz; omega
  have hp0 := hE.blk.lt
  have hz : cd ≠ 0 := by simpa using hnz
  clear hnz
  go_enter Try.func42, Try.ntmps42
  go_wp2_with fail
  refine (upto_new p A n c bs a 9 (by decide) _ (hE.cln (by (repeat (first | (with_reducible exact Below.refl _ _) | (with_reducible assumption) | (with_reducible refine Below.setCell ?_ (by first | omega | (simp; done) | (simp; omega)) _) | (with_reducible refine Below.alloc ?_ (by first | omega | (simp; done) | (simp; omega)) _) | (with_reducible refine Below.drew ?_) | (with_reducible refine below_drewN ?_ _)))))).mono ?_
  intro e w1 hP
  rw [hU] at hP
  obtain ⟨rfl, hE1, hk⟩ := hP
  have hkw := Lib.hid ((Kept.of_below (S := fun i => i = p) (show Cln w ((w.alloc (.cells #[.int .i64 0, .int .i64 0, .int .i64 0, .int .i64 0, .float .f64 0, .int .i64 0, .string ⟨#[]⟩, .slice none 0 0] 25)).alloc (.cells #[.int .i64 0, .int .i64 0, .int .i64 0, .int .i64 0, .float .f64 0, .int .i64 0, .string ⟨#[]⟩, .slice none 0 0] 25)) from by (repeat (first | (with_reducible exact Below.refl _ _) | (with_reducible assumption) | (with_reducible refine Below.setCell ?_ (by first | omega | (simp; done) | (simp; omega)) _) | (with_reducible refine Below.alloc ?_ (by first | omega | (simp; done) | (simp; omega)) _) | (with_reducible refine Below.drew ?_) | (with_reducible refine below_drewN ?_ _))))).then_ hk (fun i _ h => h))
  have hb2 := Lib.hid (((Blk.new w 25 #[.int .i64 0, .int .i64 0, .int .i64 0, .int .i64 0, .float .f64 0, .int .i64 0, .string ⟨#[]⟩, .slice none 0 0]).alloc (.cells #[.int .i64 0, .int .i64 0, .int .i64 0, .int .i64 0, .float .f64 0, .int .i64 0, .string ⟨#[]⟩, .slice none 0 0] 25)).kept hk (by show ¬ w.heap.size = p; omega))
  have hb3 := (Blk.new (w.alloc (.cells #[.int .i64 0, .int .i64 0, .int .i64 0, .int .i64 0, .float .f64 0, .int .i64 0, .string ⟨#[]⟩, .slice none 0 0] 25)) 25 #[.int .i64 0, .int .i64 0, .int .i64 0, .int .i64 0, .float .f64 0, .int .i64 0, .string ⟨#[]⟩, .slice none 0 0]).kept hk (by show ¬ (w.alloc _).heap.size = p; rw [World.size_alloc]; omega)
  rw [World.size_alloc] at hb3
  have c3 := hb3.cell; have f3 := hb3.frozen; have l3 := hb3.lt
  replace hb3 := Lib.hid hb3
  replace hE1 := Lib.hid hE1
  have hne3 : ¬ p = w.heap.size + 1 := by omega
  have hne3' : ¬ w.heap.size + 1 = p := by omega
  have hne2 : ¬ p = w.heap.size := by omega
  have hAo : Hid (∀ ad, A = some ad → ad.block < w.heap.size) := hA
  clear hE hk hU hA
  go_wp2_with fail
  refine (fail_old p A n c bs a1 cd hz 5 _ (hE1.out.other (by dsimp only; omega) (fun ad e => by have := hAo.out ad e; dsimp only; omega) _)).mono ?_
  rintro e w2 ⟨rfl, rfl⟩
  have cE := hE1.out.blk.cell 2
  have k30 := hb3.out.cell 0; have k31 := hb3.out.frozen 0
  clear c3 f3
  have c2 := hb2.out.cell; have f2 := hb2.out.frozen; have l2 := hb2.out.lt
  have hn23 : ¬ w.heap.size = w.heap.size + 1 := by omega
  go_wp2_with fail
  refine bodyPost_ret (v := .agg #[.int .i64 0, .int .i64 0, .int .i64 0, .int .i64 0, .float .f64 0, .int .i64 0, .string ⟨#[]⟩, .slice none 0 0]) ?_ rfl ?_
  · refine results_cell_row Try.results42 _ _ w.heap.size 25 #[.int .i64 0, .int .i64 0, .int .i64 0, .int .i64 0, .float .f64 0, .int .i64 0, .string ⟨#[]⟩, .slice none 0 0] (0, 0) _ ?_ ?_ Try.underlying25 ?_ ?_
    · rfl
    · show Blk _ w.heap.size 25 _
      with_reducible refine Blk.store8 (a0 := .int .i64 0) (a1 := .int .i64 0) (a2 := .int .i64 0) (a3 := .int .i64 0) (a4 := .float .f64 0) (a5 := .int .i64 0) (a6 := .string ⟨#[]⟩) (a7 := .slice none 0 0) ?_
      repeat (first | with_reducible refine Blk.far ?_ (by dsimp only; omega) _ | with_reducible exact hb2.out)
    · rfl
    · exact size_rec
  · rw [hI.out]
    have hK : ∀ W : World, Kept (· = p) w W → True := fun _ _ => trivial
    refine ⟨rfl, ?_, ?_⟩
    · repeat (first | with_reducible refine IsE.other ?_ (by dsimp only; omega) (fun ad e => by have := hAo.out ad e; dsimp only; omega) _ | with_reducible exact hE1.out)
    · repeat (first | with_reducible refine Kept.setCell ?_ (fun hl => by first | rfl | (exfalso; dsimp only at hl; omega)) _ | with_reducible exact hkw.out)
set_option maxHeartbeats 8000000 in
theorem next_zero (p : Nat) (A : Option Addr) (n c : Nat) (bs : List UInt8) (a : Nat) (w : World) (hE : IsE w p A n c bs a 0) (hA : ∀ ad, A = some ad → ad.block < w.heap.size) (a1 : Nat) (hU : rUpto 9 bs a = .ok (0, a1)) :
    Calls Try.prog 42 #[.pointer (some ⟨p, 0, none⟩)] w (NextPost w p A n c bs (rRec bs a)) := by
  have hI : Hid (rRec bs a = .error (5, a1)) := by unfold Hid rRec; simp only [hU]; rfl
  have hp0 := hE.blk.lt
  go_enter Try.func42, Try.ntmps42
  go_wp2_with fail
  refine (upto_new p A n c bs a 9 (by decide) _ (hE.cln (by (repeat (first | (with_reducible exact Below.refl _ _) | (with_reducible assumption) | (with_reducible refine Below.setCell ?_ (by first | omega | (simp; done) | (simp; omega)) _) | (with_reducible refine Below.alloc ?_ (by first | omega | (simp; done) | (simp; omega)) _) | (with_reducible refine Below.drew ?_) | (with_reducible refine below_drewN ?_ _)))))).mono ?_
  intro e w1 hP
  rw [hU] at hP
  obtain ⟨rfl, hE1, hk⟩ := hP
  have hkw := Lib.hid ((Kept.of_below (S := fun i => i = p) (show Cln w ((w.alloc (.cells #[.int .i64 0, .int .i64 0, .int .i64 0, .int .i64 0, .float .f64 0, .int .i64 0, .string ⟨#[]⟩, .slice none 0 0] 25)).alloc (.cells #[.int .i64 0, .int .i64 0, .int .i64 0, .int .i64 0, .float .f64 0, .int .i64 0, .string ⟨#[]⟩, .slice none 0 0] 25)) from by (repeat (first | (with_reducible exact Below.refl _ _) | (with_reducible assumption) | (with_reducible refine Below.setCell ?_ (by first | omega | (simp; done) | (simp; omega)) _) | (with_reducible refine Below.alloc ?_ (by first | omega | (simp; done) | (simp; omega)) _) | (with_reducible refine Below.drew ?_) | (with_reducible refine below_drewN ?_ _))))).then_ hk (fun i _ h => h))
  have hb2 := Lib.hid (((Blk.new w 25 #[.int .i64 0, .int .i64 0, .int .i64 0, .int .i64 0, .float .f64 0, .int .i64 0, .string ⟨#[]⟩, .slice none 0 0]).alloc (.cells #[.int .i64 0, .int .i64 0, .int .i64 0, .int .i64 0, .float .f64 0, .int .i64 0, .string ⟨#[]⟩, .slice none 0 0] 25)).kept hk (by show ¬ w.heap.size = p; omega))
  have hb3 := (Blk.new (w.alloc (.cells #[.int .i64 0, .int .i64 0, .int .i64 0, .int .i64 0, .float .f64 0, .int .i64 0, .string ⟨#[]⟩, .slice none 0 0] 25)) 25 #[.int .i64 0, .int .i64 0, .int .i64 0, .int .i64 0, .float .f64 0, .int .i64 0, .string ⟨#[]⟩, .slice none 0 0]).kept hk (by show ¬ (w.alloc _).heap.size = p; rw [World.size_alloc]; omega)
  rw [World.size_alloc] at hb3
  have c3 := hb3.cell; have f3 := hb3.frozen; have l3 := hb3.lt
  replace hb3 := Lib.hid hb3
  replace hE1 := Lib.hid hE1
  have hne3 : ¬ p = w.heap.size + 1 := by omega
  have hne3' : ¬ w.heap.size + 1 = p := by omega
  have hne2 : ¬ p = w.heap.size := by omega
  have hAo : Hid (∀ ad, A = some ad → ad.block < w.heap.size) := hA
  clear hE hk hU hA
  go_wp2_with fail
  refine (fail_new p A n c bs a1 5 _ (hE1.out.other (by dsimp only; omega) (fun ad e => by have := hAo.out ad e; dsimp only; omega) _)).mono ?_
  rintro e w2 ⟨rfl, hE2, hk2⟩
  have hb2w := Lib.hid ((hb2.out.far (p := ⟨w.heap.size + 1, 0, none⟩) (by dsimp only; omega) (.int .i64 0)).kept hk2 (by show ¬ w.heap.size = p; omega))
  have hb3w := Lib.hid ((Blk.store1 hb3.out 0 (.int .i64 0) rfl).kept hk2 (by show ¬ w.heap.size + 1 = p; omega))
  have hkw2 : Hid (Kept (· = p) w w2) := (hkw.out.setCell (p := ⟨w.heap.size + 1, 0, none⟩) (fun hl => by exfalso; dsimp only at hl; omega) (.int .i64 0)).then_ hk2 (fun i _ h => h)
  have cE := hE2.blk.cell 2
  replace hE2 := Lib.hid hE2
  clear hk2 c3 f3 l3 hb2 hb3 hkw hE1
  have k30 := hb3w.out.cell 0; have l3 := hb3w.out.lt
  have c2 := hb2w.out.cell; have f2 := hb2w.out.frozen; have l2 := hb2w.out.lt
  have hn23 : ¬ w.heap.size = w.heap.size + 1 := by omega
  go_wp2_with fail
  refine bodyPost_ret (v := .agg #[.int .i64 0, .int .i64 0, .int .i64 0, .int .i64 0, .float .f64 0, .int .i64 0, .string ⟨#[]⟩, .slice none 0 0]) ?_ rfl ?_
  · refine results_cell_row Try.results42 _ _ w.heap.size 25 #[.int .i64 0, .int .i64 0, .int .i64 0, .int .i64 0, .float .f64 0, .int .i64 0, .string ⟨#[]⟩, .slice none 0 0] (0, 0) _ ?_ ?_ Try.underlying25 ?_ ?_
    · rfl
    · show Blk _ w.heap.size 25 _
      with_reducible refine Blk.store8 (a0 := .int .i64 0) (a1 := .int .i64 0) (a2 := .int .i64 0) (a3 := .int .i64 0) (a4 := .float .f64 0) (a5 := .int .i64 0) (a6 := .string ⟨#[]⟩) (a7 := .slice none 0 0) ?_
      repeat (first | with_reducible refine Blk.far ?_ (by dsimp only; omega) _ | with_reducible exact hb2w.out)
    · rfl
    · exact size_rec
  · rw [hI.out]
    have hK : ∀ W : World, Kept (· = p) w W → True := fun _ _ => trivial
    refine ⟨rfl, ?_, ?_⟩
    · repeat (first | with_reducible refine IsE.other ?_ (by dsimp only; omega) (fun ad e => by have := hAo.out ad e; dsimp only; omega) _ | with_reducible exact hE2.out)
    · repeat (first | with_reducible refine Kept.setCell ?_ (fun hl => by first | rfl | (exfalso; dsimp only at hl; omega)) _ | with_reducible exact hkw2.out)
end Go.Proofs.Ytocllhghbmbjpaa
