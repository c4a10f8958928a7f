import Derived.Test.YtoeoodiifpoomaaGreatDoorEyes
import Derived.Test.YtoeoodiifpoomaaGreatDoorChecks2
import Derived.Test.YtoeoodiifpoomaaGreatDoorTakes
/- The walk of the document's Next: the record that comes next of bytes; where its kind can't be. -/
set_option linter.unusedSimpArgs false
set_option linter.unusedVariables false
set_option maxRecDepth 20000
namespace Go.Proofs.YtoeoodiifpoomaaGreatDoor
open Go.RowKit Moi
attribute [local go_sem] toList_str str_size less_ltB store_float
theorem hzNexts0 (w : World) : Cln w ((w.alloc (.cells #[.int .i64 0, .int .i64 0, .int .i64 0, .int .i64 0, .float .f64 0, .int .i64 0, .string ⟨#[]⟩, .slice none 0 0] 83)).alloc (.cells #[.int .i64 0, .int .i64 0, .int .i64 0, .int .i64 0, .float .f64 0, .int .i64 0, .string ⟨#[]⟩, .slice none 0 0] 83)) := by (repeat with_reducible first | exact cR _ | assumption | refine cA ?_ _ | refine cD ?_ | refine cN ?_ _ | refine cS ?_ (by first | omega | (simp <;> omega)) _)
def NextPost (w : World) (p : Nat) (A : Option Addr) (n c : Nat) (bs : List UInt8) (res : RRes MRec) (e : Ending) (w' : World) : Prop :=
 match res with
 | .ok (r, a) => ∃ AL nL cL, e = .returned (recVal r AL nL cL) ∧ RdItems w' AL nL r.list ∧ nL ≤ 32 ∧ (∀ ad, AL = some ad → w.heap.size ≤ ad.block) ∧ IsE w' p A n c bs a 0 ∧ Kept (· = p) w w'
 | .error (cd, a) => e = .returned (recVal zeroRec none 0 0) ∧ IsE w' p A n c bs a cd ∧ Kept (· = p) w w'
theorem IsE.other {w : World} {p : Nat} {A : Option Addr} {n c : Nat} {bs : List UInt8} {a er : Nat} (h : IsE w p A n c bs a er) {q : Addr} (hp : p ≠ q.block) (hA : ∀ ad, A = some ad → ad.block ≠ q.block) (v : Value) : IsE (w.setCell q v) p A n c bs a er :=
 h.kept (S := fun i => i = q.block) ((Kept.refl (fun i => i = q.block) w).setCell (p := q) (fun _ => rfl) v) (fun e => hp e) (fun ad e h => hA ad e h)
theorem size_rec : (Tryz.prog.info? 83).map (·.size) = some 8 := by kernel_rfl
set_option maxHeartbeats 8000000 in
theorem next_err (p : Nat) (A : Option Addr) (n c : Nat) (bs : List UInt8) (a : Nat) (w : World) (hE : IsE w p A n c bs a 0) (hA : ∀ ad, A = some ad → ad.block < w.heap.size) (cd a1 : Nat) (hU : rUpto 9 bs a = .error (cd, a1)) :
  Calls Tryz.prog 137 #[.pointer (some ⟨p, 0, none⟩)] w (NextPost w p A n c bs (rRec bs a)) := by
 have hI : Hid (rRec bs a = .error (cd, a1)) := by unfold Hid rRec; rw [hU]
 have hnz := rUpto_nz hU
 have t1 : (((cd : Nat) : Int) == 0) = false := by rw [beq_eq_false_iff_ne]; simp at hnz; omega
 have t2 : (((cd : Nat) : Int) != 0) = true := by rw [bne_iff_ne]; simp at hnz; omega
 have hp0 := hE.blk.lt
 have hz : cd ≠ 0 := by simpa using hnz
 clear hnz
 go_enter Tryz.func137, Tryz.ntmps137
 go_wp2_with fail
 refine (upto_new p A n c bs a 9 (by decide) _ (hE.cln (by (repeat with_reducible first | exact cR _ | assumption | refine cA ?_ _ | refine cD ?_ | refine cN ?_ _ | refine cS ?_ (by first | omega | (simp <;> omega)) _)))).mono ?_
 intro e w1 hP
 rw [hU] at hP
 obtain ⟨rfl, hE1, hk⟩ := hP
 have hkw := Lib.hid ((Kept.of_below (S := fun i => i = p) (hzNexts0 w)).then_ hk (fun i _ h => h))
 have hb2 := Lib.hid (((Blk.new w 83 #[.int .i64 0, .int .i64 0, .int .i64 0, .int .i64 0, .float .f64 0, .int .i64 0, .string ⟨#[]⟩, .slice none 0 0]).alloc (.cells #[.int .i64 0, .int .i64 0, .int .i64 0, .int .i64 0, .float .f64 0, .int .i64 0, .string ⟨#[]⟩, .slice none 0 0] 83)).kept hk (by show ¬ w.heap.size = p; omega))
 have hb3 := (Blk.new (w.alloc (.cells #[.int .i64 0, .int .i64 0, .int .i64 0, .int .i64 0, .float .f64 0, .int .i64 0, .string ⟨#[]⟩, .slice none 0 0] 83)) 83 #[.int .i64 0, .int .i64 0, .int .i64 0, .int .i64 0, .float .f64 0, .int .i64 0, .string ⟨#[]⟩, .slice none 0 0]).kept hk (by show ¬ (w.alloc _).heap.size = p; rw [World.size_alloc]; omega)
 rw [World.size_alloc] at hb3
 have c3 := hb3.cell; have f3 := hb3.frozen; have l3 := hb3.lt
 replace hb3 := Lib.hid hb3
 replace hE1 := Lib.hid hE1
 have hne3 : ¬ p = w.heap.size + 1 := by omega
 have hne3' : ¬ w.heap.size + 1 = p := by omega
 have hne2 : ¬ p = w.heap.size := by omega
 have hAo : Hid (∀ ad, A = some ad → ad.block < w.heap.size) := hA
 clear hE hk hU hA
 go_wp2_with fail
 refine (fail_old p A n c bs a1 cd hz 5 _ (hE1.out.other (by dsimp only; omega) (fun ad e => by have := hAo.out ad e; dsimp only; omega) _)).mono ?_
 rintro e w2 ⟨rfl, rfl⟩
 have cE := hE1.out.blk.cell 2
 have k30 := hb3.out.cell 0; have k31 := hb3.out.frozen 0
 clear c3 f3
 have c2 := hb2.out.cell; have f2 := hb2.out.frozen; have l2 := hb2.out.lt
 have hn23 : ¬ w.heap.size = w.heap.size + 1 := by omega
 go_wp2_with fail
 refine bodyPost_ret (v := .agg #[.int .i64 0, .int .i64 0, .int .i64 0, .int .i64 0, .float .f64 0, .int .i64 0, .string ⟨#[]⟩, .slice none 0 0]) ?_ rfl ?_
 ·refine results_cell_row Tryz.results137 _ _ w.heap.size 83 #[.int .i64 0, .int .i64 0, .int .i64 0, .int .i64 0, .float .f64 0, .int .i64 0, .string ⟨#[]⟩, .slice none 0 0] (0, 0) _ ?_ ?_ Tryz.underlying83 ?_ ?_
  ·rfl
  ·show Blk _ w.heap.size 83 _
   with_reducible refine Blk.store8 (a0 := .int .i64 0) (a1 := .int .i64 0) (a2 := .int .i64 0) (a3 := .int .i64 0) (a4 := .float .f64 0) (a5 := .int .i64 0) (a6 := .string ⟨#[]⟩) (a7 := .slice none 0 0) ?_
   repeat (first | with_reducible refine Blk.far ?_ (by dsimp only; omega) _ | with_reducible exact hb2.out)
  ·rfl
  ·exact size_rec
 ·rw [hI.out]
  have hK : ∀ W : World, Kept (· = p) w W → True := fun _ _ => trivial
  refine ⟨rfl, ?_, ?_⟩
  ·repeat (first | with_reducible refine IsE.other ?_ (by dsimp only; omega) (fun ad e => by have := hAo.out ad e; dsimp only; omega) _ | with_reducible exact hE1.out)
  ·repeat (first | with_reducible refine Kept.setCell ?_ (fun hl => by first | rfl | (exfalso; dsimp only at hl; omega)) _ | with_reducible exact hkw.out)
set_option maxHeartbeats 8000000 in
theorem next_zero (p : Nat) (A : Option Addr) (n c : Nat) (bs : List UInt8) (a : Nat) (w : World) (hE : IsE w p A n c bs a 0) (hA : ∀ ad, A = some ad → ad.block < w.heap.size) (a1 : Nat) (hU : rUpto 9 bs a = .ok (0, a1)) :
  Calls Tryz.prog 137 #[.pointer (some ⟨p, 0, none⟩)] w (NextPost w p A n c bs (rRec bs a)) := by
 have hI : Hid (rRec bs a = .error (5, a1)) := by unfold Hid rRec; simp only [hU]; rfl
 have hp0 := hE.blk.lt
 go_enter Tryz.func137, Tryz.ntmps137
 go_wp2_with fail
 refine (upto_new p A n c bs a 9 (by decide) _ (hE.cln (by (repeat with_reducible first | exact cR _ | assumption | refine cA ?_ _ | refine cD ?_ | refine cN ?_ _ | refine cS ?_ (by first | omega | (simp <;> omega)) _)))).mono ?_
 intro e w1 hP
 rw [hU] at hP
 obtain ⟨rfl, hE1, hk⟩ := hP
 have hkw := Lib.hid ((Kept.of_below (S := fun i => i = p) (hzNexts0 w)).then_ hk (fun i _ h => h))
 have hb2 := Lib.hid (((Blk.new w 83 #[.int .i64 0, .int .i64 0, .int .i64 0, .int .i64 0, .float .f64 0, .int .i64 0, .string ⟨#[]⟩, .slice none 0 0]).alloc (.cells #[.int .i64 0, .int .i64 0, .int .i64 0, .int .i64 0, .float .f64 0, .int .i64 0, .string ⟨#[]⟩, .slice none 0 0] 83)).kept hk (by show ¬ w.heap.size = p; omega))
 have hb3 := (Blk.new (w.alloc (.cells #[.int .i64 0, .int .i64 0, .int .i64 0, .int .i64 0, .float .f64 0, .int .i64 0, .string ⟨#[]⟩, .slice none 0 0] 83)) 83 #[.int .i64 0, .int .i64 0, .int .i64 0, .int .i64 0, .float .f64 0, .int .i64 0, .string ⟨#[]⟩, .slice none 0 0]).kept hk (by show ¬ (w.alloc _).heap.size = p; rw [World.size_alloc]; omega)
 rw [World.size_alloc] at hb3
 have c3 := hb3.cell; have f3 := hb3.frozen; have l3 := hb3.lt
 replace hb3 := Lib.hid hb3
 replace hE1 := Lib.hid hE1
 have hne3 : ¬ p = w.heap.size + 1 := by omega
 have hne3' : ¬ w.heap.size + 1 = p := by omega
 have hne2 : ¬ p = w.heap.size := by omega
 have hAo : Hid (∀ ad, A = some ad → ad.block < w.heap.size) := hA
 clear hE hk hU hA
 go_wp2_with fail
 refine (fail_new p A n c bs a1 5 _ (hE1.out.other (by dsimp only; omega) (fun ad e => by have := hAo.out ad e; dsimp only; omega) _)).mono ?_
 rintro e w2 ⟨rfl, hE2, hk2⟩
 have hb2w := Lib.hid ((hb2.out.far (p := ⟨w.heap.size + 1, 0, none⟩) (by dsimp only; omega) (.int .i64 0)).kept hk2 (by show ¬ w.heap.size = p; omega))
 have hb3w := Lib.hid ((Blk.store1 hb3.out 0 (.int .i64 0) rfl).kept hk2 (by show ¬ w.heap.size + 1 = p; omega))
 have hkw2 : Hid (Kept (· = p) w w2) := (hkw.out.setCell (p := ⟨w.heap.size + 1, 0, none⟩) (fun hl => by exfalso; dsimp only at hl; omega) (.int .i64 0)).then_ hk2 (fun i _ h => h)
 have cE := hE2.blk.cell 2
 replace hE2 := Lib.hid hE2
 clear hk2 c3 f3 l3 hb2 hb3 hkw hE1
 have k30 := hb3w.out.cell 0; have l3 := hb3w.out.lt
 have c2 := hb2w.out.cell; have f2 := hb2w.out.frozen; have l2 := hb2w.out.lt
 have hn23 : ¬ w.heap.size = w.heap.size + 1 := by omega
 go_wp2_with fail
 refine bodyPost_ret (v := .agg #[.int .i64 0, .int .i64 0, .int .i64 0, .int .i64 0, .float .f64 0, .int .i64 0, .string ⟨#[]⟩, .slice none 0 0]) ?_ rfl ?_
 ·refine results_cell_row Tryz.results137 _ _ w.heap.size 83 #[.int .i64 0, .int .i64 0, .int .i64 0, .int .i64 0, .float .f64 0, .int .i64 0, .string ⟨#[]⟩, .slice none 0 0] (0, 0) _ ?_ ?_ Tryz.underlying83 ?_ ?_
  ·rfl
  ·show Blk _ w.heap.size 83 _
   with_reducible refine Blk.store8 (a0 := .int .i64 0) (a1 := .int .i64 0) (a2 := .int .i64 0) (a3 := .int .i64 0) (a4 := .float .f64 0) (a5 := .int .i64 0) (a6 := .string ⟨#[]⟩) (a7 := .slice none 0 0) ?_
   repeat (first | with_reducible refine Blk.far ?_ (by dsimp only; omega) _ | with_reducible exact hb2w.out)
  ·rfl
  ·exact size_rec
 ·rw [hI.out]
  have hK : ∀ W : World, Kept (· = p) w W → True := fun _ _ => trivial
  refine ⟨rfl, ?_, ?_⟩
  ·repeat (first | with_reducible refine IsE.other ?_ (by dsimp only; omega) (fun ad e => by have := hAo.out ad e; dsimp only; omega) _ | with_reducible exact hE2.out)
  ·repeat (first | with_reducible refine Kept.setCell ?_ (fun hl => by first | rfl | (exfalso; dsimp only at hl; omega)) _ | with_reducible exact hkw2.out)
theorem field_part2 (x0 x1 x2 x3 : Int) (x4 : ByteArray) (x5 : Bool) (W : World) : (Instr.field 132 (.agg #[.int .u8 x0, .int .u64 x1, .int .i64 x2, .int .u64 x3, .string x4, .bool x5]) 2).run Tryz.prog W = .ok (.int .i64 x2) W := by kernel_rfl
theorem field_part3 (x0 x1 x2 x3 : Int) (x4 : ByteArray) (x5 : Bool) (W : World) : (Instr.field 132 (.agg #[.int .u8 x0, .int .u64 x1, .int .i64 x2, .int .u64 x3, .string x4, .bool x5]) 3).run Tryz.prog W = .ok (.int .u64 x3) W := by kernel_rfl
theorem field_part4 (x0 x1 x2 x3 : Int) (x4 : ByteArray) (x5 : Bool) (W : World) : (Instr.field 132 (.agg #[.int .u8 x0, .int .u64 x1, .int .i64 x2, .int .u64 x3, .string x4, .bool x5]) 4).run Tryz.prog W = .ok (.string x4) W := by kernel_rfl
set_option maxHeartbeats 8000000 in
theorem next_text (p : Nat) (A : Option Addr) (n c : Nat) (bs : List UInt8) (a : Nat) (w : World) (hE : IsE w p A n c bs a 0) (hA : ∀ ad, A = some ad → ad.block < w.heap.size) (a1 : Nat) (hU : rUpto 9 bs a = .ok (1, a1)) :
  Calls Tryz.prog 137 #[.pointer (some ⟨p, 0, none⟩)] w (NextPost w p A n c bs (rRec bs a)) := by
 have hI0 : Hid (rRec bs a = rBody 1 bs a1) := by unfold Hid rRec; simp only [hU]; rfl
 have hp0 := hE.blk.lt
 go_enter Tryz.func137, Tryz.ntmps137
 go_wp2_with fail
 refine (upto_new p A n c bs a 9 (by decide) _ (hE.cln (by (repeat with_reducible first | exact cR _ | assumption | refine cA ?_ _ | refine cD ?_ | refine cN ?_ _ | refine cS ?_ (by first | omega | (simp <;> omega)) _)))).mono ?_
 intro e w1 hP
 rw [hU] at hP
 obtain ⟨rfl, hE1, hk⟩ := hP
 have hkw := Lib.hid ((Kept.of_below (S := fun i => i = p) (hzNexts0 w)).then_ hk (fun i _ h => h))
 have hb2 := Lib.hid (((Blk.new w 83 #[.int .i64 0, .int .i64 0, .int .i64 0, .int .i64 0, .float .f64 0, .int .i64 0, .string ⟨#[]⟩, .slice none 0 0]).alloc (.cells #[.int .i64 0, .int .i64 0, .int .i64 0, .int .i64 0, .float .f64 0, .int .i64 0, .string ⟨#[]⟩, .slice none 0 0] 83)).kept hk (by show ¬ w.heap.size = p; omega))
 have hb3 := (Blk.new (w.alloc (.cells #[.int .i64 0, .int .i64 0, .int .i64 0, .int .i64 0, .float .f64 0, .int .i64 0, .string ⟨#[]⟩, .slice none 0 0] 83)) 83 #[.int .i64 0, .int .i64 0, .int .i64 0, .int .i64 0, .float .f64 0, .int .i64 0, .string ⟨#[]⟩, .slice none 0 0]).kept hk (by show ¬ (w.alloc _).heap.size = p; rw [World.size_alloc]; omega)
 rw [World.size_alloc] at hb3
 have c3 := hb3.cell; have f3 := hb3.frozen; have l3 := hb3.lt
 replace hb3 := Lib.hid hb3
 replace hE1 := Lib.hid hE1
 have hne3 : ¬ p = w.heap.size + 1 := by omega
 have hne3' : ¬ w.heap.size + 1 = p := by omega
 have hne2 : ¬ p = w.heap.size := by omega
 have hAo : Hid (∀ ad, A = some ad → ad.block < w.heap.size) := hA
 clear hE hk hU hA
 go_wp2_with fail
 refine (part_s p A n c bs a1 _ (hE1.out.other (by dsimp only; omega) (fun ad e => by have := hAo.out ad e; dsimp only; omega) _) 64 (by decide)).mono ?_
 intro e w2 hP
 cases hS : rS 64 bs a1 with
 | error er =>
  obtain ⟨cd, a2⟩ := er
  rw [hS] at hP
  obtain ⟨rfl, hE2, hk2⟩ := hP
  have hI : Hid (rRec bs a = .error (cd, a2)) := by unfold Hid; rw [hI0.out]; unfold rBody; rw [if_pos rfl, hS]
  have hnz := rS_nz hS
  have t1 : (((cd : Nat) : Int) == 0) = false := by rw [beq_eq_false_iff_ne]; simp at hnz; omega
  have t2 : (((cd : Nat) : Int) != 0) = true := by rw [bne_iff_ne]; simp at hnz; omega
  have hb2w := Lib.hid ((hb2.out.far (p := ⟨w.heap.size + 1, 0, none⟩) (by dsimp only; omega) (.int .i64 1)).kept hk2 (by show ¬ w.heap.size = p; omega))
  have hb3w := Lib.hid ((Blk.store1 hb3.out 0 (.int .i64 1) rfl).kept hk2 (by show ¬ w.heap.size + 1 = p; omega))
  have hkw2 : Hid (Kept (· = p) w w2) := (hkw.out.setCell (p := ⟨w.heap.size + 1, 0, none⟩) (fun hl => by exfalso; dsimp only at hl; omega) (.int .i64 1)).then_ hk2 (fun i _ h => h)
  have cE := hE2.blk.cell 2
  replace hE2 := Lib.hid hE2
  clear hk2 c3 f3 l3 hb2 hb3 hkw hE1 hS hnz
  have k30 := hb3w.out.cell 6; have k31 := hb3w.out.frozen 6; have l3 := hb3w.out.lt
  have c2 := hb2w.out.cell; have f2 := hb2w.out.frozen; have l2 := hb2w.out.lt
  have hn23 : ¬ w.heap.size = w.heap.size + 1 := by omega
  go_wp2_with (simp only [field_part4])
  refine bodyPost_ret (v := .agg #[.int .i64 0, .int .i64 0, .int .i64 0, .int .i64 0, .float .f64 0, .int .i64 0, .string ⟨#[]⟩, .slice none 0 0]) ?_ rfl ?_
  ·refine results_cell_row Tryz.results137 _ _ w.heap.size 83 #[.int .i64 0, .int .i64 0, .int .i64 0, .int .i64 0, .float .f64 0, .int .i64 0, .string ⟨#[]⟩, .slice none 0 0] (0, 0) _ ?_ ?_ Tryz.underlying83 ?_ ?_
   ·rfl
   ·show Blk _ w.heap.size 83 _
    with_reducible refine Blk.store8 (a0 := .int .i64 0) (a1 := .int .i64 0) (a2 := .int .i64 0) (a3 := .int .i64 0) (a4 := .float .f64 0) (a5 := .int .i64 0) (a6 := .string ⟨#[]⟩) (a7 := .slice none 0 0) ?_
    repeat (first | with_reducible refine Blk.far ?_ (by dsimp only; omega) _ | with_reducible exact hb2w.out)
   ·rfl
   ·exact size_rec
  ·rw [hI.out]
   have hK : ∀ W : World, Kept (· = p) w W → True := fun _ _ => trivial
   refine ⟨rfl, ?_, ?_⟩
   ·repeat (first | with_reducible refine IsE.other ?_ (by dsimp only; omega) (fun ad e => by have := hAo.out ad e; dsimp only; omega) _ | with_reducible exact hE2.out)
   ·repeat (first | with_reducible refine Kept.setCell ?_ (fun hl => by first | rfl | (exfalso; dsimp only at hl; omega)) _ | with_reducible exact hkw2.out)
 | ok x =>
  obtain ⟨x, a2⟩ := x
  rw [hS] at hP
  obtain ⟨rfl, hE2, hk2⟩ := hP
  rw [show partCells (.s x) = #[.int .u8 115, .int .u64 0, .int .i64 0, .int .u64 0, .string (str x), .bool false] from rfl]
  have hI : Hid (rRec bs a = rDone ⟨1, 0, 0, 0, 0, 0, x, []⟩ a2) := by unfold Hid; rw [hI0.out]; unfold rBody; rw [if_pos rfl, hS]; rfl
  have hb2w := Lib.hid ((hb2.out.far (p := ⟨w.heap.size + 1, 0, none⟩) (by dsimp only; omega) (.int .i64 1)).kept hk2 (by show ¬ w.heap.size = p; omega))
  have hb3w := Lib.hid ((Blk.store1 hb3.out 0 (.int .i64 1) (cs' := #[.int .i64 1, .int .i64 0, .int .i64 0, .int .i64 0, .float .f64 0, .int .i64 0, .string ⟨#[]⟩, .slice none 0 0]) rfl).kept hk2 (by show ¬ w.heap.size + 1 = p; omega))
  have hkw2 : Hid (Kept (· = p) w w2) := (hkw.out.setCell (p := ⟨w.heap.size + 1, 0, none⟩) (fun hl => by exfalso; dsimp only at hl; omega) (.int .i64 1)).then_ hk2 (fun i _ h => h)
  have cE := hE2.blk.cell 2
  replace hE2 := Lib.hid hE2
  clear hk2 c3 f3 l3 hb2 hb3 hkw hE1 hS
  have k0 := hb3w.out.cell 0; have k1 := hb3w.out.cell 1; have k2 := hb3w.out.cell 2; have k3 := hb3w.out.cell 3; have k4 := hb3w.out.cell 4; have k5 := hb3w.out.cell 5; have k6 := hb3w.out.cell 6; have k7 := hb3w.out.cell 7
  have f6 := hb3w.out.frozen 6; have l3 := hb3w.out.lt
  have hwf : Hid ((⟨1, 0, 0, 0, 0, 0, x, []⟩ : MRec).WF) := by constructor <;> dsimp only <;> omega
  have cC : ∀ W : World, Calls Tryz.prog 109 #[.agg #[.int .i64 1, .int .i64 0, .int .i64 0, .int .i64 0, .float .f64 0, .int .i64 0, .string (str x), .slice none 0 0]] W fun e w' => e = .returned (.int .i64 (checkRec ⟨1, 0, 0, 0, 0, 0, x, []⟩ : Nat)) ∧ Cln W w' := fun W => rcheck_any ⟨1, 0, 0, 0, 0, 0, x, []⟩ none 0 0 (by omega) hwf.out W (RdItems.none_ _)
  generalize hcd : checkRec ⟨1, 0, 0, 0, 0, 0, x, []⟩ = cd at cC
  replace hcd := Lib.hid hcd
  go_wp2_with (simp only [field_part4])
  refine (cC _).mono ?_
  rintro e w3 ⟨rfl, hq⟩
  have hb2x := Lib.hid ((hb2w.out.far (p := ⟨w.heap.size + 1, 6, none⟩) (by dsimp only; omega) (.string (str x))).cln hq)
  have hb3x := Lib.hid ((Blk.store1 hb3w.out 6 (.string (str x)) (cs' := #[.int .i64 1, .int .i64 0, .int .i64 0, .int .i64 0, .float .f64 0, .int .i64 0, .string (str x), .slice none 0 0]) rfl).cln hq)
  have hE3 := Lib.hid ((hE2.out.other (q := ⟨w.heap.size + 1, 6, none⟩) (by dsimp only; omega) (fun ad e => by have := hAo.out ad e; dsimp only; omega) (.string (str x))).cln hq)
  have hkw3 := Lib.hid ((hkw2.out.setCell (p := ⟨w.heap.size + 1, 6, none⟩) (fun hl => by exfalso; dsimp only at hl; omega) (.string (str x))).below_ hq)
  clear hq k0 k1 k2 k3 k4 k5 k6 k7 f6 l3 hb2w hb3w hkw2 hE2 cE cC
  go_wp2_with fail
  refine (fail_new p A n c bs a2 cd _ hE3.out).mono ?_
  rintro e w4 ⟨rfl, hE4, hk4⟩
  have hb2y := Lib.hid (hb2x.out.kept hk4 (by show ¬ w.heap.size = p; omega))
  have hb3y := Lib.hid (hb3x.out.kept hk4 (by show ¬ w.heap.size + 1 = p; omega))
  have hkw4 := Lib.hid (hkw3.out.then_ hk4 (fun i _ h => h))
  have cE := hE4.blk.cell 2
  replace hE4 := Lib.hid hE4
  clear hk4 hb2x hb3x hkw3 hE3
  have c2 := hb2y.out.cell; have f2 := hb2y.out.frozen; have l2 := hb2y.out.lt; have l3 := hb3y.out.lt
  have hn23 : ¬ w.heap.size = w.heap.size + 1 := by omega
  by_cases hz : cd = 0
  ·subst hz
   have hJ : Hid (rRec bs a = .ok (⟨1, 0, 0, 0, 0, 0, x, []⟩, a2)) := by unfold Hid; rw [hI.out]; unfold rDone; rw [if_pos hcd.out]
   have k0 := hb3y.out.cell 0; have k1 := hb3y.out.cell 1; have k2 := hb3y.out.cell 2; have k3 := hb3y.out.cell 3; have k4 := hb3y.out.cell 4; have k5 := hb3y.out.cell 5; have k6 := hb3y.out.cell 6; have k7 := hb3y.out.cell 7
   go_wp2_with fail
   refine bodyPost_ret (v := .agg #[.int .i64 1, .int .i64 0, .int .i64 0, .int .i64 0, .float .f64 0, .int .i64 0, .string (str x), .slice none 0 0]) ?_ rfl ?_
   ·refine results_cell_row Tryz.results137 _ _ w.heap.size 83 #[.int .i64 1, .int .i64 0, .int .i64 0, .int .i64 0, .float .f64 0, .int .i64 0, .string (str x), .slice none 0 0] (0, 0) _ ?_ ?_ Tryz.underlying83 ?_ ?_
    ·rfl
    ·show Blk _ w.heap.size 83 _
     with_reducible refine Blk.store8 (a0 := .int .i64 0) (a1 := .int .i64 0) (a2 := .int .i64 0) (a3 := .int .i64 0) (a4 := .float .f64 0) (a5 := .int .i64 0) (a6 := .string ⟨#[]⟩) (a7 := .slice none 0 0) ?_
     repeat (first | with_reducible refine Blk.far ?_ (by dsimp only; omega) _ | with_reducible exact hb2y.out)
    ·rfl
    ·exact size_rec
   ·rw [hJ.out]
    refine ⟨none, 0, 0, rfl, RdItems.none_ _, by omega, (fun ad e => by cases e), ?_, ?_⟩
    ·repeat (first | with_reducible refine IsE.other ?_ (by dsimp only; omega) (fun ad e => by have := hAo.out ad e; dsimp only; omega) _ | with_reducible exact hE4.out)
    ·repeat (first | with_reducible refine Kept.setCell ?_ (fun hl => by first | rfl | (exfalso; dsimp only at hl; omega)) _ | with_reducible exact hkw4.out)
  ·have hJ : Hid (rRec bs a = .error (cd, a2)) := by unfold Hid; rw [hI.out]; unfold rDone; rw [if_neg (by rw [hcd.out]; exact hz), hcd.out]
   have t2 : (((cd : Nat) : Int) != 0) = true := by rw [bne_iff_ne]; omega
   go_wp2_with fail
   refine bodyPost_ret (v := .agg #[.int .i64 0, .int .i64 0, .int .i64 0, .int .i64 0, .float .f64 0, .int .i64 0, .string ⟨#[]⟩, .slice none 0 0]) ?_ rfl ?_
   ·refine results_cell_row Tryz.results137 _ _ w.heap.size 83 #[.int .i64 0, .int .i64 0, .int .i64 0, .int .i64 0, .float .f64 0, .int .i64 0, .string ⟨#[]⟩, .slice none 0 0] (0, 0) _ ?_ ?_ Tryz.underlying83 ?_ ?_
    ·rfl
    ·show Blk _ w.heap.size 83 _
     with_reducible refine Blk.store8 (a0 := .int .i64 0) (a1 := .int .i64 0) (a2 := .int .i64 0) (a3 := .int .i64 0) (a4 := .float .f64 0) (a5 := .int .i64 0) (a6 := .string ⟨#[]⟩) (a7 := .slice none 0 0) ?_
     repeat (first | with_reducible refine Blk.far ?_ (by dsimp only; omega) _ | with_reducible exact hb2y.out)
    ·rfl
    ·exact size_rec
   ·rw [hJ.out]
    refine ⟨rfl, ?_, ?_⟩
    ·repeat (first | with_reducible refine IsE.other ?_ (by dsimp only; omega) (fun ad e => by have := hAo.out ad e; dsimp only; omega) _ | with_reducible exact hE4.out)
    ·repeat (first | with_reducible refine Kept.setCell ?_ (fun hl => by first | rfl | (exfalso; dsimp only at hl; omega)) _ | with_reducible exact hkw4.out)
set_option maxHeartbeats 8000000 in
theorem next_num2 (p : Nat) (A : Option Addr) (n c : Nat) (bs : List UInt8) (a : Nat) (w : World) (hE : IsE w p A n c bs a 0) (hA : ∀ ad, A = some ad → ad.block < w.heap.size) (a1 : Nat) (hU : rUpto 9 bs a = .ok (2, a1)) :
  Calls Tryz.prog 137 #[.pointer (some ⟨p, 0, none⟩)] w (NextPost w p A n c bs (rRec bs a)) := by
 have hI0 : Hid (rRec bs a = rBody 2 bs a1) := by unfold Hid rRec; simp only [hU]; rfl
 have hp0 := hE.blk.lt
 go_enter Tryz.func137, Tryz.ntmps137
 go_wp2_with fail
 refine (upto_new p A n c bs a 9 (by decide) _ (hE.cln (by (repeat with_reducible first | exact cR _ | assumption | refine cA ?_ _ | refine cD ?_ | refine cN ?_ _ | refine cS ?_ (by first | omega | (simp <;> omega)) _)))).mono ?_
 intro e w1 hP
 rw [hU] at hP
 obtain ⟨rfl, hE1, hk⟩ := hP
 have hkw := Lib.hid ((Kept.of_below (S := fun i => i = p) (hzNexts0 w)).then_ hk (fun i _ h => h))
 have hb2 := Lib.hid (((Blk.new w 83 #[.int .i64 0, .int .i64 0, .int .i64 0, .int .i64 0, .float .f64 0, .int .i64 0, .string ⟨#[]⟩, .slice none 0 0]).alloc (.cells #[.int .i64 0, .int .i64 0, .int .i64 0, .int .i64 0, .float .f64 0, .int .i64 0, .string ⟨#[]⟩, .slice none 0 0] 83)).kept hk (by show ¬ w.heap.size = p; omega))
 have hb3 := (Blk.new (w.alloc (.cells #[.int .i64 0, .int .i64 0, .int .i64 0, .int .i64 0, .float .f64 0, .int .i64 0, .string ⟨#[]⟩, .slice none 0 0] 83)) 83 #[.int .i64 0, .int .i64 0, .int .i64 0, .int .i64 0, .float .f64 0, .int .i64 0, .string ⟨#[]⟩, .slice none 0 0]).kept hk (by show ¬ (w.alloc _).heap.size = p; rw [World.size_alloc]; omega)
 rw [World.size_alloc] at hb3
 have c3 := hb3.cell; have f3 := hb3.frozen; have l3 := hb3.lt
 replace hb3 := Lib.hid hb3
 replace hE1 := Lib.hid hE1
 have hne3 : ¬ p = w.heap.size + 1 := by omega
 have hne3' : ¬ w.heap.size + 1 = p := by omega
 have hne2 : ¬ p = w.heap.size := by omega
 have hAo : Hid (∀ ad, A = some ad → ad.block < w.heap.size) := hA
 clear hE hk hU hA
 go_wp2_with fail
 refine (part_i p A n c bs a1 _ (hE1.out.other (by dsimp only; omega) (fun ad e => by have := hAo.out ad e; dsimp only; omega) _) 0).mono ?_
 intro e w2 hP
 cases hS : rI bs a1 with
 | error er =>
  obtain ⟨cd, a2⟩ := er
  rw [hS] at hP
  obtain ⟨rfl, hE2, hk2⟩ := hP
  have hI : Hid (rRec bs a = .error (cd, a2)) := by unfold Hid; rw [hI0.out]; unfold rBody; rw [if_neg (by decide), if_pos (by decide), hS]
  have hnz := rI_nz hS
  have t1 : (((cd : Nat) : Int) == 0) = false := by rw [beq_eq_false_iff_ne]; simp at hnz; omega
  have t2 : (((cd : Nat) : Int) != 0) = true := by rw [bne_iff_ne]; simp at hnz; omega
  have hb2w := Lib.hid ((hb2.out.far (p := ⟨w.heap.size + 1, 0, none⟩) (by dsimp only; omega) (.int .i64 2)).kept hk2 (by show ¬ w.heap.size = p; omega))
  have hb3w := Lib.hid ((Blk.store1 hb3.out 0 (.int .i64 2) rfl).kept hk2 (by show ¬ w.heap.size + 1 = p; omega))
  have hkw2 : Hid (Kept (· = p) w w2) := (hkw.out.setCell (p := ⟨w.heap.size + 1, 0, none⟩) (fun hl => by exfalso; dsimp only at hl; omega) (.int .i64 2)).then_ hk2 (fun i _ h => h)
  have cE := hE2.blk.cell 2
  replace hE2 := Lib.hid hE2
  clear hk2 c3 f3 l3 hb2 hb3 hkw hE1 hS hnz
  have k30 := hb3w.out.cell 1; have k31 := hb3w.out.frozen 1; have l3 := hb3w.out.lt
  have c2 := hb2w.out.cell; have f2 := hb2w.out.frozen; have l2 := hb2w.out.lt
  have hn23 : ¬ w.heap.size = w.heap.size + 1 := by omega
  go_wp2_with (simp only [field_part2])
  refine bodyPost_ret (v := .agg #[.int .i64 0, .int .i64 0, .int .i64 0, .int .i64 0, .float .f64 0, .int .i64 0, .string ⟨#[]⟩, .slice none 0 0]) ?_ rfl ?_
  ·refine results_cell_row Tryz.results137 _ _ w.heap.size 83 #[.int .i64 0, .int .i64 0, .int .i64 0, .int .i64 0, .float .f64 0, .int .i64 0, .string ⟨#[]⟩, .slice none 0 0] (0, 0) _ ?_ ?_ Tryz.underlying83 ?_ ?_
   ·rfl
   ·show Blk _ w.heap.size 83 _
    with_reducible refine Blk.store8 (a0 := .int .i64 0) (a1 := .int .i64 0) (a2 := .int .i64 0) (a3 := .int .i64 0) (a4 := .float .f64 0) (a5 := .int .i64 0) (a6 := .string ⟨#[]⟩) (a7 := .slice none 0 0) ?_
    repeat (first | with_reducible refine Blk.far ?_ (by dsimp only; omega) _ | with_reducible exact hb2w.out)
   ·rfl
   ·exact size_rec
  ·rw [hI.out]
   have hK : ∀ W : World, Kept (· = p) w W → True := fun _ _ => trivial
   refine ⟨rfl, ?_, ?_⟩
   ·repeat (first | with_reducible refine IsE.other ?_ (by dsimp only; omega) (fun ad e => by have := hAo.out ad e; dsimp only; omega) _ | with_reducible exact hE2.out)
   ·repeat (first | with_reducible refine Kept.setCell ?_ (fun hl => by first | rfl | (exfalso; dsimp only at hl; omega)) _ | with_reducible exact hkw2.out)
 | ok x =>
  obtain ⟨x, a2⟩ := x
  rw [hS] at hP
  obtain ⟨rfl, hE2, hk2⟩ := hP
  rw [show partCells (.i x) = #[.int .u8 105, .int .u64 0, .int .i64 x, .int .u64 0, .string ⟨#[]⟩, .bool false] from rfl]
  have hI : Hid (rRec bs a = rDone ⟨2, x, 0, 0, 0, 0, [], []⟩ a2) := by unfold Hid; rw [hI0.out]; unfold rBody; rw [if_neg (by decide), if_pos (by decide), hS]; rfl
  have hb2w := Lib.hid ((hb2.out.far (p := ⟨w.heap.size + 1, 0, none⟩) (by dsimp only; omega) (.int .i64 2)).kept hk2 (by show ¬ w.heap.size = p; omega))
  have hb3w := Lib.hid ((Blk.store1 hb3.out 0 (.int .i64 2) (cs' := #[.int .i64 2, .int .i64 0, .int .i64 0, .int .i64 0, .float .f64 0, .int .i64 0, .string ⟨#[]⟩, .slice none 0 0]) rfl).kept hk2 (by show ¬ w.heap.size + 1 = p; omega))
  have hkw2 : Hid (Kept (· = p) w w2) := (hkw.out.setCell (p := ⟨w.heap.size + 1, 0, none⟩) (fun hl => by exfalso; dsimp only at hl; omega) (.int .i64 2)).then_ hk2 (fun i _ h => h)
  have cE := hE2.blk.cell 2
  replace hE2 := Lib.hid hE2
  have hxr := rI_lt hS
  clear hk2 c3 f3 l3 hb2 hb3 hkw hE1 hS
  have k0 := hb3w.out.cell 0; have k1 := hb3w.out.cell 1; have k2 := hb3w.out.cell 2; have k3 := hb3w.out.cell 3; have k4 := hb3w.out.cell 4; have k5 := hb3w.out.cell 5; have k6 := hb3w.out.cell 6; have k7 := hb3w.out.cell 7
  have f6 := hb3w.out.frozen 1; have l3 := hb3w.out.lt
  have hwf : Hid ((⟨2, x, 0, 0, 0, 0, [], []⟩ : MRec).WF) := by constructor <;> dsimp only <;> first | omega | exact hxr
  have cC : ∀ W : World, Calls Tryz.prog 109 #[.agg #[.int .i64 2, .int .i64 x, .int .i64 0, .int .i64 0, .float .f64 0, .int .i64 0, .string ⟨#[]⟩, .slice none 0 0]] W fun e w' => e = .returned (.int .i64 (checkRec ⟨2, x, 0, 0, 0, 0, [], []⟩ : Nat)) ∧ Cln W w' := fun W => rcheck_any ⟨2, x, 0, 0, 0, 0, [], []⟩ none 0 0 (by omega) hwf.out W (RdItems.none_ _)
  generalize hcd : checkRec ⟨2, x, 0, 0, 0, 0, [], []⟩ = cd at cC
  replace hcd := Lib.hid hcd
  go_wp2_with (simp only [field_part2])
  refine (cC _).mono ?_
  rintro e w3 ⟨rfl, hq⟩
  have hb2x := Lib.hid ((hb2w.out.far (p := ⟨w.heap.size + 1, 1, none⟩) (by dsimp only; omega) (.int .i64 x)).cln hq)
  have hb3x := Lib.hid ((Blk.store1 hb3w.out 1 (.int .i64 x) (cs' := #[.int .i64 2, .int .i64 x, .int .i64 0, .int .i64 0, .float .f64 0, .int .i64 0, .string ⟨#[]⟩, .slice none 0 0]) rfl).cln hq)
  have hE3 := Lib.hid ((hE2.out.other (q := ⟨w.heap.size + 1, 1, none⟩) (by dsimp only; omega) (fun ad e => by have := hAo.out ad e; dsimp only; omega) (.int .i64 x)).cln hq)
  have hkw3 := Lib.hid ((hkw2.out.setCell (p := ⟨w.heap.size + 1, 1, none⟩) (fun hl => by exfalso; dsimp only at hl; omega) (.int .i64 x)).below_ hq)
  clear hq k0 k1 k2 k3 k4 k5 k6 k7 f6 l3 hb2w hb3w hkw2 hE2 cE cC
  go_wp2_with fail
  refine (fail_new p A n c bs a2 cd _ hE3.out).mono ?_
  rintro e w4 ⟨rfl, hE4, hk4⟩
  have hb2y := Lib.hid (hb2x.out.kept hk4 (by show ¬ w.heap.size = p; omega))
  have hb3y := Lib.hid (hb3x.out.kept hk4 (by show ¬ w.heap.size + 1 = p; omega))
  have hkw4 := Lib.hid (hkw3.out.then_ hk4 (fun i _ h => h))
  have cE := hE4.blk.cell 2
  replace hE4 := Lib.hid hE4
  clear hk4 hb2x hb3x hkw3 hE3
  have c2 := hb2y.out.cell; have f2 := hb2y.out.frozen; have l2 := hb2y.out.lt; have l3 := hb3y.out.lt
  have hn23 : ¬ w.heap.size = w.heap.size + 1 := by omega
  by_cases hz : cd = 0
  ·subst hz
   have hJ : Hid (rRec bs a = .ok (⟨2, x, 0, 0, 0, 0, [], []⟩, a2)) := by unfold Hid; rw [hI.out]; unfold rDone; rw [if_pos hcd.out]
   have k0 := hb3y.out.cell 0; have k1 := hb3y.out.cell 1; have k2 := hb3y.out.cell 2; have k3 := hb3y.out.cell 3; have k4 := hb3y.out.cell 4; have k5 := hb3y.out.cell 5; have k6 := hb3y.out.cell 6; have k7 := hb3y.out.cell 7
   go_wp2_with fail
   refine bodyPost_ret (v := .agg #[.int .i64 2, .int .i64 x, .int .i64 0, .int .i64 0, .float .f64 0, .int .i64 0, .string ⟨#[]⟩, .slice none 0 0]) ?_ rfl ?_
   ·refine results_cell_row Tryz.results137 _ _ w.heap.size 83 #[.int .i64 2, .int .i64 x, .int .i64 0, .int .i64 0, .float .f64 0, .int .i64 0, .string ⟨#[]⟩, .slice none 0 0] (0, 0) _ ?_ ?_ Tryz.underlying83 ?_ ?_
    ·rfl
    ·show Blk _ w.heap.size 83 _
     with_reducible refine Blk.store8 (a0 := .int .i64 0) (a1 := .int .i64 0) (a2 := .int .i64 0) (a3 := .int .i64 0) (a4 := .float .f64 0) (a5 := .int .i64 0) (a6 := .string ⟨#[]⟩) (a7 := .slice none 0 0) ?_
     repeat (first | with_reducible refine Blk.far ?_ (by dsimp only; omega) _ | with_reducible exact hb2y.out)
    ·rfl
    ·exact size_rec
   ·rw [hJ.out]
    refine ⟨none, 0, 0, rfl, RdItems.none_ _, by omega, (fun ad e => by cases e), ?_, ?_⟩
    ·repeat (first | with_reducible refine IsE.other ?_ (by dsimp only; omega) (fun ad e => by have := hAo.out ad e; dsimp only; omega) _ | with_reducible exact hE4.out)
    ·repeat (first | with_reducible refine Kept.setCell ?_ (fun hl => by first | rfl | (exfalso; dsimp only at hl; omega)) _ | with_reducible exact hkw4.out)
  ·have hJ : Hid (rRec bs a = .error (cd, a2)) := by unfold Hid; rw [hI.out]; unfold rDone; rw [if_neg (by rw [hcd.out]; exact hz), hcd.out]
   have t2 : (((cd : Nat) : Int) != 0) = true := by rw [bne_iff_ne]; omega
   go_wp2_with fail
   refine bodyPost_ret (v := .agg #[.int .i64 0, .int .i64 0, .int .i64 0, .int .i64 0, .float .f64 0, .int .i64 0, .string ⟨#[]⟩, .slice none 0 0]) ?_ rfl ?_
   ·refine results_cell_row Tryz.results137 _ _ w.heap.size 83 #[.int .i64 0, .int .i64 0, .int .i64 0, .int .i64 0, .float .f64 0, .int .i64 0, .string ⟨#[]⟩, .slice none 0 0] (0, 0) _ ?_ ?_ Tryz.underlying83 ?_ ?_
    ·rfl
    ·show Blk _ w.heap.size 83 _
     with_reducible refine Blk.store8 (a0 := .int .i64 0) (a1 := .int .i64 0) (a2 := .int .i64 0) (a3 := .int .i64 0) (a4 := .float .f64 0) (a5 := .int .i64 0) (a6 := .string ⟨#[]⟩) (a7 := .slice none 0 0) ?_
     repeat (first | with_reducible refine Blk.far ?_ (by dsimp only; omega) _ | with_reducible exact hb2y.out)
    ·rfl
    ·exact size_rec
   ·rw [hJ.out]
    refine ⟨rfl, ?_, ?_⟩
    ·repeat (first | with_reducible refine IsE.other ?_ (by dsimp only; omega) (fun ad e => by have := hAo.out ad e; dsimp only; omega) _ | with_reducible exact hE4.out)
    ·repeat (first | with_reducible refine Kept.setCell ?_ (fun hl => by first | rfl | (exfalso; dsimp only at hl; omega)) _ | with_reducible exact hkw4.out)
set_option maxHeartbeats 8000000 in
theorem next_num3 (p : Nat) (A : Option Addr) (n c : Nat) (bs : List UInt8) (a : Nat) (w : World) (hE : IsE w p A n c bs a 0) (hA : ∀ ad, A = some ad → ad.block < w.heap.size) (a1 : Nat) (hU : rUpto 9 bs a = .ok (3, a1)) :
  Calls Tryz.prog 137 #[.pointer (some ⟨p, 0, none⟩)] w (NextPost w p A n c bs (rRec bs a)) := by
 have hI0 : Hid (rRec bs a = rBody 3 bs a1) := by unfold Hid rRec; simp only [hU]; rfl
 have hp0 := hE.blk.lt
 go_enter Tryz.func137, Tryz.ntmps137
 go_wp2_with fail
 refine (upto_new p A n c bs a 9 (by decide) _ (hE.cln (by (repeat with_reducible first | exact cR _ | assumption | refine cA ?_ _ | refine cD ?_ | refine cN ?_ _ | refine cS ?_ (by first | omega | (simp <;> omega)) _)))).mono ?_
 intro e w1 hP
 rw [hU] at hP
 obtain ⟨rfl, hE1, hk⟩ := hP
 have hkw := Lib.hid ((Kept.of_below (S := fun i => i = p) (hzNexts0 w)).then_ hk (fun i _ h => h))
 have hb2 := Lib.hid (((Blk.new w 83 #[.int .i64 0, .int .i64 0, .int .i64 0, .int .i64 0, .float .f64 0, .int .i64 0, .string ⟨#[]⟩, .slice none 0 0]).alloc (.cells #[.int .i64 0, .int .i64 0, .int .i64 0, .int .i64 0, .float .f64 0, .int .i64 0, .string ⟨#[]⟩, .slice none 0 0] 83)).kept hk (by show ¬ w.heap.size = p; omega))
 have hb3 := (Blk.new (w.alloc (.cells #[.int .i64 0, .int .i64 0, .int .i64 0, .int .i64 0, .float .f64 0, .int .i64 0, .string ⟨#[]⟩, .slice none 0 0] 83)) 83 #[.int .i64 0, .int .i64 0, .int .i64 0, .int .i64 0, .float .f64 0, .int .i64 0, .string ⟨#[]⟩, .slice none 0 0]).kept hk (by show ¬ (w.alloc _).heap.size = p; rw [World.size_alloc]; omega)
 rw [World.size_alloc] at hb3
 have c3 := hb3.cell; have f3 := hb3.frozen; have l3 := hb3.lt
 replace hb3 := Lib.hid hb3
 replace hE1 := Lib.hid hE1
 have hne3 : ¬ p = w.heap.size + 1 := by omega
 have hne3' : ¬ w.heap.size + 1 = p := by omega
 have hne2 : ¬ p = w.heap.size := by omega
 have hAo : Hid (∀ ad, A = some ad → ad.block < w.heap.size) := hA
 clear hE hk hU hA
 go_wp2_with fail
 refine (part_i p A n c bs a1 _ (hE1.out.other (by dsimp only; omega) (fun ad e => by have := hAo.out ad e; dsimp only; omega) _) 0).mono ?_
 intro e w2 hP
 cases hS : rI bs a1 with
 | error er =>
  obtain ⟨cd, a2⟩ := er
  rw [hS] at hP
  obtain ⟨rfl, hE2, hk2⟩ := hP
  have hI : Hid (rRec bs a = .error (cd, a2)) := by unfold Hid; rw [hI0.out]; unfold rBody; rw [if_neg (by decide), if_pos (by decide), hS]
  have hnz := rI_nz hS
  have t1 : (((cd : Nat) : Int) == 0) = false := by rw [beq_eq_false_iff_ne]; simp at hnz; omega
  have t2 : (((cd : Nat) : Int) != 0) = true := by rw [bne_iff_ne]; simp at hnz; omega
  have hb2w := Lib.hid ((hb2.out.far (p := ⟨w.heap.size + 1, 0, none⟩) (by dsimp only; omega) (.int .i64 3)).kept hk2 (by show ¬ w.heap.size = p; omega))
  have hb3w := Lib.hid ((Blk.store1 hb3.out 0 (.int .i64 3) rfl).kept hk2 (by show ¬ w.heap.size + 1 = p; omega))
  have hkw2 : Hid (Kept (· = p) w w2) := (hkw.out.setCell (p := ⟨w.heap.size + 1, 0, none⟩) (fun hl => by exfalso; dsimp only at hl; omega) (.int .i64 3)).then_ hk2 (fun i _ h => h)
  have cE := hE2.blk.cell 2
  replace hE2 := Lib.hid hE2
  clear hk2 c3 f3 l3 hb2 hb3 hkw hE1 hS hnz
  have k30 := hb3w.out.cell 1; have k31 := hb3w.out.frozen 1; have l3 := hb3w.out.lt
  have c2 := hb2w.out.cell; have f2 := hb2w.out.frozen; have l2 := hb2w.out.lt
  have hn23 : ¬ w.heap.size = w.heap.size + 1 := by omega
  go_wp2_with (simp only [field_part2])
  refine bodyPost_ret (v := .agg #[.int .i64 0, .int .i64 0, .int .i64 0, .int .i64 0, .float .f64 0, .int .i64 0, .string ⟨#[]⟩, .slice none 0 0]) ?_ rfl ?_
  ·refine results_cell_row Tryz.results137 _ _ w.heap.size 83 #[.int .i64 0, .int .i64 0, .int .i64 0, .int .i64 0, .float .f64 0, .int .i64 0, .string ⟨#[]⟩, .slice none 0 0] (0, 0) _ ?_ ?_ Tryz.underlying83 ?_ ?_
   ·rfl
   ·show Blk _ w.heap.size 83 _
    with_reducible refine Blk.store8 (a0 := .int .i64 0) (a1 := .int .i64 0) (a2 := .int .i64 0) (a3 := .int .i64 0) (a4 := .float .f64 0) (a5 := .int .i64 0) (a6 := .string ⟨#[]⟩) (a7 := .slice none 0 0) ?_
    repeat (first | with_reducible refine Blk.far ?_ (by dsimp only; omega) _ | with_reducible exact hb2w.out)
   ·rfl
   ·exact size_rec
  ·rw [hI.out]
   have hK : ∀ W : World, Kept (· = p) w W → True := fun _ _ => trivial
   refine ⟨rfl, ?_, ?_⟩
   ·repeat (first | with_reducible refine IsE.other ?_ (by dsimp only; omega) (fun ad e => by have := hAo.out ad e; dsimp only; omega) _ | with_reducible exact hE2.out)
   ·repeat (first | with_reducible refine Kept.setCell ?_ (fun hl => by first | rfl | (exfalso; dsimp only at hl; omega)) _ | with_reducible exact hkw2.out)
 | ok x =>
  obtain ⟨x, a2⟩ := x
  rw [hS] at hP
  obtain ⟨rfl, hE2, hk2⟩ := hP
  rw [show partCells (.i x) = #[.int .u8 105, .int .u64 0, .int .i64 x, .int .u64 0, .string ⟨#[]⟩, .bool false] from rfl]
  have hI : Hid (rRec bs a = rDone ⟨3, x, 0, 0, 0, 0, [], []⟩ a2) := by unfold Hid; rw [hI0.out]; unfold rBody; rw [if_neg (by decide), if_pos (by decide), hS]; rfl
  have hb2w := Lib.hid ((hb2.out.far (p := ⟨w.heap.size + 1, 0, none⟩) (by dsimp only; omega) (.int .i64 3)).kept hk2 (by show ¬ w.heap.size = p; omega))
  have hb3w := Lib.hid ((Blk.store1 hb3.out 0 (.int .i64 3) (cs' := #[.int .i64 3, .int .i64 0, .int .i64 0, .int .i64 0, .float .f64 0, .int .i64 0, .string ⟨#[]⟩, .slice none 0 0]) rfl).kept hk2 (by show ¬ w.heap.size + 1 = p; omega))
  have hkw2 : Hid (Kept (· = p) w w2) := (hkw.out.setCell (p := ⟨w.heap.size + 1, 0, none⟩) (fun hl => by exfalso; dsimp only at hl; omega) (.int .i64 3)).then_ hk2 (fun i _ h => h)
  have cE := hE2.blk.cell 2
  replace hE2 := Lib.hid hE2
  have hxr := rI_lt hS
  clear hk2 c3 f3 l3 hb2 hb3 hkw hE1 hS
  have k0 := hb3w.out.cell 0; have k1 := hb3w.out.cell 1; have k2 := hb3w.out.cell 2; have k3 := hb3w.out.cell 3; have k4 := hb3w.out.cell 4; have k5 := hb3w.out.cell 5; have k6 := hb3w.out.cell 6; have k7 := hb3w.out.cell 7
  have f6 := hb3w.out.frozen 1; have l3 := hb3w.out.lt
  have hwf : Hid ((⟨3, x, 0, 0, 0, 0, [], []⟩ : MRec).WF) := by constructor <;> dsimp only <;> first | omega | exact hxr
  have cC : ∀ W : World, Calls Tryz.prog 109 #[.agg #[.int .i64 3, .int .i64 x, .int .i64 0, .int .i64 0, .float .f64 0, .int .i64 0, .string ⟨#[]⟩, .slice none 0 0]] W fun e w' => e = .returned (.int .i64 (checkRec ⟨3, x, 0, 0, 0, 0, [], []⟩ : Nat)) ∧ Cln W w' := fun W => rcheck_any ⟨3, x, 0, 0, 0, 0, [], []⟩ none 0 0 (by omega) hwf.out W (RdItems.none_ _)
  generalize hcd : checkRec ⟨3, x, 0, 0, 0, 0, [], []⟩ = cd at cC
  replace hcd := Lib.hid hcd
  go_wp2_with (simp only [field_part2])
  refine (cC _).mono ?_
  rintro e w3 ⟨rfl, hq⟩
  have hb2x := Lib.hid ((hb2w.out.far (p := ⟨w.heap.size + 1, 1, none⟩) (by dsimp only; omega) (.int .i64 x)).cln hq)
  have hb3x := Lib.hid ((Blk.store1 hb3w.out 1 (.int .i64 x) (cs' := #[.int .i64 3, .int .i64 x, .int .i64 0, .int .i64 0, .float .f64 0, .int .i64 0, .string ⟨#[]⟩, .slice none 0 0]) rfl).cln hq)
  have hE3 := Lib.hid ((hE2.out.other (q := ⟨w.heap.size + 1, 1, none⟩) (by dsimp only; omega) (fun ad e => by have := hAo.out ad e; dsimp only; omega) (.int .i64 x)).cln hq)
  have hkw3 := Lib.hid ((hkw2.out.setCell (p := ⟨w.heap.size + 1, 1, none⟩) (fun hl => by exfalso; dsimp only at hl; omega) (.int .i64 x)).below_ hq)
  clear hq k0 k1 k2 k3 k4 k5 k6 k7 f6 l3 hb2w hb3w hkw2 hE2 cE cC
  go_wp2_with fail
  refine (fail_new p A n c bs a2 cd _ hE3.out).mono ?_
  rintro e w4 ⟨rfl, hE4, hk4⟩
  have hb2y := Lib.hid (hb2x.out.kept hk4 (by show ¬ w.heap.size = p; omega))
  have hb3y := Lib.hid (hb3x.out.kept hk4 (by show ¬ w.heap.size + 1 = p; omega))
  have hkw4 := Lib.hid (hkw3.out.then_ hk4 (fun i _ h => h))
  have cE := hE4.blk.cell 2
  replace hE4 := Lib.hid hE4
  clear hk4 hb2x hb3x hkw3 hE3
  have c2 := hb2y.out.cell; have f2 := hb2y.out.frozen; have l2 := hb2y.out.lt; have l3 := hb3y.out.lt
  have hn23 : ¬ w.heap.size = w.heap.size + 1 := by omega
  by_cases hz : cd = 0
  ·subst hz
   have hJ : Hid (rRec bs a = .ok (⟨3, x, 0, 0, 0, 0, [], []⟩, a2)) := by unfold Hid; rw [hI.out]; unfold rDone; rw [if_pos hcd.out]
   have k0 := hb3y.out.cell 0; have k1 := hb3y.out.cell 1; have k2 := hb3y.out.cell 2; have k3 := hb3y.out.cell 3; have k4 := hb3y.out.cell 4; have k5 := hb3y.out.cell 5; have k6 := hb3y.out.cell 6; have k7 := hb3y.out.cell 7
   go_wp2_with fail
   refine bodyPost_ret (v := .agg #[.int .i64 3, .int .i64 x, .int .i64 0, .int .i64 0, .float .f64 0, .int .i64 0, .string ⟨#[]⟩, .slice none 0 0]) ?_ rfl ?_
   ·refine results_cell_row Tryz.results137 _ _ w.heap.size 83 #[.int .i64 3, .int .i64 x, .int .i64 0, .int .i64 0, .float .f64 0, .int .i64 0, .string ⟨#[]⟩, .slice none 0 0] (0, 0) _ ?_ ?_ Tryz.underlying83 ?_ ?_
    ·rfl
    ·show Blk _ w.heap.size 83 _
     with_reducible refine Blk.store8 (a0 := .int .i64 0) (a1 := .int .i64 0) (a2 := .int .i64 0) (a3 := .int .i64 0) (a4 := .float .f64 0) (a5 := .int .i64 0) (a6 := .string ⟨#[]⟩) (a7 := .slice none 0 0) ?_
     repeat (first | with_reducible refine Blk.far ?_ (by dsimp only; omega) _ | with_reducible exact hb2y.out)
    ·rfl
    ·exact size_rec
   ·rw [hJ.out]
    refine ⟨none, 0, 0, rfl, RdItems.none_ _, by omega, (fun ad e => by cases e), ?_, ?_⟩
    ·repeat (first | with_reducible refine IsE.other ?_ (by dsimp only; omega) (fun ad e => by have := hAo.out ad e; dsimp only; omega) _ | with_reducible exact hE4.out)
    ·repeat (first | with_reducible refine Kept.setCell ?_ (fun hl => by first | rfl | (exfalso; dsimp only at hl; omega)) _ | with_reducible exact hkw4.out)
  ·have hJ : Hid (rRec bs a = .error (cd, a2)) := by unfold Hid; rw [hI.out]; unfold rDone; rw [if_neg (by rw [hcd.out]; exact hz), hcd.out]
   have t2 : (((cd : Nat) : Int) != 0) = true := by rw [bne_iff_ne]; omega
   go_wp2_with fail
   refine bodyPost_ret (v := .agg #[.int .i64 0, .int .i64 0, .int .i64 0, .int .i64 0, .float .f64 0, .int .i64 0, .string ⟨#[]⟩, .slice none 0 0]) ?_ rfl ?_
   ·refine results_cell_row Tryz.results137 _ _ w.heap.size 83 #[.int .i64 0, .int .i64 0, .int .i64 0, .int .i64 0, .float .f64 0, .int .i64 0, .string ⟨#[]⟩, .slice none 0 0] (0, 0) _ ?_ ?_ Tryz.underlying83 ?_ ?_
    ·rfl
    ·show Blk _ w.heap.size 83 _
     with_reducible refine Blk.store8 (a0 := .int .i64 0) (a1 := .int .i64 0) (a2 := .int .i64 0) (a3 := .int .i64 0) (a4 := .float .f64 0) (a5 := .int .i64 0) (a6 := .string ⟨#[]⟩) (a7 := .slice none 0 0) ?_
     repeat (first | with_reducible refine Blk.far ?_ (by dsimp only; omega) _ | with_reducible exact hb2y.out)
    ·rfl
    ·exact size_rec
   ·rw [hJ.out]
    refine ⟨rfl, ?_, ?_⟩
    ·repeat (first | with_reducible refine IsE.other ?_ (by dsimp only; omega) (fun ad e => by have := hAo.out ad e; dsimp only; omega) _ | with_reducible exact hE4.out)
    ·repeat (first | with_reducible refine Kept.setCell ?_ (fun hl => by first | rfl | (exfalso; dsimp only at hl; omega)) _ | with_reducible exact hkw4.out)
theorem rF_back {b : List UInt8} {a x a' : Nat} (h : rF b a = .ok (x, a')) : funkey (fkey x) = x := by
 unfold rF at h
 split at h
 ·cases h
 ·split at h
  ·cases h
  ·rename_i y h2
   injection h with h; injection h with h3 _; subst h3
   have hk := fback_some h2
   unfold fback at h2
   split at h2
   ·injection h2 with h2; rw [hk, h2]
   ·cases h2
set_option maxHeartbeats 8000000 in
theorem next_real5 (p : Nat) (A : Option Addr) (n c : Nat) (bs : List UInt8) (a : Nat) (w : World) (hE : IsE w p A n c bs a 0) (hA : ∀ ad, A = some ad → ad.block < w.heap.size) (a1 : Nat) (hU : rUpto 9 bs a = .ok (5, a1)) :
  Calls Tryz.prog 137 #[.pointer (some ⟨p, 0, none⟩)] w (NextPost w p A n c bs (rRec bs a)) := by
 have hI0 : Hid (rRec bs a = rBody 5 bs a1) := by unfold Hid rRec; simp only [hU]; rfl
 have hp0 := hE.blk.lt
 go_enter Tryz.func137, Tryz.ntmps137
 go_wp2_with fail
 refine (upto_new p A n c bs a 9 (by decide) _ (hE.cln (by (repeat with_reducible first | exact cR _ | assumption | refine cA ?_ _ | refine cD ?_ | refine cN ?_ _ | refine cS ?_ (by first | omega | (simp <;> omega)) _)))).mono ?_
 intro e w1 hP
 rw [hU] at hP
 obtain ⟨rfl, hE1, hk⟩ := hP
 have hkw := Lib.hid ((Kept.of_below (S := fun i => i = p) (hzNexts0 w)).then_ hk (fun i _ h => h))
 have hb2 := Lib.hid (((Blk.new w 83 #[.int .i64 0, .int .i64 0, .int .i64 0, .int .i64 0, .float .f64 0, .int .i64 0, .string ⟨#[]⟩, .slice none 0 0]).alloc (.cells #[.int .i64 0, .int .i64 0, .int .i64 0, .int .i64 0, .float .f64 0, .int .i64 0, .string ⟨#[]⟩, .slice none 0 0] 83)).kept hk (by show ¬ w.heap.size = p; omega))
 have hb3 := (Blk.new (w.alloc (.cells #[.int .i64 0, .int .i64 0, .int .i64 0, .int .i64 0, .float .f64 0, .int .i64 0, .string ⟨#[]⟩, .slice none 0 0] 83)) 83 #[.int .i64 0, .int .i64 0, .int .i64 0, .int .i64 0, .float .f64 0, .int .i64 0, .string ⟨#[]⟩, .slice none 0 0]).kept hk (by show ¬ (w.alloc _).heap.size = p; rw [World.size_alloc]; omega)
 rw [World.size_alloc] at hb3
 have c3 := hb3.cell; have f3 := hb3.frozen; have l3 := hb3.lt
 replace hb3 := Lib.hid hb3
 replace hE1 := Lib.hid hE1
 have hne3 : ¬ p = w.heap.size + 1 := by omega
 have hne3' : ¬ w.heap.size + 1 = p := by omega
 have hne2 : ¬ p = w.heap.size := by omega
 have hAo : Hid (∀ ad, A = some ad → ad.block < w.heap.size) := hA
 clear hE hk hU hA
 go_wp2_with fail
 refine (part_f p A n c bs a1 _ (hE1.out.other (by dsimp only; omega) (fun ad e => by have := hAo.out ad e; dsimp only; omega) _) 0).mono ?_
 intro e w2 hP
 cases hS : rF bs a1 with
 | error er =>
  obtain ⟨cd, a2⟩ := er
  rw [hS] at hP
  obtain ⟨rfl, hE2, hk2⟩ := hP
  have hI : Hid (rRec bs a = .error (cd, a2)) := by unfold Hid; rw [hI0.out]; unfold rBody; rw [if_neg (by decide), if_neg (by decide), if_neg (by decide), if_pos (by decide), hS]
  have hnz := rF_nz hS
  have t1 : (((cd : Nat) : Int) == 0) = false := by rw [beq_eq_false_iff_ne]; simp at hnz; omega
  have t2 : (((cd : Nat) : Int) != 0) = true := by rw [bne_iff_ne]; simp at hnz; omega
  have hb2w := Lib.hid ((hb2.out.far (p := ⟨w.heap.size + 1, 0, none⟩) (by dsimp only; omega) (.int .i64 5)).kept hk2 (by show ¬ w.heap.size = p; omega))
  have hb3w := Lib.hid ((Blk.store1 hb3.out 0 (.int .i64 5) rfl).kept hk2 (by show ¬ w.heap.size + 1 = p; omega))
  have hkw2 : Hid (Kept (· = p) w w2) := (hkw.out.setCell (p := ⟨w.heap.size + 1, 0, none⟩) (fun hl => by exfalso; dsimp only at hl; omega) (.int .i64 5)).then_ hk2 (fun i _ h => h)
  have cE := hE2.blk.cell 2
  replace hE2 := Lib.hid hE2
  clear hk2 c3 f3 l3 hb2 hb3 hkw hE1 hS hnz
  have k30 := hb3w.out.cell 4; have k31 := hb3w.out.frozen 4; have l3 := hb3w.out.lt
  have c2 := hb2w.out.cell; have f2 := hb2w.out.frozen; have l2 := hb2w.out.lt
  have hn23 : ¬ w.heap.size = w.heap.size + 1 := by omega
  go_wp2_with (simp only [field_part3])
  refine (number_any 0 (by decide) _).mono ?_
  rintro e w9 ⟨rfl, rfl⟩
  go_wp2_with fail
  refine bodyPost_ret (v := .agg #[.int .i64 0, .int .i64 0, .int .i64 0, .int .i64 0, .float .f64 0, .int .i64 0, .string ⟨#[]⟩, .slice none 0 0]) ?_ rfl ?_
  ·refine results_cell_row Tryz.results137 _ _ w.heap.size 83 #[.int .i64 0, .int .i64 0, .int .i64 0, .int .i64 0, .float .f64 0, .int .i64 0, .string ⟨#[]⟩, .slice none 0 0] (0, 0) _ ?_ ?_ Tryz.underlying83 ?_ ?_
   ·rfl
   ·show Blk _ w.heap.size 83 _
    with_reducible refine Blk.store8 (a0 := .int .i64 0) (a1 := .int .i64 0) (a2 := .int .i64 0) (a3 := .int .i64 0) (a4 := .float .f64 0) (a5 := .int .i64 0) (a6 := .string ⟨#[]⟩) (a7 := .slice none 0 0) ?_
    repeat (first | with_reducible refine Blk.far ?_ (by dsimp only; omega) _ | with_reducible exact hb2w.out)
   ·rfl
   ·exact size_rec
  ·rw [hI.out]
   have hK : ∀ W : World, Kept (· = p) w W → True := fun _ _ => trivial
   refine ⟨rfl, ?_, ?_⟩
   ·repeat (first | with_reducible refine IsE.other ?_ (by dsimp only; omega) (fun ad e => by have := hAo.out ad e; dsimp only; omega) _ | with_reducible exact hE2.out)
   ·repeat (first | with_reducible refine Kept.setCell ?_ (fun hl => by first | rfl | (exfalso; dsimp only at hl; omega)) _ | with_reducible exact hkw2.out)
 | ok x =>
  obtain ⟨x, a2⟩ := x
  rw [hS] at hP
  obtain ⟨rfl, hE2, hk2⟩ := hP
  rw [show partCells (.f (fkey x)) = #[.int .u8 102, .int .u64 0, .int .i64 0, .int .u64 (fkey x : Nat), .string ⟨#[]⟩, .bool false] from rfl]
  have hI : Hid (rRec bs a = rDone ⟨5, 0, 0, 0, x, 0, [], []⟩ a2) := by unfold Hid; rw [hI0.out]; unfold rBody; rw [if_neg (by decide), if_neg (by decide), if_neg (by decide), if_pos (by decide), hS]; rfl
  have hb2w := Lib.hid ((hb2.out.far (p := ⟨w.heap.size + 1, 0, none⟩) (by dsimp only; omega) (.int .i64 5)).kept hk2 (by show ¬ w.heap.size = p; omega))
  have hb3w := Lib.hid ((Blk.store1 hb3.out 0 (.int .i64 5) (cs' := #[.int .i64 5, .int .i64 0, .int .i64 0, .int .i64 0, .float .f64 0, .int .i64 0, .string ⟨#[]⟩, .slice none 0 0]) rfl).kept hk2 (by show ¬ w.heap.size + 1 = p; omega))
  have hkw2 : Hid (Kept (· = p) w w2) := (hkw.out.setCell (p := ⟨w.heap.size + 1, 0, none⟩) (fun hl => by exfalso; dsimp only at hl; omega) (.int .i64 5)).then_ hk2 (fun i _ h => h)
  have cE := hE2.blk.cell 2
  replace hE2 := Lib.hid hE2
  have hxr := rF_lt hS
  have hfx := Lib.hid (rF_back hS)
  clear hk2 c3 f3 l3 hb2 hb3 hkw hE1 hS
  have k0 := hb3w.out.cell 0; have k1 := hb3w.out.cell 1; have k2 := hb3w.out.cell 2; have k3 := hb3w.out.cell 3; have k4 := hb3w.out.cell 4; have k5 := hb3w.out.cell 5; have k6 := hb3w.out.cell 6; have k7 := hb3w.out.cell 7
  have f6 := hb3w.out.frozen 4; have l3 := hb3w.out.lt
  have hwf : Hid ((⟨5, 0, 0, 0, x, 0, [], []⟩ : MRec).WF) := by constructor <;> dsimp only <;> first | omega | exact hxr
  have cC : ∀ W : World, Calls Tryz.prog 109 #[.agg #[.int .i64 5, .int .i64 0, .int .i64 0, .int .i64 0, .float .f64 x, .int .i64 0, .string ⟨#[]⟩, .slice none 0 0]] W fun e w' => e = .returned (.int .i64 (checkRec ⟨5, 0, 0, 0, x, 0, [], []⟩ : Nat)) ∧ Cln W w' := fun W => rcheck_any ⟨5, 0, 0, 0, x, 0, [], []⟩ none 0 0 (by omega) hwf.out W (RdItems.none_ _)
  generalize hcd : checkRec ⟨5, 0, 0, 0, x, 0, [], []⟩ = cd at cC
  replace hcd := Lib.hid hcd
  go_wp2_with (simp only [field_part3])
  refine (number_any (fkey x) (fkey_lt x hxr) _).mono ?_
  rintro e w9 ⟨rfl, rfl⟩
  rw [hfx.out]
  go_wp2_with fail
  refine (cC _).mono ?_
  rintro e w3 ⟨rfl, hq⟩
  have hb2x := Lib.hid ((hb2w.out.far (p := ⟨w.heap.size + 1, 4, none⟩) (by dsimp only; omega) (.float .f64 x)).cln hq)
  have hb3x := Lib.hid ((Blk.store1 hb3w.out 4 (.float .f64 x) (cs' := #[.int .i64 5, .int .i64 0, .int .i64 0, .int .i64 0, .float .f64 x, .int .i64 0, .string ⟨#[]⟩, .slice none 0 0]) rfl).cln hq)
  have hE3 := Lib.hid ((hE2.out.other (q := ⟨w.heap.size + 1, 4, none⟩) (by dsimp only; omega) (fun ad e => by have := hAo.out ad e; dsimp only; omega) (.float .f64 x)).cln hq)
  have hkw3 := Lib.hid ((hkw2.out.setCell (p := ⟨w.heap.size + 1, 4, none⟩) (fun hl => by exfalso; dsimp only at hl; omega) (.float .f64 x)).below_ hq)
  clear hq k0 k1 k2 k3 k4 k5 k6 k7 f6 l3 hb2w hb3w hkw2 hE2 cE cC
  go_wp2_with fail
  refine (fail_new p A n c bs a2 cd _ hE3.out).mono ?_
  rintro e w4 ⟨rfl, hE4, hk4⟩
  have hb2y := Lib.hid (hb2x.out.kept hk4 (by show ¬ w.heap.size = p; omega))
  have hb3y := Lib.hid (hb3x.out.kept hk4 (by show ¬ w.heap.size + 1 = p; omega))
  have hkw4 := Lib.hid (hkw3.out.then_ hk4 (fun i _ h => h))
  have cE := hE4.blk.cell 2
  replace hE4 := Lib.hid hE4
  clear hk4 hb2x hb3x hkw3 hE3
  have c2 := hb2y.out.cell; have f2 := hb2y.out.frozen; have l2 := hb2y.out.lt; have l3 := hb3y.out.lt
  have hn23 : ¬ w.heap.size = w.heap.size + 1 := by omega
  by_cases hz : cd = 0
  ·subst hz
   have hJ : Hid (rRec bs a = .ok (⟨5, 0, 0, 0, x, 0, [], []⟩, a2)) := by unfold Hid; rw [hI.out]; unfold rDone; rw [if_pos hcd.out]
   have k0 := hb3y.out.cell 0; have k1 := hb3y.out.cell 1; have k2 := hb3y.out.cell 2; have k3 := hb3y.out.cell 3; have k4 := hb3y.out.cell 4; have k5 := hb3y.out.cell 5; have k6 := hb3y.out.cell 6; have k7 := hb3y.out.cell 7
   go_wp2_with fail
   refine bodyPost_ret (v := .agg #[.int .i64 5, .int .i64 0, .int .i64 0, .int .i64 0, .float .f64 x, .int .i64 0, .string ⟨#[]⟩, .slice none 0 0]) ?_ rfl ?_
   ·refine results_cell_row Tryz.results137 _ _ w.heap.size 83 #[.int .i64 5, .int .i64 0, .int .i64 0, .int .i64 0, .float .f64 x, .int .i64 0, .string ⟨#[]⟩, .slice none 0 0] (0, 0) _ ?_ ?_ Tryz.underlying83 ?_ ?_
    ·rfl
    ·show Blk _ w.heap.size 83 _
     with_reducible refine Blk.store8 (a0 := .int .i64 0) (a1 := .int .i64 0) (a2 := .int .i64 0) (a3 := .int .i64 0) (a4 := .float .f64 0) (a5 := .int .i64 0) (a6 := .string ⟨#[]⟩) (a7 := .slice none 0 0) ?_
     repeat (first | with_reducible refine Blk.far ?_ (by dsimp only; omega) _ | with_reducible exact hb2y.out)
    ·rfl
    ·exact size_rec
   ·rw [hJ.out]
    refine ⟨none, 0, 0, rfl, RdItems.none_ _, by omega, (fun ad e => by cases e), ?_, ?_⟩
    ·repeat (first | with_reducible refine IsE.other ?_ (by dsimp only; omega) (fun ad e => by have := hAo.out ad e; dsimp only; omega) _ | with_reducible exact hE4.out)
    ·repeat (first | with_reducible refine Kept.setCell ?_ (fun hl => by first | rfl | (exfalso; dsimp only at hl; omega)) _ | with_reducible exact hkw4.out)
  ·have hJ : Hid (rRec bs a = .error (cd, a2)) := by unfold Hid; rw [hI.out]; unfold rDone; rw [if_neg (by rw [hcd.out]; exact hz), hcd.out]
   have t2 : (((cd : Nat) : Int) != 0) = true := by rw [bne_iff_ne]; omega
   go_wp2_with fail
   refine bodyPost_ret (v := .agg #[.int .i64 0, .int .i64 0, .int .i64 0, .int .i64 0, .float .f64 0, .int .i64 0, .string ⟨#[]⟩, .slice none 0 0]) ?_ rfl ?_
   ·refine results_cell_row Tryz.results137 _ _ w.heap.size 83 #[.int .i64 0, .int .i64 0, .int .i64 0, .int .i64 0, .float .f64 0, .int .i64 0, .string ⟨#[]⟩, .slice none 0 0] (0, 0) _ ?_ ?_ Tryz.underlying83 ?_ ?_
    ·rfl
    ·show Blk _ w.heap.size 83 _
     with_reducible refine Blk.store8 (a0 := .int .i64 0) (a1 := .int .i64 0) (a2 := .int .i64 0) (a3 := .int .i64 0) (a4 := .float .f64 0) (a5 := .int .i64 0) (a6 := .string ⟨#[]⟩) (a7 := .slice none 0 0) ?_
     repeat (first | with_reducible refine Blk.far ?_ (by dsimp only; omega) _ | with_reducible exact hb2y.out)
    ·rfl
    ·exact size_rec
   ·rw [hJ.out]
    refine ⟨rfl, ?_, ?_⟩
    ·repeat (first | with_reducible refine IsE.other ?_ (by dsimp only; omega) (fun ad e => by have := hAo.out ad e; dsimp only; omega) _ | with_reducible exact hE4.out)
    ·repeat (first | with_reducible refine Kept.setCell ?_ (fun hl => by first | rfl | (exfalso; dsimp only at hl; omega)) _ | with_reducible exact hkw4.out)
set_option maxHeartbeats 8000000 in
theorem next_real6 (p : Nat) (A : Option Addr) (n c : Nat) (bs : List UInt8) (a : Nat) (w : World) (hE : IsE w p A n c bs a 0) (hA : ∀ ad, A = some ad → ad.block < w.heap.size) (a1 : Nat) (hU : rUpto 9 bs a = .ok (6, a1)) :
  Calls Tryz.prog 137 #[.pointer (some ⟨p, 0, none⟩)] w (NextPost w p A n c bs (rRec bs a)) := by
 have hI0 : Hid (rRec bs a = rBody 6 bs a1) := by unfold Hid rRec; simp only [hU]; rfl
 have hp0 := hE.blk.lt
 go_enter Tryz.func137, Tryz.ntmps137
 go_wp2_with fail
 refine (upto_new p A n c bs a 9 (by decide) _ (hE.cln (by (repeat with_reducible first | exact cR _ | assumption | refine cA ?_ _ | refine cD ?_ | refine cN ?_ _ | refine cS ?_ (by first | omega | (simp <;> omega)) _)))).mono ?_
 intro e w1 hP
 rw [hU] at hP
 obtain ⟨rfl, hE1, hk⟩ := hP
 have hkw := Lib.hid ((Kept.of_below (S := fun i => i = p) (hzNexts0 w)).then_ hk (fun i _ h => h))
 have hb2 := Lib.hid (((Blk.new w 83 #[.int .i64 0, .int .i64 0, .int .i64 0, .int .i64 0, .float .f64 0, .int .i64 0, .string ⟨#[]⟩, .slice none 0 0]).alloc (.cells #[.int .i64 0, .int .i64 0, .int .i64 0, .int .i64 0, .float .f64 0, .int .i64 0, .string ⟨#[]⟩, .slice none 0 0] 83)).kept hk (by show ¬ w.heap.size = p; omega))
 have hb3 := (Blk.new (w.alloc (.cells #[.int .i64 0, .int .i64 0, .int .i64 0, .int .i64 0, .float .f64 0, .int .i64 0, .string ⟨#[]⟩, .slice none 0 0] 83)) 83 #[.int .i64 0, .int .i64 0, .int .i64 0, .int .i64 0, .float .f64 0, .int .i64 0, .string ⟨#[]⟩, .slice none 0 0]).kept hk (by show ¬ (w.alloc _).heap.size = p; rw [World.size_alloc]; omega)
 rw [World.size_alloc] at hb3
 have c3 := hb3.cell; have f3 := hb3.frozen; have l3 := hb3.lt
 replace hb3 := Lib.hid hb3
 replace hE1 := Lib.hid hE1
 have hne3 : ¬ p = w.heap.size + 1 := by omega
 have hne3' : ¬ w.heap.size + 1 = p := by omega
 have hne2 : ¬ p = w.heap.size := by omega
 have hAo : Hid (∀ ad, A = some ad → ad.block < w.heap.size) := hA
 clear hE hk hU hA
 go_wp2_with fail
 refine (part_f p A n c bs a1 _ (hE1.out.other (by dsimp only; omega) (fun ad e => by have := hAo.out ad e; dsimp only; omega) _) 0).mono ?_
 intro e w2 hP
 cases hS : rF bs a1 with
 | error er =>
  obtain ⟨cd, a2⟩ := er
  rw [hS] at hP
  obtain ⟨rfl, hE2, hk2⟩ := hP
  have hI : Hid (rRec bs a = .error (cd, a2)) := by unfold Hid; rw [hI0.out]; unfold rBody; rw [if_neg (by decide), if_neg (by decide), if_neg (by decide), if_pos (by decide), hS]
  have hnz := rF_nz hS
  have t1 : (((cd : Nat) : Int) == 0) = false := by rw [beq_eq_false_iff_ne]; simp at hnz; omega
  have t2 : (((cd : Nat) : Int) != 0) = true := by rw [bne_iff_ne]; simp at hnz; omega
  have hb2w := Lib.hid ((hb2.out.far (p := ⟨w.heap.size + 1, 0, none⟩) (by dsimp only; omega) (.int .i64 6)).kept hk2 (by show ¬ w.heap.size = p; omega))
  have hb3w := Lib.hid ((Blk.store1 hb3.out 0 (.int .i64 6) rfl).kept hk2 (by show ¬ w.heap.size + 1 = p; omega))
  have hkw2 : Hid (Kept (· = p) w w2) := (hkw.out.setCell (p := ⟨w.heap.size + 1, 0, none⟩) (fun hl => by exfalso; dsimp only at hl; omega) (.int .i64 6)).then_ hk2 (fun i _ h => h)
  have cE := hE2.blk.cell 2
  replace hE2 := Lib.hid hE2
  clear hk2 c3 f3 l3 hb2 hb3 hkw hE1 hS hnz
  have k30 := hb3w.out.cell 4; have k31 := hb3w.out.frozen 4; have l3 := hb3w.out.lt
  have c2 := hb2w.out.cell; have f2 := hb2w.out.frozen; have l2 := hb2w.out.lt
  have hn23 : ¬ w.heap.size = w.heap.size + 1 := by omega
  go_wp2_with (simp only [field_part3])
  refine (number_any 0 (by decide) _).mono ?_
  rintro e w9 ⟨rfl, rfl⟩
  go_wp2_with fail
  refine bodyPost_ret (v := .agg #[.int .i64 0, .int .i64 0, .int .i64 0, .int .i64 0, .float .f64 0, .int .i64 0, .string ⟨#[]⟩, .slice none 0 0]) ?_ rfl ?_
  ·refine results_cell_row Tryz.results137 _ _ w.heap.size 83 #[.int .i64 0, .int .i64 0, .int .i64 0, .int .i64 0, .float .f64 0, .int .i64 0, .string ⟨#[]⟩, .slice none 0 0] (0, 0) _ ?_ ?_ Tryz.underlying83 ?_ ?_
   ·rfl
   ·show Blk _ w.heap.size 83 _
    with_reducible refine Blk.store8 (a0 := .int .i64 0) (a1 := .int .i64 0) (a2 := .int .i64 0) (a3 := .int .i64 0) (a4 := .float .f64 0) (a5 := .int .i64 0) (a6 := .string ⟨#[]⟩) (a7 := .slice none 0 0) ?_
    repeat (first | with_reducible refine Blk.far ?_ (by dsimp only; omega) _ | with_reducible exact hb2w.out)
   ·rfl
   ·exact size_rec
  ·rw [hI.out]
   have hK : ∀ W : World, Kept (· = p) w W → True := fun _ _ => trivial
   refine ⟨rfl, ?_, ?_⟩
   ·repeat (first | with_reducible refine IsE.other ?_ (by dsimp only; omega) (fun ad e => by have := hAo.out ad e; dsimp only; omega) _ | with_reducible exact hE2.out)
   ·repeat (first | with_reducible refine Kept.setCell ?_ (fun hl => by first | rfl | (exfalso; dsimp only at hl; omega)) _ | with_reducible exact hkw2.out)
 | ok x =>
  obtain ⟨x, a2⟩ := x
  rw [hS] at hP
  obtain ⟨rfl, hE2, hk2⟩ := hP
  rw [show partCells (.f (fkey x)) = #[.int .u8 102, .int .u64 0, .int .i64 0, .int .u64 (fkey x : Nat), .string ⟨#[]⟩, .bool false] from rfl]
  have hI : Hid (rRec bs a = rDone ⟨6, 0, 0, 0, x, 0, [], []⟩ a2) := by unfold Hid; rw [hI0.out]; unfold rBody; rw [if_neg (by decide), if_neg (by decide), if_neg (by decide), if_pos (by decide), hS]; rfl
  have hb2w := Lib.hid ((hb2.out.far (p := ⟨w.heap.size + 1, 0, none⟩) (by dsimp only; omega) (.int .i64 6)).kept hk2 (by show ¬ w.heap.size = p; omega))
  have hb3w := Lib.hid ((Blk.store1 hb3.out 0 (.int .i64 6) (cs' := #[.int .i64 6, .int .i64 0, .int .i64 0, .int .i64 0, .float .f64 0, .int .i64 0, .string ⟨#[]⟩, .slice none 0 0]) rfl).kept hk2 (by show ¬ w.heap.size + 1 = p; omega))
  have hkw2 : Hid (Kept (· = p) w w2) := (hkw.out.setCell (p := ⟨w.heap.size + 1, 0, none⟩) (fun hl => by exfalso; dsimp only at hl; omega) (.int .i64 6)).then_ hk2 (fun i _ h => h)
  have cE := hE2.blk.cell 2
  replace hE2 := Lib.hid hE2
  have hxr := rF_lt hS
  have hfx := Lib.hid (rF_back hS)
  clear hk2 c3 f3 l3 hb2 hb3 hkw hE1 hS
  have k0 := hb3w.out.cell 0; have k1 := hb3w.out.cell 1; have k2 := hb3w.out.cell 2; have k3 := hb3w.out.cell 3; have k4 := hb3w.out.cell 4; have k5 := hb3w.out.cell 5; have k6 := hb3w.out.cell 6; have k7 := hb3w.out.cell 7
  have f6 := hb3w.out.frozen 4; have l3 := hb3w.out.lt
  have hwf : Hid ((⟨6, 0, 0, 0, x, 0, [], []⟩ : MRec).WF) := by constructor <;> dsimp only <;> first | omega | exact hxr
  have cC : ∀ W : World, Calls Tryz.prog 109 #[.agg #[.int .i64 6, .int .i64 0, .int .i64 0, .int .i64 0, .float .f64 x, .int .i64 0, .string ⟨#[]⟩, .slice none 0 0]] W fun e w' => e = .returned (.int .i64 (checkRec ⟨6, 0, 0, 0, x, 0, [], []⟩ : Nat)) ∧ Cln W w' := fun W => rcheck_any ⟨6, 0, 0, 0, x, 0, [], []⟩ none 0 0 (by omega) hwf.out W (RdItems.none_ _)
  generalize hcd : checkRec ⟨6, 0, 0, 0, x, 0, [], []⟩ = cd at cC
  replace hcd := Lib.hid hcd
  go_wp2_with (simp only [field_part3])
  refine (number_any (fkey x) (fkey_lt x hxr) _).mono ?_
  rintro e w9 ⟨rfl, rfl⟩
  rw [hfx.out]
  go_wp2_with fail
  refine (cC _).mono ?_
  rintro e w3 ⟨rfl, hq⟩
  have hb2x := Lib.hid ((hb2w.out.far (p := ⟨w.heap.size + 1, 4, none⟩) (by dsimp only; omega) (.float .f64 x)).cln hq)
  have hb3x := Lib.hid ((Blk.store1 hb3w.out 4 (.float .f64 x) (cs' := #[.int .i64 6, .int .i64 0, .int .i64 0, .int .i64 0, .float .f64 x, .int .i64 0, .string ⟨#[]⟩, .slice none 0 0]) rfl).cln hq)
  have hE3 := Lib.hid ((hE2.out.other (q := ⟨w.heap.size + 1, 4, none⟩) (by dsimp only; omega) (fun ad e => by have := hAo.out ad e; dsimp only; omega) (.float .f64 x)).cln hq)
  have hkw3 := Lib.hid ((hkw2.out.setCell (p := ⟨w.heap.size + 1, 4, none⟩) (fun hl => by exfalso; dsimp only at hl; omega) (.float .f64 x)).below_ hq)
  clear hq k0 k1 k2 k3 k4 k5 k6 k7 f6 l3 hb2w hb3w hkw2 hE2 cE cC
  go_wp2_with fail
  refine (fail_new p A n c bs a2 cd _ hE3.out).mono ?_
  rintro e w4 ⟨rfl, hE4, hk4⟩
  have hb2y := Lib.hid (hb2x.out.kept hk4 (by show ¬ w.heap.size = p; omega))
  have hb3y := Lib.hid (hb3x.out.kept hk4 (by show ¬ w.heap.size + 1 = p; omega))
  have hkw4 := Lib.hid (hkw3.out.then_ hk4 (fun i _ h => h))
  have cE := hE4.blk.cell 2
  replace hE4 := Lib.hid hE4
  clear hk4 hb2x hb3x hkw3 hE3
  have c2 := hb2y.out.cell; have f2 := hb2y.out.frozen; have l2 := hb2y.out.lt; have l3 := hb3y.out.lt
  have hn23 : ¬ w.heap.size = w.heap.size + 1 := by omega
  by_cases hz : cd = 0
  ·subst hz
   have hJ : Hid (rRec bs a = .ok (⟨6, 0, 0, 0, x, 0, [], []⟩, a2)) := by unfold Hid; rw [hI.out]; unfold rDone; rw [if_pos hcd.out]
   have k0 := hb3y.out.cell 0; have k1 := hb3y.out.cell 1; have k2 := hb3y.out.cell 2; have k3 := hb3y.out.cell 3; have k4 := hb3y.out.cell 4; have k5 := hb3y.out.cell 5; have k6 := hb3y.out.cell 6; have k7 := hb3y.out.cell 7
   go_wp2_with fail
   refine bodyPost_ret (v := .agg #[.int .i64 6, .int .i64 0, .int .i64 0, .int .i64 0, .float .f64 x, .int .i64 0, .string ⟨#[]⟩, .slice none 0 0]) ?_ rfl ?_
   ·refine results_cell_row Tryz.results137 _ _ w.heap.size 83 #[.int .i64 6, .int .i64 0, .int .i64 0, .int .i64 0, .float .f64 x, .int .i64 0, .string ⟨#[]⟩, .slice none 0 0] (0, 0) _ ?_ ?_ Tryz.underlying83 ?_ ?_
    ·rfl
    ·show Blk _ w.heap.size 83 _
     with_reducible refine Blk.store8 (a0 := .int .i64 0) (a1 := .int .i64 0) (a2 := .int .i64 0) (a3 := .int .i64 0) (a4 := .float .f64 0) (a5 := .int .i64 0) (a6 := .string ⟨#[]⟩) (a7 := .slice none 0 0) ?_
     repeat (first | with_reducible refine Blk.far ?_ (by dsimp only; omega) _ | with_reducible exact hb2y.out)
    ·rfl
    ·exact size_rec
   ·rw [hJ.out]
    refine ⟨none, 0, 0, rfl, RdItems.none_ _, by omega, (fun ad e => by cases e), ?_, ?_⟩
    ·repeat (first | with_reducible refine IsE.other ?_ (by dsimp only; omega) (fun ad e => by have := hAo.out ad e; dsimp only; omega) _ | with_reducible exact hE4.out)
    ·repeat (first | with_reducible refine Kept.setCell ?_ (fun hl => by first | rfl | (exfalso; dsimp only at hl; omega)) _ | with_reducible exact hkw4.out)
  ·have hJ : Hid (rRec bs a = .error (cd, a2)) := by unfold Hid; rw [hI.out]; unfold rDone; rw [if_neg (by rw [hcd.out]; exact hz), hcd.out]
   have t2 : (((cd : Nat) : Int) != 0) = true := by rw [bne_iff_ne]; omega
   go_wp2_with fail
   refine bodyPost_ret (v := .agg #[.int .i64 0, .int .i64 0, .int .i64 0, .int .i64 0, .float .f64 0, .int .i64 0, .string ⟨#[]⟩, .slice none 0 0]) ?_ rfl ?_
   ·refine results_cell_row Tryz.results137 _ _ w.heap.size 83 #[.int .i64 0, .int .i64 0, .int .i64 0, .int .i64 0, .float .f64 0, .int .i64 0, .string ⟨#[]⟩, .slice none 0 0] (0, 0) _ ?_ ?_ Tryz.underlying83 ?_ ?_
    ·rfl
    ·show Blk _ w.heap.size 83 _
     with_reducible refine Blk.store8 (a0 := .int .i64 0) (a1 := .int .i64 0) (a2 := .int .i64 0) (a3 := .int .i64 0) (a4 := .float .f64 0) (a5 := .int .i64 0) (a6 := .string ⟨#[]⟩) (a7 := .slice none 0 0) ?_
     repeat (first | with_reducible refine Blk.far ?_ (by dsimp only; omega) _ | with_reducible exact hb2y.out)
    ·rfl
    ·exact size_rec
   ·rw [hJ.out]
    refine ⟨rfl, ?_, ?_⟩
    ·repeat (first | with_reducible refine IsE.other ?_ (by dsimp only; omega) (fun ad e => by have := hAo.out ad e; dsimp only; omega) _ | with_reducible exact hE4.out)
    ·repeat (first | with_reducible refine Kept.setCell ?_ (fun hl => by first | rfl | (exfalso; dsimp only at hl; omega)) _ | with_reducible exact hkw4.out)
set_option maxHeartbeats 8000000 in
theorem next_real7 (p : Nat) (A : Option Addr) (n c : Nat) (bs : List UInt8) (a : Nat) (w : World) (hE : IsE w p A n c bs a 0) (hA : ∀ ad, A = some ad → ad.block < w.heap.size) (a1 : Nat) (hU : rUpto 9 bs a = .ok (7, a1)) :
  Calls Tryz.prog 137 #[.pointer (some ⟨p, 0, none⟩)] w (NextPost w p A n c bs (rRec bs a)) := by
 have hI0 : Hid (rRec bs a = rBody 7 bs a1) := by unfold Hid rRec; simp only [hU]; rfl
 have hp0 := hE.blk.lt
 go_enter Tryz.func137, Tryz.ntmps137
 go_wp2_with fail
 refine (upto_new p A n c bs a 9 (by decide) _ (hE.cln (by (repeat with_reducible first | exact cR _ | assumption | refine cA ?_ _ | refine cD ?_ | refine cN ?_ _ | refine cS ?_ (by first | omega | (simp <;> omega)) _)))).mono ?_
 intro e w1 hP
 rw [hU] at hP
 obtain ⟨rfl, hE1, hk⟩ := hP
 have hkw := Lib.hid ((Kept.of_below (S := fun i => i = p) (hzNexts0 w)).then_ hk (fun i _ h => h))
 have hb2 := Lib.hid (((Blk.new w 83 #[.int .i64 0, .int .i64 0, .int .i64 0, .int .i64 0, .float .f64 0, .int .i64 0, .string ⟨#[]⟩, .slice none 0 0]).alloc (.cells #[.int .i64 0, .int .i64 0, .int .i64 0, .int .i64 0, .float .f64 0, .int .i64 0, .string ⟨#[]⟩, .slice none 0 0] 83)).kept hk (by show ¬ w.heap.size = p; omega))
 have hb3 := (Blk.new (w.alloc (.cells #[.int .i64 0, .int .i64 0, .int .i64 0, .int .i64 0, .float .f64 0, .int .i64 0, .string ⟨#[]⟩, .slice none 0 0] 83)) 83 #[.int .i64 0, .int .i64 0, .int .i64 0, .int .i64 0, .float .f64 0, .int .i64 0, .string ⟨#[]⟩, .slice none 0 0]).kept hk (by show ¬ (w.alloc _).heap.size = p; rw [World.size_alloc]; omega)
 rw [World.size_alloc] at hb3
 have c3 := hb3.cell; have f3 := hb3.frozen; have l3 := hb3.lt
 replace hb3 := Lib.hid hb3
 replace hE1 := Lib.hid hE1
 have hne3 : ¬ p = w.heap.size + 1 := by omega
 have hne3' : ¬ w.heap.size + 1 = p := by omega
 have hne2 : ¬ p = w.heap.size := by omega
 have hAo : Hid (∀ ad, A = some ad → ad.block < w.heap.size) := hA
 clear hE hk hU hA
 go_wp2_with fail
 refine (part_f p A n c bs a1 _ (hE1.out.other (by dsimp only; omega) (fun ad e => by have := hAo.out ad e; dsimp only; omega) _) 0).mono ?_
 intro e w2 hP
 cases hS : rF bs a1 with
 | error er =>
  obtain ⟨cd, a2⟩ := er
  rw [hS] at hP
  obtain ⟨rfl, hE2, hk2⟩ := hP
  have hI : Hid (rRec bs a = .error (cd, a2)) := by unfold Hid; rw [hI0.out]; unfold rBody; rw [if_neg (by decide), if_neg (by decide), if_neg (by decide), if_pos (by decide), hS]
  have hnz := rF_nz hS
  have t1 : (((cd : Nat) : Int) == 0) = false := by rw [beq_eq_false_iff_ne]; simp at hnz; omega
  have t2 : (((cd : Nat) : Int) != 0) = true := by rw [bne_iff_ne]; simp at hnz; omega
  have hb2w := Lib.hid ((hb2.out.far (p := ⟨w.heap.size + 1, 0, none⟩) (by dsimp only; omega) (.int .i64 7)).kept hk2 (by show ¬ w.heap.size = p; omega))
  have hb3w := Lib.hid ((Blk.store1 hb3.out 0 (.int .i64 7) rfl).kept hk2 (by show ¬ w.heap.size + 1 = p; omega))
  have hkw2 : Hid (Kept (· = p) w w2) := (hkw.out.setCell (p := ⟨w.heap.size + 1, 0, none⟩) (fun hl => by exfalso; dsimp only at hl; omega) (.int .i64 7)).then_ hk2 (fun i _ h => h)
  have cE := hE2.blk.cell 2
  replace hE2 := Lib.hid hE2
  clear hk2 c3 f3 l3 hb2 hb3 hkw hE1 hS hnz
  have k30 := hb3w.out.cell 4; have k31 := hb3w.out.frozen 4; have l3 := hb3w.out.lt
  have c2 := hb2w.out.cell; have f2 := hb2w.out.frozen; have l2 := hb2w.out.lt
  have hn23 : ¬ w.heap.size = w.heap.size + 1 := by omega
  go_wp2_with (simp only [field_part3])
  refine (number_any 0 (by decide) _).mono ?_
  rintro e w9 ⟨rfl, rfl⟩
  go_wp2_with fail
  refine bodyPost_ret (v := .agg #[.int .i64 0, .int .i64 0, .int .i64 0, .int .i64 0, .float .f64 0, .int .i64 0, .string ⟨#[]⟩, .slice none 0 0]) ?_ rfl ?_
  ·refine results_cell_row Tryz.results137 _ _ w.heap.size 83 #[.int .i64 0, .int .i64 0, .int .i64 0, .int .i64 0, .float .f64 0, .int .i64 0, .string ⟨#[]⟩, .slice none 0 0] (0, 0) _ ?_ ?_ Tryz.underlying83 ?_ ?_
   ·rfl
   ·show Blk _ w.heap.size 83 _
    with_reducible refine Blk.store8 (a0 := .int .i64 0) (a1 := .int .i64 0) (a2 := .int .i64 0) (a3 := .int .i64 0) (a4 := .float .f64 0) (a5 := .int .i64 0) (a6 := .string ⟨#[]⟩) (a7 := .slice none 0 0) ?_
    repeat (first | with_reducible refine Blk.far ?_ (by dsimp only; omega) _ | with_reducible exact hb2w.out)
   ·rfl
   ·exact size_rec
  ·rw [hI.out]
   have hK : ∀ W : World, Kept (· = p) w W → True := fun _ _ => trivial
   refine ⟨rfl, ?_, ?_⟩
   ·repeat (first | with_reducible refine IsE.other ?_ (by dsimp only; omega) (fun ad e => by have := hAo.out ad e; dsimp only; omega) _ | with_reducible exact hE2.out)
   ·repeat (first | with_reducible refine Kept.setCell ?_ (fun hl => by first | rfl | (exfalso; dsimp only at hl; omega)) _ | with_reducible exact hkw2.out)
 | ok x =>
  obtain ⟨x, a2⟩ := x
  rw [hS] at hP
  obtain ⟨rfl, hE2, hk2⟩ := hP
  rw [show partCells (.f (fkey x)) = #[.int .u8 102, .int .u64 0, .int .i64 0, .int .u64 (fkey x : Nat), .string ⟨#[]⟩, .bool false] from rfl]
  have hI : Hid (rRec bs a = rDone ⟨7, 0, 0, 0, x, 0, [], []⟩ a2) := by unfold Hid; rw [hI0.out]; unfold rBody; rw [if_neg (by decide), if_neg (by decide), if_neg (by decide), if_pos (by decide), hS]; rfl
  have hb2w := Lib.hid ((hb2.out.far (p := ⟨w.heap.size + 1, 0, none⟩) (by dsimp only; omega) (.int .i64 7)).kept hk2 (by show ¬ w.heap.size = p; omega))
  have hb3w := Lib.hid ((Blk.store1 hb3.out 0 (.int .i64 7) (cs' := #[.int .i64 7, .int .i64 0, .int .i64 0, .int .i64 0, .float .f64 0, .int .i64 0, .string ⟨#[]⟩, .slice none 0 0]) rfl).kept hk2 (by show ¬ w.heap.size + 1 = p; omega))
  have hkw2 : Hid (Kept (· = p) w w2) := (hkw.out.setCell (p := ⟨w.heap.size + 1, 0, none⟩) (fun hl => by exfalso; dsimp only at hl; omega) (.int .i64 7)).then_ hk2 (fun i _ h => h)
  have cE := hE2.blk.cell 2
  replace hE2 := Lib.hid hE2
  have hxr := rF_lt hS
  have hfx := Lib.hid (rF_back hS)
  clear hk2 c3 f3 l3 hb2 hb3 hkw hE1 hS
  have k0 := hb3w.out.cell 0; have k1 := hb3w.out.cell 1; have k2 := hb3w.out.cell 2; have k3 := hb3w.out.cell 3; have k4 := hb3w.out.cell 4; have k5 := hb3w.out.cell 5; have k6 := hb3w.out.cell 6; have k7 := hb3w.out.cell 7
  have f6 := hb3w.out.frozen 4; have l3 := hb3w.out.lt
  have hwf : Hid ((⟨7, 0, 0, 0, x, 0, [], []⟩ : MRec).WF) := by constructor <;> dsimp only <;> first | omega | exact hxr
  have cC : ∀ W : World, Calls Tryz.prog 109 #[.agg #[.int .i64 7, .int .i64 0, .int .i64 0, .int .i64 0, .float .f64 x, .int .i64 0, .string ⟨#[]⟩, .slice none 0 0]] W fun e w' => e = .returned (.int .i64 (checkRec ⟨7, 0, 0, 0, x, 0, [], []⟩ : Nat)) ∧ Cln W w' := fun W => rcheck_any ⟨7, 0, 0, 0, x, 0, [], []⟩ none 0 0 (by omega) hwf.out W (RdItems.none_ _)
  generalize hcd : checkRec ⟨7, 0, 0, 0, x, 0, [], []⟩ = cd at cC
  replace hcd := Lib.hid hcd
  go_wp2_with (simp only [field_part3])
  refine (number_any (fkey x) (fkey_lt x hxr) _).mono ?_
  rintro e w9 ⟨rfl, rfl⟩
  rw [hfx.out]
  go_wp2_with fail
  refine (cC _).mono ?_
  rintro e w3 ⟨rfl, hq⟩
  have hb2x := Lib.hid ((hb2w.out.far (p := ⟨w.heap.size + 1, 4, none⟩) (by dsimp only; omega) (.float .f64 x)).cln hq)
  have hb3x := Lib.hid ((Blk.store1 hb3w.out 4 (.float .f64 x) (cs' := #[.int .i64 7, .int .i64 0, .int .i64 0, .int .i64 0, .float .f64 x, .int .i64 0, .string ⟨#[]⟩, .slice none 0 0]) rfl).cln hq)
  have hE3 := Lib.hid ((hE2.out.other (q := ⟨w.heap.size + 1, 4, none⟩) (by dsimp only; omega) (fun ad e => by have := hAo.out ad e; dsimp only; omega) (.float .f64 x)).cln hq)
  have hkw3 := Lib.hid ((hkw2.out.setCell (p := ⟨w.heap.size + 1, 4, none⟩) (fun hl => by exfalso; dsimp only at hl; omega) (.float .f64 x)).below_ hq)
  clear hq k0 k1 k2 k3 k4 k5 k6 k7 f6 l3 hb2w hb3w hkw2 hE2 cE cC
  go_wp2_with fail
  refine (fail_new p A n c bs a2 cd _ hE3.out).mono ?_
  rintro e w4 ⟨rfl, hE4, hk4⟩
  have hb2y := Lib.hid (hb2x.out.kept hk4 (by show ¬ w.heap.size = p; omega))
  have hb3y := Lib.hid (hb3x.out.kept hk4 (by show ¬ w.heap.size + 1 = p; omega))
  have hkw4 := Lib.hid (hkw3.out.then_ hk4 (fun i _ h => h))
  have cE := hE4.blk.cell 2
  replace hE4 := Lib.hid hE4
  clear hk4 hb2x hb3x hkw3 hE3
  have c2 := hb2y.out.cell; have f2 := hb2y.out.frozen; have l2 := hb2y.out.lt; have l3 := hb3y.out.lt
  have hn23 : ¬ w.heap.size = w.heap.size + 1 := by omega
  by_cases hz : cd = 0
  ·subst hz
   have hJ : Hid (rRec bs a = .ok (⟨7, 0, 0, 0, x, 0, [], []⟩, a2)) := by unfold Hid; rw [hI.out]; unfold rDone; rw [if_pos hcd.out]
   have k0 := hb3y.out.cell 0; have k1 := hb3y.out.cell 1; have k2 := hb3y.out.cell 2; have k3 := hb3y.out.cell 3; have k4 := hb3y.out.cell 4; have k5 := hb3y.out.cell 5; have k6 := hb3y.out.cell 6; have k7 := hb3y.out.cell 7
   go_wp2_with fail
   refine bodyPost_ret (v := .agg #[.int .i64 7, .int .i64 0, .int .i64 0, .int .i64 0, .float .f64 x, .int .i64 0, .string ⟨#[]⟩, .slice none 0 0]) ?_ rfl ?_
   ·refine results_cell_row Tryz.results137 _ _ w.heap.size 83 #[.int .i64 7, .int .i64 0, .int .i64 0, .int .i64 0, .float .f64 x, .int .i64 0, .string ⟨#[]⟩, .slice none 0 0] (0, 0) _ ?_ ?_ Tryz.underlying83 ?_ ?_
    ·rfl
    ·show Blk _ w.heap.size 83 _
     with_reducible refine Blk.store8 (a0 := .int .i64 0) (a1 := .int .i64 0) (a2 := .int .i64 0) (a3 := .int .i64 0) (a4 := .float .f64 0) (a5 := .int .i64 0) (a6 := .string ⟨#[]⟩) (a7 := .slice none 0 0) ?_
     repeat (first | with_reducible refine Blk.far ?_ (by dsimp only; omega) _ | with_reducible exact hb2y.out)
    ·rfl
    ·exact size_rec
   ·rw [hJ.out]
    refine ⟨none, 0, 0, rfl, RdItems.none_ _, by omega, (fun ad e => by cases e), ?_, ?_⟩
    ·repeat (first | with_reducible refine IsE.other ?_ (by dsimp only; omega) (fun ad e => by have := hAo.out ad e; dsimp only; omega) _ | with_reducible exact hE4.out)
    ·repeat (first | with_reducible refine Kept.setCell ?_ (fun hl => by first | rfl | (exfalso; dsimp only at hl; omega)) _ | with_reducible exact hkw4.out)
  ·have hJ : Hid (rRec bs a = .error (cd, a2)) := by unfold Hid; rw [hI.out]; unfold rDone; rw [if_neg (by rw [hcd.out]; exact hz), hcd.out]
   have t2 : (((cd : Nat) : Int) != 0) = true := by rw [bne_iff_ne]; omega
   go_wp2_with fail
   refine bodyPost_ret (v := .agg #[.int .i64 0, .int .i64 0, .int .i64 0, .int .i64 0, .float .f64 0, .int .i64 0, .string ⟨#[]⟩, .slice none 0 0]) ?_ rfl ?_
   ·refine results_cell_row Tryz.results137 _ _ w.heap.size 83 #[.int .i64 0, .int .i64 0, .int .i64 0, .int .i64 0, .float .f64 0, .int .i64 0, .string ⟨#[]⟩, .slice none 0 0] (0, 0) _ ?_ ?_ Tryz.underlying83 ?_ ?_
    ·rfl
    ·show Blk _ w.heap.size 83 _
     with_reducible refine Blk.store8 (a0 := .int .i64 0) (a1 := .int .i64 0) (a2 := .int .i64 0) (a3 := .int .i64 0) (a4 := .float .f64 0) (a5 := .int .i64 0) (a6 := .string ⟨#[]⟩) (a7 := .slice none 0 0) ?_
     repeat (first | with_reducible refine Blk.far ?_ (by dsimp only; omega) _ | with_reducible exact hb2y.out)
    ·rfl
    ·exact size_rec
   ·rw [hJ.out]
    refine ⟨rfl, ?_, ?_⟩
    ·repeat (first | with_reducible refine IsE.other ?_ (by dsimp only; omega) (fun ad e => by have := hAo.out ad e; dsimp only; omega) _ | with_reducible exact hE4.out)
    ·repeat (first | with_reducible refine Kept.setCell ?_ (fun hl => by first | rfl | (exfalso; dsimp only at hl; omega)) _ | with_reducible exact hkw4.out)
end Go.Proofs.YtoeoodiifpoomaaGreatDoor

/- The document's Next: parts one behind the other, whatever was told ahead of them; the plain law of lists. -/
namespace Moi
def nxt {α : Type} (f : Nat → RRes α) (d : α) (a er : Nat) : α × Nat × Nat :=
 if er = 0 then (match f a with
  | .ok (x, a') => (x, a', 0)
  | .error (cd, a') => (d, a', cd)) else (d, a, er)
theorem nxt_ok {α : Type} {f : Nat → RRes α} {d : α} {a a' : Nat} {x : α} (h : f a = .ok (x, a')) : nxt f d a 0 = (x, a', 0) := by
 unfold nxt; rw [if_pos rfl, h]
theorem nxt_err {α : Type} {f : Nat → RRes α} {d : α} {a a' cd : Nat} (h : f a = .error (cd, a')) : nxt f d a 0 = (d, a', cd) := by
 unfold nxt; rw [if_pos rfl, h]
theorem nxt_old {α : Type} {f : Nat → RRes α} {d : α} {a er : Nat} (h : er ≠ 0) : nxt f d a er = (d, a, er) := by
 unfold nxt; rw [if_neg h]
theorem nxt_all {α : Type} {f : Nat → RRes α} {d : α} {a er : Nat} (P : α → Prop) (hd : P d) (h : ∀ x a', f a = .ok (x, a') → P x) {x : α} {a' er' : Nat} (e : nxt f d a er = (x, a', er')) : P x := by
 unfold nxt at e
 split at e
 ·split at e
  ·rename_i x' a'' h1
   injection e with e1 e2; subst e1; exact h _ _ h1
  ·injection e with e1 e2; subst e1; exact hd
 ·injection e with e1 e2; subst e1; exact hd
theorem rPurse_nxt {bs : List UInt8} {a1 a2 a3 a4 e2 e3 e4 : Nat} {x1 x2 x3 : Int} (h1 : nxt (rI bs) 0 a1 0 = (x1, a2, e2)) (h2 : nxt (rI bs) 0 a2 e2 = (x2, a3, e3)) (h3 : nxt (rI bs) 0 a3 e3 = (x3, a4, e4)) :
  rBody 4 bs a1 = if e4 = 0 then rDone ⟨4, x3, x1, x2, 0, 0, [], []⟩ a4 else .error (e4, a4) := by
 unfold rBody
 rw [if_neg (by decide), if_neg (by decide), if_pos rfl]
 cases k1 : rI bs a1 with
 | error er =>
  obtain ⟨cd, b⟩ := er
  have hz : cd ≠ 0 := rI_nz k1
  rw [nxt_err k1] at h1; injection h1 with h h1; injection h1 with h1 h1'; subst h1; subst h1'
  rw [nxt_old hz] at h2; injection h2 with h h2; injection h2 with h2 h2'; subst h2; subst h2'
  rw [nxt_old hz] at h3; injection h3 with h h3; injection h3 with h3 h3'; subst h3; subst h3'
  simp only []; rw [if_neg hz]
 | ok y =>
  obtain ⟨y, b⟩ := y
  rw [nxt_ok k1] at h1; injection h1 with h h1; injection h1 with h1 h1'; subst h; subst h1; subst h1'
  simp only []
  cases k2 : rI bs b with
  | error er =>
   obtain ⟨cd, b'⟩ := er
   have hz : cd ≠ 0 := rI_nz k2
   rw [nxt_err k2] at h2; injection h2 with h h2; injection h2 with h2 h2'; subst h2; subst h2'
   rw [nxt_old hz] at h3; injection h3 with h h3; injection h3 with h3 h3'; subst h3; subst h3'
   simp only []; rw [if_neg hz]
  | ok y2 =>
   obtain ⟨y2, b'⟩ := y2
   rw [nxt_ok k2] at h2; injection h2 with h h2; injection h2 with h2 h2'; subst h; subst h2; subst h2'
   simp only []
   cases k3 : rI bs b' with
   | error er =>
    obtain ⟨cd, b2⟩ := er
    have hz : cd ≠ 0 := rI_nz k3
    rw [nxt_err k3] at h3; injection h3 with h h3; injection h3 with h3 h3'; subst h3; subst h3'
    simp only []; rw [if_neg hz]
   | ok y3 =>
    obtain ⟨y3, b2⟩ := y3
    rw [nxt_ok k3, Prod.mk.injEq, Prod.mk.injEq] at h3; obtain ⟨rfl, rfl, rfl⟩ := h3
    simp only []; rw [if_pos trivial]; rfl
def eGo (top : Bool) (bs : List UInt8) (k : Nat) (acc : List MItem) (a er : Nat) : RRes (List MItem) := if er = 0 then rItemsGo top bs k acc a else .error (er, a)
theorem eGo_set {bs : List UInt8} {m i a a' e' : Nat} {acc : List MItem} {x : List UInt8} (hi : i < m) (h : nxt (rS 16 bs) [] a 0 = (x, a', e')) :
  eGo false bs (m - i) acc a 0 = eGo false bs (m - (i + 1)) (acc ++ [⟨0, x⟩]) a' e' := by
 unfold eGo
 rw [if_pos rfl, show m - i = (m - (i + 1)) + 1 from by omega]
 rw [show rItemsGo false bs ((m - (i + 1)) + 1) acc a = (match rS 16 bs a with | .error e => .error e | .ok (x, a) => rItemsGo false bs (m - (i + 1)) (acc ++ [⟨0, x⟩]) a) from rfl]
 cases k1 : rS 16 bs a with
 | error er =>
  obtain ⟨cd, b⟩ := er
  have hz : cd ≠ 0 := rS_nz k1
  rw [nxt_err k1] at h; injection h with h h1; injection h1 with h1 h1'; subst h1; subst h1'
  simp only []; rw [if_neg hz]
 | ok y =>
  obtain ⟨y, b⟩ := y
  rw [nxt_ok k1] at h; injection h with h h1; injection h1 with h1 h1'; subst h; subst h1; subst h1'
  simp only []; rfl
theorem eGo_top {bs : List UInt8} {m i a a1 e1 a' e' s d : Nat} {acc : List MItem} {x : List UInt8} (hi : i < m) (h0 : nxt (rF bs) d a 0 = (s, a1, e1)) (h : nxt (rS 16 bs) [] a1 e1 = (x, a', e')) :
  eGo true bs (m - i) acc a 0 = eGo true bs (m - (i + 1)) (acc ++ [⟨s, x⟩]) a' e' := by
 unfold eGo
 rw [if_pos rfl, show m - i = (m - (i + 1)) + 1 from by omega]
 rw [show rItemsGo true bs ((m - (i + 1)) + 1) acc a = (match rF bs a with | .error e => .error e | .ok (s, a) => match rS 16 bs a with | .error e => .error e | .ok (x, a) => rItemsGo true bs (m - (i + 1)) (acc ++ [⟨s, x⟩]) a) from rfl]
 cases k0 : rF bs a with
 | error er =>
  obtain ⟨cd, b⟩ := er
  have hz : cd ≠ 0 := rF_nz k0
  rw [nxt_err k0] at h0; injection h0 with h0 h1; injection h1 with h1 h1'; subst h1; subst h1'
  rw [nxt_old hz] at h; injection h with h h1; injection h1 with h1 h1'; subst h1; subst h1'
  simp only []; rw [if_neg hz]
 | ok s' =>
  obtain ⟨s', b⟩ := s'
  rw [nxt_ok k0] at h0; injection h0 with h0 h1; injection h1 with h1 h1'; subst h0; subst h1; subst h1'
  simp only []
  cases k1 : rS 16 bs b with
  | error er =>
   obtain ⟨cd, b⟩ := er
   have hz : cd ≠ 0 := rS_nz k1
   rw [nxt_err k1] at h; injection h with h h1; injection h1 with h1 h1'; subst h1; subst h1'
   simp only []; rw [if_neg hz]
  | ok y =>
   obtain ⟨y, b⟩ := y
   rw [nxt_ok k1] at h; injection h with h h1; injection h1 with h1 h1'; subst h; subst h1; subst h1'
   simp only []; rfl
end Moi
namespace Go.Proofs.YtoeoodiifpoomaaGreatDoor
open Go.RowKit Moi
attribute [local go_sem] toList_str str_size less_ltB store_float
theorem rList_nxt {bs : List UInt8} {k a1 a2 a3 e2 e3 cc m : Nat} (hk : k = 8 ∨ k = 9) (h1 : nxt (rUpto 32 bs) 0 a1 0 = (cc, a2, e2)) (h2 : nxt (rUpto 32 bs) 0 a2 e2 = (m, a3, e3)) :
  rBody k bs a1 = rListEnd k cc (eGo (decide (k = 9)) bs m [] a3 e3) := by
 unfold rBody
 rw [if_neg (by omega), if_neg (by omega), if_neg (by omega), if_neg (by omega)]
 cases k1 : rUpto 32 bs a1 with
 | error er =>
  obtain ⟨cd, b⟩ := er
  have hz : cd ≠ 0 := rUpto_nz k1
  rw [nxt_err k1] at h1; injection h1 with h h1; injection h1 with h1 h1'; subst h1; subst h1'
  rw [nxt_old hz] at h2; injection h2 with h h2; injection h2 with h2 h2'; subst h2; subst h2'
  simp only [eGo]; rw [if_neg hz]; rfl
 | ok y =>
  obtain ⟨y, b⟩ := y
  rw [nxt_ok k1] at h1; injection h1 with h h1; injection h1 with h1 h1'; subst h; subst h1; subst h1'
  simp only []
  cases k2 : rUpto 32 bs b with
  | error er =>
   obtain ⟨cd, b'⟩ := er
   have hz : cd ≠ 0 := rUpto_nz k2
   rw [nxt_err k2] at h2; injection h2 with h h2; injection h2 with h2 h2'; subst h2; subst h2'
   simp only [eGo]; rw [if_neg hz]; rfl
  | ok y2 =>
   obtain ⟨y2, b'⟩ := y2
   rw [nxt_ok k2] at h2; injection h2 with h h2; injection h2 with h2 h2'; subst h; subst h2; subst h2'
   simp only [eGo]; rfl
section
variable (p : Nat) (A : Option Addr) (n c : Nat) (bs : List UInt8) (a er : Nat) (w : World) (hE : IsE w p A n c bs a er)
include hE
theorem part_i_st (m : Int) {x : Int} {a' er' : Nat} (h : nxt (rI bs) 0 a er = (x, a', er')) : Calls Tryz.prog 96 #[.pointer (some ⟨p, 0, none⟩), .int .u8 105, .int .i64 m] w fun e w' =>
  (∃ (x0 x1 x3 : Int) (x4 : ByteArray) (x5 : Bool), e = .returned (.agg #[.int .u8 x0, .int .u64 x1, .int .i64 x, .int .u64 x3, .string x4, .bool x5])) ∧ IsE w' p A n c bs a' er' ∧ Kept (· = p) w w' := by
 by_cases hz : er = 0
 ·subst hz
  refine (part_i p A n c bs a w hE m).mono ?_
  intro e w' hP
  cases hS : rI bs a with
  | error y =>
   obtain ⟨cd, a1⟩ := y
   rw [hS] at hP; obtain ⟨rfl, h1, h2⟩ := hP
   rw [nxt_err hS] at h; injection h with h3 h4; injection h4 with h4 h5; subst h3; subst h4; subst h5
   exact ⟨⟨_, _, _, _, _, rfl⟩, h1, h2⟩
  | ok y =>
   obtain ⟨y, a1⟩ := y
   rw [hS] at hP; obtain ⟨rfl, h1, h2⟩ := hP
   rw [nxt_ok hS] at h; injection h with h3 h4; injection h4 with h4 h5; subst h3; subst h4; subst h5
   exact ⟨⟨_, _, _, _, _, rfl⟩, h1, h2⟩
 ·rw [nxt_old hz] at h; injection h with h3 h4; injection h4 with h4 h5; subst h3; subst h4; subst h5
  refine (eye_failed p A n c bs a er hz 105 m w hE).mono ?_
  rintro e w' ⟨rfl, hq⟩
  exact ⟨⟨_, _, _, _, _, rfl⟩, hE.cln hq, Kept.of_below hq⟩
theorem part_s_st (M : Nat) (hM : M ≤ 1000000) {x : List UInt8} {a' er' : Nat} (h : nxt (rS M bs) [] a er = (x, a', er')) : Calls Tryz.prog 96 #[.pointer (some ⟨p, 0, none⟩), .int .u8 115, .int .i64 (M : Nat)] w fun e w' =>
  (∃ (x0 x1 x2 x3 : Int) (x5 : Bool), e = .returned (.agg #[.int .u8 x0, .int .u64 x1, .int .i64 x2, .int .u64 x3, .string (str x), .bool x5])) ∧ IsE w' p A n c bs a' er' ∧ Kept (· = p) w w' := by
 by_cases hz : er = 0
 ·subst hz
  refine (part_s p A n c bs a w hE M hM).mono ?_
  intro e w' hP
  cases hS : rS M bs a with
  | error y =>
   obtain ⟨cd, a1⟩ := y
   rw [hS] at hP; obtain ⟨rfl, h1, h2⟩ := hP
   rw [nxt_err hS] at h; injection h with h3 h4; injection h4 with h4 h5; subst h3; subst h4; subst h5
   exact ⟨⟨_, _, _, _, _, rfl⟩, h1, h2⟩
  | ok y =>
   obtain ⟨y, a1⟩ := y
   rw [hS] at hP; obtain ⟨rfl, h1, h2⟩ := hP
   rw [nxt_ok hS] at h; injection h with h3 h4; injection h4 with h4 h5; subst h3; subst h4; subst h5
   exact ⟨⟨_, _, _, _, _, rfl⟩, h1, h2⟩
 ·rw [nxt_old hz] at h; injection h with h3 h4; injection h4 with h4 h5; subst h3; subst h4; subst h5
  refine (eye_failed p A n c bs a er hz 115 (M : Nat) w hE).mono ?_
  rintro e w' ⟨rfl, hq⟩
  exact ⟨⟨_, _, _, _, _, rfl⟩, hE.cln hq, Kept.of_below hq⟩
theorem part_f_st (m : Int) {x : Nat} {a' er' : Nat} (h : nxt (rF bs) (funkey 0) a er = (x, a', er')) : Calls Tryz.prog 96 #[.pointer (some ⟨p, 0, none⟩), .int .u8 102, .int .i64 m] w fun e w' =>
  (∃ (x0 x1 x2 : Int) (K : Nat) (x4 : ByteArray) (x5 : Bool), e = .returned (.agg #[.int .u8 x0, .int .u64 x1, .int .i64 x2, .int .u64 (K : Nat), .string x4, .bool x5]) ∧ K < 18446744073709551616 ∧ funkey K = x) ∧ IsE w' p A n c bs a' er' ∧ Kept (· = p) w w' := by
 by_cases hz : er = 0
 ·subst hz
  refine (part_f p A n c bs a w hE m).mono ?_
  intro e w' hP
  cases hS : rF bs a with
  | error y =>
   obtain ⟨cd, a1⟩ := y
   rw [hS] at hP; obtain ⟨rfl, h1, h2⟩ := hP
   rw [nxt_err hS] at h; injection h with h3 h4; injection h4 with h4 h5; subst h3; subst h4; subst h5
   exact ⟨⟨_, _, _, 0, _, _, rfl, by decide, rfl⟩, h1, h2⟩
  | ok y =>
   obtain ⟨y, a1⟩ := y
   rw [hS] at hP; obtain ⟨rfl, h1, h2⟩ := hP
   rw [nxt_ok hS] at h; injection h with h3 h4; injection h4 with h4 h5; subst h3; subst h4; subst h5
   exact ⟨⟨_, _, _, fkey y, _, _, rfl, fkey_lt y (rF_lt hS), rF_back hS⟩, h1, h2⟩
 ·rw [nxt_old hz] at h; injection h with h3 h4; injection h4 with h4 h5; subst h3; subst h4; subst h5
  refine (eye_failed p A n c bs a er hz 102 m w hE).mono ?_
  rintro e w' ⟨rfl, hq⟩
  exact ⟨⟨_, _, _, 0, _, _, rfl, by decide, rfl⟩, hE.cln hq, Kept.of_below hq⟩
theorem upto_st (M : Nat) (hM : M ≤ 140737488355328) {x : Nat} {a' er' : Nat} (h : nxt (rUpto M bs) 0 a er = (x, a', er')) : Calls Tryz.prog 61 #[.pointer (some ⟨p, 0, none⟩), .int .i64 (M : Nat)] w fun e w' =>
  e = .returned (.int .i64 (x : Nat)) ∧ IsE w' p A n c bs a' er' ∧ Kept (· = p) w w' := by
 by_cases hz : er = 0
 ·subst hz
  refine (upto_new p A n c bs a M hM w hE).mono ?_
  intro e w' hP
  cases hS : rUpto M bs a with
  | error y =>
   obtain ⟨cd, a1⟩ := y
   rw [hS] at hP; obtain ⟨rfl, h1, h2⟩ := hP
   rw [nxt_err hS] at h; injection h with h3 h4; injection h4 with h4 h5; subst h3; subst h4; subst h5
   exact ⟨rfl, h1, h2⟩
  | ok y =>
   obtain ⟨y, a1⟩ := y
   rw [hS] at hP; obtain ⟨rfl, h1, h2⟩ := hP
   rw [nxt_ok hS] at h; injection h with h3 h4; injection h4 with h4 h5; subst h3; subst h4; subst h5
   exact ⟨rfl, h1, h2⟩
 ·rw [nxt_old hz] at h; injection h with h3 h4; injection h4 with h4 h5; subst h3; subst h4; subst h5
  refine (upto_old p A n c bs a er hz (M : Nat) w hE).mono ?_
  rintro e w' ⟨rfl, hq⟩
  exact ⟨rfl, hE.cln hq, Kept.of_below hq⟩
end

structure EyeS (w0 : World) (p : Nat) (A : Option Addr) (n c : Nat) (bs : List UInt8) (cs1 : Array Value) (wk : World) (a er : Nat) : Prop where
 e : IsE wk p A n c bs a er
 K : Kept (· = p) w0 wk
 b0 : Blk wk w0.heap.size 83 #[.int .i64 0, .int .i64 0, .int .i64 0, .int .i64 0, .float .f64 0, .int .i64 0, .string ⟨#[]⟩, .slice none 0 0]
 b1 : Blk wk (w0.heap.size + 1) 83 cs1
 Bp : p < w0.heap.size
 BA : ∀ ad, A = some ad → ad.block < w0.heap.size
section
variable {w0 : World} {p : Nat} {A : Option Addr} {n c : Nat} {bs : List UInt8} {cs1 : Array Value} {wk w' w1 : World} {a er a' er' : Nat}
theorem EyeS.keptB (h : EyeS w0 p A n c bs cs1 wk a er) (hk : Kept (fun i => w0.heap.size + 2 ≤ i) wk w') : EyeS w0 p A n c bs cs1 w' a er :=
 ⟨h.e.kept hk (fun e => by have := h.Bp; omega) (fun ad e h2 => by have := h.BA ad e; omega), h.K.then_ hk (fun i hi hS => by exfalso; omega), h.b0.kept hk (by omega), h.b1.kept hk (by omega), h.Bp, h.BA⟩
theorem EyeS.step (h : EyeS w0 p A n c bs cs1 wk a er) (hr : IsE w' p A n c bs a' er') (hk : Kept (· = p) wk w') : EyeS w0 p A n c bs cs1 w' a' er' :=
 ⟨hr, h.K.then_ hk (fun i _ h => h), h.b0.kept hk (fun e => by have := h.Bp; omega), h.b1.kept hk (fun e => by have := h.Bp; omega), h.Bp, h.BA⟩
theorem EyeS.cln (h : EyeS w0 p A n c bs cs1 wk a er) (hk : Cln wk w') : EyeS w0 p A n c bs cs1 w' a er := h.step (h.e.cln hk) (Kept.of_below hk)
theorem EyeS.store (h : EyeS w0 p A n c bs cs1 wk a er) (i : Nat) (v : Value) {cs1' : Array Value} (e : cs1.setIfInBounds i v = cs1') : EyeS w0 p A n c bs cs1' (wk.setCell ⟨w0.heap.size + 1, i, none⟩ v) a er :=
 ⟨h.e.other (by have := h.Bp; dsimp only; omega) (fun ad e => by have := h.BA ad e; dsimp only; omega) v, h.K.setCell (p := ⟨w0.heap.size + 1, i, none⟩) (fun hl => by exfalso; dsimp only at hl; omega) v,
  h.b0.far (by dsimp only; omega) v, Blk.store1 h.b1 i v e, h.Bp, h.BA⟩
structure EyeL (w0 : World) (p : Nat) (A : Option Addr) (n c : Nat) (bs : List UInt8) (k cc i : Nat) (acc : List MItem) (A' : Option Addr) (c' : Nat) (wk : World) (a er : Nat) : Prop where
 st : EyeS w0 p A n c bs #[.int .i64 (k : Int), .int .i64 0, .int .i64 0, .int .i64 0, .float .f64 0, .int .i64 (cc : Int), .string ⟨#[]⟩, .slice A' i c'] wk a er
 own : wk.ownsRow (w0.heap.size + 2) 87 2 (.slice A' i c') i (itemVals acc)
 wf : ∀ j, (itAt acc j).score < 18446744073709551616
 Bs : w0.heap.size + 2 ≤ wk.heap.size
variable {k cc i : Nat} {acc : List MItem} {A' : Option Addr} {c' : Nat}
theorem EyeL.step (h : EyeL w0 p A n c bs k cc i acc A' c' wk a er) (hr : IsE w' p A n c bs a' er') (hk : Kept (· = p) wk w') : EyeL w0 p A n c bs k cc i acc A' c' w' a' er' :=
 ⟨h.st.step hr hk, own_kept h.own hk (fun g hg e => by have := (own_ge h.own g hg).1; have := h.st.Bp; omega), h.wf, Nat.le_trans h.Bs hk.size⟩
theorem EyeL.cln (h : EyeL w0 p A n c bs k cc i acc A' c' wk a er) (hk : Cln wk w') : EyeL w0 p A n c bs k cc i acc A' c' w' a er := h.step (h.st.e.cln hk) (Kept.of_below hk)
theorem EyeL.far (h : EyeL w0 p A n c bs k cc i acc A' c' wk a er) {g : Nat} (hk : Kept (fun j => j = g) wk w') (hg : w0.heap.size + 2 ≤ g) (hne : (Value.slice A' i c').ownBlock ≠ some g) : EyeL w0 p A n c bs k cc i acc A' c' w' a er :=
 ⟨h.st.keptB (hk.mono (fun j _ e => by omega)), own_kept h.own hk (fun j hj e => hne (e ▸ hj)), h.wf, Nat.le_trans h.Bs hk.size⟩
theorem EyeL.fresh (h : EyeL w0 p A n c bs k cc i acc A' c' wk a er) : (Value.slice A' i c').ownBlock ≠ some wk.heap.size := fun e => by
 have := (own_ge h.own _ e).2; omega
theorem EyeL.grow (h : EyeL w0 p A n c bs k cc i acc A' c' wk a er) {o : Obj} (hg : (wk.alloc o).grownBy w1 (Value.slice A' i c').ownBlock) :
  EyeS w0 p A n c bs #[.int .i64 (k : Int), .int .i64 0, .int .i64 0, .int .i64 0, .float .f64 0, .int .i64 (cc : Int), .string ⟨#[]⟩, .slice A' i c'] w1 a er ∧ w0.heap.size + 2 ≤ w1.heap.size := by
 have hk : Kept (fun j => w0.heap.size + 2 ≤ j) wk w1 := ((Kept.refl _ wk).alloc _).grown hg (fun j hj _ => (own_ge h.own j hj).1)
 exact ⟨h.st.keptB hk, Nat.le_trans h.Bs hk.size⟩
theorem EyeL.push (h : EyeL w0 p A n c bs k cc i acc A' c' wk a er) {x : MItem} (hx : x.score < 18446744073709551616) {A2 : Option Addr} {c2 : Nat}
  (hst : EyeS w0 p A n c bs #[.int .i64 (k : Int), .int .i64 0, .int .i64 0, .int .i64 0, .float .f64 0, .int .i64 (cc : Int), .string ⟨#[]⟩, .slice A' i c'] w1 a er) (hBs : w0.heap.size + 2 ≤ w1.heap.size)
  (hown : w1.ownsRow (w0.heap.size + 2) 87 2 (.slice A2 (i + 1) c2) (i + 1) (itemVals (acc ++ [x]))) :
  EyeL w0 p A n c bs k cc (i + 1) (acc ++ [x]) A2 c2 (w1.setCell ⟨w0.heap.size + 1, 7, none⟩ (.slice A2 (i + 1) c2)) a er :=
 ⟨hst.store 7 (.slice A2 (i + 1) c2) rfl, ownsRow_setCell_below hown (by dsimp only; omega) _, itAt_snoc _ _ hx h.wf, by simpa using hBs⟩
end
theorem funkey_lt0 : funkey 0 < 18446744073709551616 := by decide
set_option maxHeartbeats 8000000 in
theorem next_set (p : Nat) (A : Option Addr) (n c : Nat) (bs : List UInt8) (a : Nat) (w : World) (hE : IsE w p A n c bs a 0) (hA : ∀ ad, A = some ad → ad.block < w.heap.size) (a1 : Nat) (hU : rUpto 9 bs a = .ok (8, a1)) :
  Calls Tryz.prog 137 #[.pointer (some ⟨p, 0, none⟩)] w (NextPost w p A n c bs (rRec bs a)) := by
 have hI0 : Hid (rRec bs a = rBody 8 bs a1) := by unfold Hid rRec; simp only [hU]; rfl
 have hp0 := hE.blk.lt
 go_enter Tryz.func137, Tryz.ntmps137
 go_wp2_with fail
 refine (upto_new p A n c bs a 9 (by decide) _ (hE.cln (by (repeat with_reducible first | exact cR _ | assumption | refine cA ?_ _ | refine cD ?_ | refine cN ?_ _ | refine cS ?_ (by first | omega | (simp <;> omega)) _)))).mono ?_
 intro e w1 hP
 rw [hU] at hP
 obtain ⟨rfl, hE1, hk⟩ := hP
 rcases h1 : nxt (rUpto 32 bs) 0 a1 0 with ⟨cc, a2, e2⟩
 rcases h2 : nxt (rUpto 32 bs) 0 a2 e2 with ⟨m, a3, e3⟩
 have hI : Hid (rRec bs a = rListEnd 8 cc (eGo false bs m [] a3 e3)) := by unfold Hid; rw [hI0.out]; exact rList_nxt (by decide) h1 h2
 have hcc : cc ≤ 32 := nxt_all (fun x : Nat => x ≤ 32) (by decide) (fun x a' h => rUpto_le h) h1
 have hm : m ≤ 32 := nxt_all (fun x : Nat => x ≤ 32) (by decide) (fun x a' h => rUpto_le h) h2
 replace h1 := Lib.hid h1; replace h2 := Lib.hid h2
 have hb2 := ((Blk.new w 83 #[.int .i64 0, .int .i64 0, .int .i64 0, .int .i64 0, .float .f64 0, .int .i64 0, .string ⟨#[]⟩, .slice none 0 0]).alloc (.cells #[.int .i64 0, .int .i64 0, .int .i64 0, .int .i64 0, .float .f64 0, .int .i64 0, .string ⟨#[]⟩, .slice none 0 0] 83)).kept hk (by show ¬ w.heap.size = p; omega)
 have hb3 := (Blk.new (w.alloc (.cells #[.int .i64 0, .int .i64 0, .int .i64 0, .int .i64 0, .float .f64 0, .int .i64 0, .string ⟨#[]⟩, .slice none 0 0] 83)) 83 #[.int .i64 0, .int .i64 0, .int .i64 0, .int .i64 0, .float .f64 0, .int .i64 0, .string ⟨#[]⟩, .slice none 0 0]).kept hk (by show ¬ (w.alloc _).heap.size = p; rw [World.size_alloc]; omega)
 rw [World.size_alloc] at hb3
 have st0 : EyeS w p A n c bs #[.int .i64 0, .int .i64 0, .int .i64 0, .int .i64 0, .float .f64 0, .int .i64 0, .string ⟨#[]⟩, .slice none 0 0] w1 a1 0 :=
  ⟨hE1, (Kept.of_below (S := fun i => i = p) (hzNexts0 w)).then_ hk (fun i _ h => h), hb2, hb3, hp0, hA⟩
 have st1 := st0.store (cs1' := #[.int .i64 8, .int .i64 0, .int .i64 0, .int .i64 0, .float .f64 0, .int .i64 0, .string ⟨#[]⟩, .slice none 0 0]) 0 (.int .i64 8) rfl
 have c3 := hb3.cell 0; have f3 := hb3.frozen 0; have l3 := hb3.lt
 replace st1 := Lib.hid st1
 have hAo : Hid (∀ ad, A = some ad → ad.block < w.heap.size) := hA
 clear hE hE1 hk hU hA hb2 hb3 st0 hI0
 go_wp2_with fail
 refine (upto_st p A n c bs a1 0 _ st1.out.e 32 (by decide) h1.out).mono ?_
 rintro e w2 ⟨rfl, hE2, hk2⟩
 have st2 := st1.out.step hE2 hk2
 clear c3 f3 l3 st1 hE2 hk2
 have c3 := st2.b1.cell 5; have f3 := st2.b1.frozen 5; have l3 := st2.b1.lt
 have st3 := Lib.hid (st2.store (cs1' := #[.int .i64 8, .int .i64 0, .int .i64 0, .int .i64 0, .float .f64 0, .int .i64 (cc : Int), .string ⟨#[]⟩, .slice none 0 0]) 5 (.int .i64 (cc : Int)) rfl)
 clear st2
 go_wp2_with fail
 refine (upto_st p A n c bs a2 e2 _ st3.out.e 32 (by decide) h2.out).mono ?_
 rintro e w3 ⟨rfl, hE3, hk3⟩
 have st4 := st3.out.step hE3 hk3
 clear c3 f3 l3 hE3 hk3
 have hL0 : EyeL w p A n c bs 8 cc 0 [] none 0 w3 a3 e3 := ⟨st4, World.ownsRow_nil _ _ _ _, fun j => by simp [itAt], by have := st4.b1.lt; omega⟩
 have hH0 : Hid (rRec bs a = rListEnd 8 cc (eGo false bs (m - 0) [] a3 e3)) := hI
 clear h1 h2 hI st3 st4
 go_wp2_with fail
 go_loopw [5] (fun v wr => ∃ (i : Nat) (acc : List MItem) (A' : Option Addr) (c' ar er : Nat), i ≤ m ∧ v = .int .i64 (i : Nat) ∧ EyeL w p A n c bs 8 cc i acc A' c' wr ar er ∧ Hid (rRec bs a = rListEnd 8 cc (eGo false bs (m - i) acc ar er))) (fun v _ => (m - intOf v).toNat)
 case atStart => exact ⟨0, [], none, 0, a3, e3, Nat.zero_le _, rfl, hL0, hH0⟩
 case round =>
  obtain ⟨i, acc, A', c', ar, er, hi, rfl, hT, hH⟩ := hrel
  clear hL0 hH0
  by_cases hz : er = 0
  case neg =>
   by_cases hlt5 : i < m
   ·have t2 : decide ((i : Int) < (m : Int)) = true := decide_eq_true (by omega)
    have hJ : Hid (rRec bs a = .error (er, ar)) := by unfold Hid; rw [hH.out]; unfold eGo; rw [if_neg hz]; rfl
    have t3 : (((er : Nat) : Int) == 0) = false := by rw [beq_eq_false_iff_ne]; omega
    have t4 : (((er : Nat) : Int) != 0) = true := by rw [bne_iff_ne]; omega
    have stF := hT.st
    have cE := stF.e.blk.cell 2
    have hlp := stF.e.blk.lt
    have hm := stF.b0.frozen
    have hl0 := stF.b0.lt
    have hc0 := stF.b0.cell
    have hfin := stF.b0.store8 (v0 := .int .i64 0) (v1 := .int .i64 0) (v2 := .int .i64 0) (v3 := .int .i64 0) (v4 := .float .f64 0) (v5 := .int .i64 0) (v6 := .string ⟨#[]⟩) (v7 := .slice none 0 0)
    have hEe := Lib.hid (stF.e.kept (fill8_kept wr w.heap.size (.int .i64 0) (.int .i64 0) (.int .i64 0) (.int .i64 0) (.float .f64 0) (.int .i64 0) (.string ⟨#[]⟩) (.slice none 0 0)) (fun e => by have := stF.Bp; omega) (fun ad e h2 => by have := stF.BA ad e; omega))
    have hKw := Lib.hid (stF.K.then_ (fill8_kept wr w.heap.size (.int .i64 0) (.int .i64 0) (.int .i64 0) (.int .i64 0) (.float .f64 0) (.int .i64 0) (.string ⟨#[]⟩) (.slice none 0 0)) (fun i hi h2 => by exfalso; omega))
    replace hfin := Lib.hid hfin
    have hpn := stF.Bp
    have hn0p : ¬ p = w.heap.size := by omega
    clear hT hH stF
    go_wp2_with fail
    refine bodyPost_ret (v := .agg #[.int .i64 0, .int .i64 0, .int .i64 0, .int .i64 0, .float .f64 0, .int .i64 0, .string ⟨#[]⟩, .slice none 0 0]) ?_ rfl ?_
    ·refine results_cell_row Tryz.results137 _ _ w.heap.size 83 #[.int .i64 0, .int .i64 0, .int .i64 0, .int .i64 0, .float .f64 0, .int .i64 0, .string ⟨#[]⟩, .slice none 0 0] (0, 0) _ ?_ ?_ Tryz.underlying83 ?_ ?_
     ·rfl
     ·exact hfin.out
     ·rfl
     ·exact size_rec
    ·rw [hJ.out]
     exact ⟨rfl, hEe.out, hKw.out⟩
   ·have t2 : decide ((i : Int) < (m : Int)) = false := decide_eq_false (by omega)
    have hJ : Hid (rRec bs a = .error (er, ar)) := by unfold Hid; rw [hH.out]; unfold eGo; rw [if_neg hz]; rfl
    have t3 : (((er : Nat) : Int) == 0) = false := by rw [beq_eq_false_iff_ne]; omega
    have t4 : (((er : Nat) : Int) != 0) = true := by rw [bne_iff_ne]; omega
    have stF := hT.st
    have cE := stF.e.blk.cell 2
    have hlp := stF.e.blk.lt
    have hm := stF.b0.frozen
    have hl0 := stF.b0.lt
    have hc0 := stF.b0.cell
    have hfin := stF.b0.store8 (v0 := .int .i64 0) (v1 := .int .i64 0) (v2 := .int .i64 0) (v3 := .int .i64 0) (v4 := .float .f64 0) (v5 := .int .i64 0) (v6 := .string ⟨#[]⟩) (v7 := .slice none 0 0)
    have hEe := Lib.hid (stF.e.kept (fill8_kept wr w.heap.size (.int .i64 0) (.int .i64 0) (.int .i64 0) (.int .i64 0) (.float .f64 0) (.int .i64 0) (.string ⟨#[]⟩) (.slice none 0 0)) (fun e => by have := stF.Bp; omega) (fun ad e h2 => by have := stF.BA ad e; omega))
    have hKw := Lib.hid (stF.K.then_ (fill8_kept wr w.heap.size (.int .i64 0) (.int .i64 0) (.int .i64 0) (.int .i64 0) (.float .f64 0) (.int .i64 0) (.string ⟨#[]⟩) (.slice none 0 0)) (fun i hi h2 => by exfalso; omega))
    replace hfin := Lib.hid hfin
    have hpn := stF.Bp
    have hn0p : ¬ p = w.heap.size := by omega
    clear hT hH stF
    go_wp2_with fail
    refine bodyPost_ret (v := .agg #[.int .i64 0, .int .i64 0, .int .i64 0, .int .i64 0, .float .f64 0, .int .i64 0, .string ⟨#[]⟩, .slice none 0 0]) ?_ rfl ?_
    ·refine results_cell_row Tryz.results137 _ _ w.heap.size 83 #[.int .i64 0, .int .i64 0, .int .i64 0, .int .i64 0, .float .f64 0, .int .i64 0, .string ⟨#[]⟩, .slice none 0 0] (0, 0) _ ?_ ?_ Tryz.underlying83 ?_ ?_
     ·rfl
     ·exact hfin.out
     ·rfl
     ·exact size_rec
    ·rw [hJ.out]
     exact ⟨rfl, hEe.out, hKw.out⟩
  subst hz
  by_cases hlt5 : i < m
  ·have t2 : decide ((i : Int) < (m : Int)) = true := decide_eq_true (by omega)
   have cE := hT.st.e.blk.cell 2
   have hlp := hT.st.e.blk.lt
   have hd := hT.st.b1.cell
   have hdl := hT.st.b1.lt
   have hdn : ¬ w.heap.size + 1 = wr.heap.size := by omega
   have hdn' : ¬ wr.heap.size = w.heap.size + 1 := by omega
   have hpn : ¬ p = wr.heap.size := by omega
   have hno := Lib.hid hT.fresh
   have hpx : Hid (wr.heap.size ≠ p) := by unfold Hid; omega
   have hBx : Hid (w.heap.size + 2 ≤ wr.heap.size) := hT.Bs
   have T0 := hT.cln ((Below.refl _ _).alloc (Nat.le_refl _) (.cells #[.float .f64 0, .string ⟨#[]⟩] 87))
   have x0 := Blk.new wr 87 #[.float .f64 0, .string ⟨#[]⟩]
   rcases h2 : nxt (rS 16 bs) [] ar 0 with ⟨x, ar2, er2⟩
   have hH9 : Hid (rRec bs a = rListEnd 8 cc (eGo false bs (m - (i + 1)) (acc ++ [⟨0, x⟩]) ar2 er2)) := hH.out.trans (congrArg (rListEnd 8 cc) (eGo_set hlt5 h2))
   have hsx : (0 : Nat) < 18446744073709551616 := by decide
   replace h2 := Lib.hid h2
   clear hT hH
   obtain ⟨i0, hi0, hz0, hz1, hz2⟩ := info_parts Tryz.info87
   go_wp2_with fail
   refine (part_s_st p A n c bs ar 0 _ T0.st.e 16 (by decide) h2.out).mono ?_
   rintro e w6 ⟨⟨_, _, _, _, _, rfl⟩, hE6, hk6⟩
   have T3 := T0.step hE6 hk6
   have x3 := x0.kept hk6 hpx.out
   have T4 := T3.far (keptSet w6 wr.heap.size 1 (.string (str x))) hBx.out hno.out
   clear hd hdl hE6 hk6 cE hlp
   have hd := T3.st.b1.cell
   have hdl := T3.st.b1.lt
   have xc := x3.cell
   have xf := x3.frozen
   have xl := x3.lt
   clear T0 x0
   go_wp2_with (first | (simp only [field_part4]) | (
    at_builtin
    refine wpList_push rfl _ _ 81 rfl (w.heap.size + 2) 87 i0 (.agg #[.float .f64 0, .string ⟨#[]⟩]) 2 24 Tryz.underlying81 hi0 hz0 hz1 hz2 rfl (by decide) (by decide) (.slice A' i c') i (itemVals acc) [.float .f64 0, .string (str x)] rfl (by simp [Value.oneCell']) rfl (by simp only [World.size_setCell]; rfl) T4.own (by omega) T4.Bs ?_
    intro v' w1 hown1 hg1
    obtain ⟨A2, c2, rfl, _, _⟩ := own_form hown1
    rw [itemVals_snoc acc ⟨0, x⟩] at hown1
    obtain ⟨hst, hBs⟩ := T4.grow hg1
    have T5 := Lib.hid (T4.push hsx hst hBs hown1)
    clear hd hdl xc xf xl hown1 hg1
    have hd := hst.b1.cell
    have hdl := hst.b1.lt
    have hdf := hst.b1.frozen
    clear hst))
   go_roundw
   case rel => exact ⟨i + 1, _, A2, c2, _, _, hlt5, by go_num, T5.out, hH9⟩
   case measure => simp [intOf]; omega
  ·obtain rfl : i = m := by omega
   have t2 : decide ((i : Int) < (i : Int)) = false := decide_eq_false (by omega)
   have hspec9 : Hid (rRec bs a = rDone ⟨8, 0, 0, 0, 0, (cc : Int), [], acc⟩ ar) := by unfold Hid; rw [hH.out, Nat.sub_self]; rfl
   have hLI : RdItems wr A' i acc := own_items hT.own hT.wf
   have hge : Hid (∀ ad, A' = some ad → w.heap.size + 2 ≤ ad.block) := fun ad e => by
    obtain ⟨A3, c3, hv3, hA3, _⟩ := own_form hT.own
    injection hv3 with h1 h2 h3
    exact (hA3 ad (h1 ▸ e)).2.2.1
   have st9 := hT.st
   clear hH hT
   have cE := st9.e.blk.cell 2
   have hlp := st9.e.blk.lt
   have hc9 := st9.b1.cell
   have hl9 := st9.b1.lt
   have hwf : Hid ((⟨8, 0, 0, 0, 0, (cc : Int), [], acc⟩ : MRec).WF) := by constructor <;> dsimp only <;> omega
   have cC : ∀ W : World, Cln wr W → Calls Tryz.prog 109 #[.agg #[.int .i64 8, .int .i64 0, .int .i64 0, .int .i64 0, .float .f64 0, .int .i64 (cc : Int), .string ⟨#[]⟩, .slice A' i c']] W fun e w' => e = .returned (.int .i64 (checkRec ⟨8, 0, 0, 0, 0, (cc : Int), [], acc⟩ : Nat)) ∧ Cln W w' := fun W hW => rcheck_any ⟨8, 0, 0, 0, 0, (cc : Int), [], acc⟩ A' i c' (by omega) hwf.out W (RdItems.cln hLI hW)
   generalize hcd : checkRec ⟨8, 0, 0, 0, 0, (cc : Int), [], acc⟩ = cd at cC
   replace hcd := Lib.hid hcd
   go_wp2_with fail
   refine (cC _ (by (repeat with_reducible first | exact cR _ | assumption | refine cA ?_ _ | refine cD ?_ | refine cN ?_ _ | refine cS ?_ (by first | omega | (simp <;> omega)) _))).mono ?_
   rintro e w4 ⟨rfl, hq⟩
   have st10 := Lib.hid (st9.cln hq)
   have hL10 : Hid (RdItems w4 A' i acc) := RdItems.cln hLI hq
   clear cE hlp hc9 hl9 cC st9 hq hLI
   go_wp2_with fail
   refine (fail_new p A n c bs ar cd _ st10.out.e).mono ?_
   rintro e w5 ⟨rfl, hE5, hk5⟩
   have hL11 : Hid (RdItems w5 A' i acc) := hL10.out.kept hk5 (fun ad e _ h2 => by have := hge.out ad e; have := st10.out.Bp; omega)
   have stF := st10.out.step hE5 hk5
   have cE := stF.e.blk.cell 2
   have hlp := stF.e.blk.lt
   have hm := stF.b0.frozen
   have hl0 := stF.b0.lt
   have hc0 := stF.b0.cell
   have hpn : ¬ p = w.heap.size := by have := stF.Bp; omega
   clear st10 hE5 hk5 hL10
   by_cases hz : cd = 0
   ·subst hz
    have hJ : Hid (rRec bs a = .ok (⟨8, 0, 0, 0, 0, (cc : Int), [], acc⟩, ar)) := by unfold Hid; rw [hspec9.out]; unfold rDone; rw [if_pos hcd.out]
    have hc1 := stF.b1.cell
    have hl1 := stF.b1.lt
    have hfin := Lib.hid (stF.b0.store8 (v0 := .int .i64 8) (v1 := .int .i64 0) (v2 := .int .i64 0) (v3 := .int .i64 0) (v4 := .float .f64 0) (v5 := .int .i64 (cc : Int)) (v6 := .string ⟨#[]⟩) (v7 := .slice A' i c'))
    have hfk := fill8_kept w5 w.heap.size (.int .i64 8) (.int .i64 0) (.int .i64 0) (.int .i64 0) (.float .f64 0) (.int .i64 (cc : Int)) (.string ⟨#[]⟩) (.slice A' i c')
    have hEe := Lib.hid (stF.e.kept hfk (fun e => by have := stF.Bp; omega) (fun ad e h2 => by have := stF.BA ad e; omega))
    have hKw := Lib.hid (stF.K.then_ hfk (fun i hi h2 => by exfalso; omega))
    have hLL := Lib.hid (hL11.out.kept hfk (fun ad e _ h2 => by have := hge.out ad e; omega))
    clear hfk stF hL11
    go_wp2_with fail
    refine bodyPost_ret (v := .agg #[.int .i64 8, .int .i64 0, .int .i64 0, .int .i64 0, .float .f64 0, .int .i64 (cc : Int), .string ⟨#[]⟩, .slice A' i c']) ?_ rfl ?_
    ·refine results_cell_row Tryz.results137 _ _ w.heap.size 83 #[.int .i64 8, .int .i64 0, .int .i64 0, .int .i64 0, .float .f64 0, .int .i64 (cc : Int), .string ⟨#[]⟩, .slice A' i c'] (0, 0) _ ?_ ?_ Tryz.underlying83 ?_ ?_
     ·rfl
     ·exact hfin.out
     ·rfl
     ·exact size_rec
    ·rw [hJ.out]
     exact ⟨A', i, c', rfl, hLL.out, by omega, (fun ad e => by have := hge.out ad e; omega), hEe.out, hKw.out⟩
   ·have hJ : Hid (rRec bs a = .error (cd, ar)) := by unfold Hid; rw [hspec9.out]; unfold rDone; rw [if_neg (by rw [hcd.out]; exact hz), hcd.out]
    have t4 : (((cd : Nat) : Int) != 0) = true := by rw [bne_iff_ne]; omega
    have hfin := Lib.hid (stF.b0.store8 (v0 := .int .i64 0) (v1 := .int .i64 0) (v2 := .int .i64 0) (v3 := .int .i64 0) (v4 := .float .f64 0) (v5 := .int .i64 0) (v6 := .string ⟨#[]⟩) (v7 := .slice none 0 0))
    have hfk := fill8_kept w5 w.heap.size (.int .i64 0) (.int .i64 0) (.int .i64 0) (.int .i64 0) (.float .f64 0) (.int .i64 0) (.string ⟨#[]⟩) (.slice none 0 0)
    have hEe := Lib.hid (stF.e.kept hfk (fun e => by have := stF.Bp; omega) (fun ad e h2 => by have := stF.BA ad e; omega))
    have hKw := Lib.hid (stF.K.then_ hfk (fun i hi h2 => by exfalso; omega))
    clear hfk stF hL11
    go_wp2_with fail
    refine bodyPost_ret (v := .agg #[.int .i64 0, .int .i64 0, .int .i64 0, .int .i64 0, .float .f64 0, .int .i64 0, .string ⟨#[]⟩, .slice none 0 0]) ?_ rfl ?_
    ·refine results_cell_row Tryz.results137 _ _ w.heap.size 83 #[.int .i64 0, .int .i64 0, .int .i64 0, .int .i64 0, .float .f64 0, .int .i64 0, .string ⟨#[]⟩, .slice none 0 0] (0, 0) _ ?_ ?_ Tryz.underlying83 ?_ ?_
     ·rfl
     ·exact hfin.out
     ·rfl
     ·exact size_rec
    ·rw [hJ.out]
     exact ⟨rfl, hEe.out, hKw.out⟩
set_option maxHeartbeats 8000000 in
theorem next_top (p : Nat) (A : Option Addr) (n c : Nat) (bs : List UInt8) (a : Nat) (w : World) (hE : IsE w p A n c bs a 0) (hA : ∀ ad, A = some ad → ad.block < w.heap.size) (a1 : Nat) (hU : rUpto 9 bs a = .ok (9, a1)) :
  Calls Tryz.prog 137 #[.pointer (some ⟨p, 0, none⟩)] w (NextPost w p A n c bs (rRec bs a)) := by
 have hI0 : Hid (rRec bs a = rBody 9 bs a1) := by unfold Hid rRec; simp only [hU]; rfl
 have hp0 := hE.blk.lt
 go_enter Tryz.func137, Tryz.ntmps137
 go_wp2_with fail
 refine (upto_new p A n c bs a 9 (by decide) _ (hE.cln (by (repeat with_reducible first | exact cR _ | assumption | refine cA ?_ _ | refine cD ?_ | refine cN ?_ _ | refine cS ?_ (by first | omega | (simp <;> omega)) _)))).mono ?_
 intro e w1 hP
 rw [hU] at hP
 obtain ⟨rfl, hE1, hk⟩ := hP
 rcases h1 : nxt (rUpto 32 bs) 0 a1 0 with ⟨cc, a2, e2⟩
 rcases h2 : nxt (rUpto 32 bs) 0 a2 e2 with ⟨m, a3, e3⟩
 have hI : Hid (rRec bs a = rListEnd 9 cc (eGo true bs m [] a3 e3)) := by unfold Hid; rw [hI0.out]; exact rList_nxt (by decide) h1 h2
 have hcc : cc ≤ 32 := nxt_all (fun x : Nat => x ≤ 32) (by decide) (fun x a' h => rUpto_le h) h1
 have hm : m ≤ 32 := nxt_all (fun x : Nat => x ≤ 32) (by decide) (fun x a' h => rUpto_le h) h2
 replace h1 := Lib.hid h1; replace h2 := Lib.hid h2
 have hb2 := ((Blk.new w 83 #[.int .i64 0, .int .i64 0, .int .i64 0, .int .i64 0, .float .f64 0, .int .i64 0, .string ⟨#[]⟩, .slice none 0 0]).alloc (.cells #[.int .i64 0, .int .i64 0, .int .i64 0, .int .i64 0, .float .f64 0, .int .i64 0, .string ⟨#[]⟩, .slice none 0 0] 83)).kept hk (by show ¬ w.heap.size = p; omega)
 have hb3 := (Blk.new (w.alloc (.cells #[.int .i64 0, .int .i64 0, .int .i64 0, .int .i64 0, .float .f64 0, .int .i64 0, .string ⟨#[]⟩, .slice none 0 0] 83)) 83 #[.int .i64 0, .int .i64 0, .int .i64 0, .int .i64 0, .float .f64 0, .int .i64 0, .string ⟨#[]⟩, .slice none 0 0]).kept hk (by show ¬ (w.alloc _).heap.size = p; rw [World.size_alloc]; omega)
 rw [World.size_alloc] at hb3
 have st0 : EyeS w p A n c bs #[.int .i64 0, .int .i64 0, .int .i64 0, .int .i64 0, .float .f64 0, .int .i64 0, .string ⟨#[]⟩, .slice none 0 0] w1 a1 0 :=
  ⟨hE1, (Kept.of_below (S := fun i => i = p) (hzNexts0 w)).then_ hk (fun i _ h => h), hb2, hb3, hp0, hA⟩
 have st1 := st0.store (cs1' := #[.int .i64 9, .int .i64 0, .int .i64 0, .int .i64 0, .float .f64 0, .int .i64 0, .string ⟨#[]⟩, .slice none 0 0]) 0 (.int .i64 9) rfl
 have c3 := hb3.cell 0; have f3 := hb3.frozen 0; have l3 := hb3.lt
 replace st1 := Lib.hid st1
 have hAo : Hid (∀ ad, A = some ad → ad.block < w.heap.size) := hA
 clear hE hE1 hk hU hA hb2 hb3 st0 hI0
 go_wp2_with fail
 refine (upto_st p A n c bs a1 0 _ st1.out.e 32 (by decide) h1.out).mono ?_
 rintro e w2 ⟨rfl, hE2, hk2⟩
 have st2 := st1.out.step hE2 hk2
 clear c3 f3 l3 st1 hE2 hk2
 have c3 := st2.b1.cell 5; have f3 := st2.b1.frozen 5; have l3 := st2.b1.lt
 have st3 := Lib.hid (st2.store (cs1' := #[.int .i64 9, .int .i64 0, .int .i64 0, .int .i64 0, .float .f64 0, .int .i64 (cc : Int), .string ⟨#[]⟩, .slice none 0 0]) 5 (.int .i64 (cc : Int)) rfl)
 clear st2
 go_wp2_with fail
 refine (upto_st p A n c bs a2 e2 _ st3.out.e 32 (by decide) h2.out).mono ?_
 rintro e w3 ⟨rfl, hE3, hk3⟩
 have st4 := st3.out.step hE3 hk3
 clear c3 f3 l3 hE3 hk3
 have hL0 : EyeL w p A n c bs 9 cc 0 [] none 0 w3 a3 e3 := ⟨st4, World.ownsRow_nil _ _ _ _, fun j => by simp [itAt], by have := st4.b1.lt; omega⟩
 have hH0 : Hid (rRec bs a = rListEnd 9 cc (eGo true bs (m - 0) [] a3 e3)) := hI
 clear h1 h2 hI st3 st4
 go_wp2_with fail
 go_loopw [5] (fun v wr => ∃ (i : Nat) (acc : List MItem) (A' : Option Addr) (c' ar er : Nat), i ≤ m ∧ v = .int .i64 (i : Nat) ∧ EyeL w p A n c bs 9 cc i acc A' c' wr ar er ∧ Hid (rRec bs a = rListEnd 9 cc (eGo true bs (m - i) acc ar er))) (fun v _ => (m - intOf v).toNat)
 case atStart => exact ⟨0, [], none, 0, a3, e3, Nat.zero_le _, rfl, hL0, hH0⟩
 case round =>
  obtain ⟨i, acc, A', c', ar, er, hi, rfl, hT, hH⟩ := hrel
  clear hL0 hH0
  by_cases hz : er = 0
  case neg =>
   by_cases hlt5 : i < m
   ·have t2 : decide ((i : Int) < (m : Int)) = true := decide_eq_true (by omega)
    have hJ : Hid (rRec bs a = .error (er, ar)) := by unfold Hid; rw [hH.out]; unfold eGo; rw [if_neg hz]; rfl
    have t3 : (((er : Nat) : Int) == 0) = false := by rw [beq_eq_false_iff_ne]; omega
    have t4 : (((er : Nat) : Int) != 0) = true := by rw [bne_iff_ne]; omega
    have stF := hT.st
    have cE := stF.e.blk.cell 2
    have hlp := stF.e.blk.lt
    have hm := stF.b0.frozen
    have hl0 := stF.b0.lt
    have hc0 := stF.b0.cell
    have hfin := stF.b0.store8 (v0 := .int .i64 0) (v1 := .int .i64 0) (v2 := .int .i64 0) (v3 := .int .i64 0) (v4 := .float .f64 0) (v5 := .int .i64 0) (v6 := .string ⟨#[]⟩) (v7 := .slice none 0 0)
    have hEe := Lib.hid (stF.e.kept (fill8_kept wr w.heap.size (.int .i64 0) (.int .i64 0) (.int .i64 0) (.int .i64 0) (.float .f64 0) (.int .i64 0) (.string ⟨#[]⟩) (.slice none 0 0)) (fun e => by have := stF.Bp; omega) (fun ad e h2 => by have := stF.BA ad e; omega))
    have hKw := Lib.hid (stF.K.then_ (fill8_kept wr w.heap.size (.int .i64 0) (.int .i64 0) (.int .i64 0) (.int .i64 0) (.float .f64 0) (.int .i64 0) (.string ⟨#[]⟩) (.slice none 0 0)) (fun i hi h2 => by exfalso; omega))
    replace hfin := Lib.hid hfin
    have hpn := stF.Bp
    have hn0p : ¬ p = w.heap.size := by omega
    clear hT hH stF
    go_wp2_with fail
    refine bodyPost_ret (v := .agg #[.int .i64 0, .int .i64 0, .int .i64 0, .int .i64 0, .float .f64 0, .int .i64 0, .string ⟨#[]⟩, .slice none 0 0]) ?_ rfl ?_
    ·refine results_cell_row Tryz.results137 _ _ w.heap.size 83 #[.int .i64 0, .int .i64 0, .int .i64 0, .int .i64 0, .float .f64 0, .int .i64 0, .string ⟨#[]⟩, .slice none 0 0] (0, 0) _ ?_ ?_ Tryz.underlying83 ?_ ?_
     ·rfl
     ·exact hfin.out
     ·rfl
     ·exact size_rec
    ·rw [hJ.out]
     exact ⟨rfl, hEe.out, hKw.out⟩
   ·have t2 : decide ((i : Int) < (m : Int)) = false := decide_eq_false (by omega)
    have hJ : Hid (rRec bs a = .error (er, ar)) := by unfold Hid; rw [hH.out]; unfold eGo; rw [if_neg hz]; rfl
    have t3 : (((er : Nat) : Int) == 0) = false := by rw [beq_eq_false_iff_ne]; omega
    have t4 : (((er : Nat) : Int) != 0) = true := by rw [bne_iff_ne]; omega
    have stF := hT.st
    have cE := stF.e.blk.cell 2
    have hlp := stF.e.blk.lt
    have hm := stF.b0.frozen
    have hl0 := stF.b0.lt
    have hc0 := stF.b0.cell
    have hfin := stF.b0.store8 (v0 := .int .i64 0) (v1 := .int .i64 0) (v2 := .int .i64 0) (v3 := .int .i64 0) (v4 := .float .f64 0) (v5 := .int .i64 0) (v6 := .string ⟨#[]⟩) (v7 := .slice none 0 0)
    have hEe := Lib.hid (stF.e.kept (fill8_kept wr w.heap.size (.int .i64 0) (.int .i64 0) (.int .i64 0) (.int .i64 0) (.float .f64 0) (.int .i64 0) (.string ⟨#[]⟩) (.slice none 0 0)) (fun e => by have := stF.Bp; omega) (fun ad e h2 => by have := stF.BA ad e; omega))
    have hKw := Lib.hid (stF.K.then_ (fill8_kept wr w.heap.size (.int .i64 0) (.int .i64 0) (.int .i64 0) (.int .i64 0) (.float .f64 0) (.int .i64 0) (.string ⟨#[]⟩) (.slice none 0 0)) (fun i hi h2 => by exfalso; omega))
    replace hfin := Lib.hid hfin
    have hpn := stF.Bp
    have hn0p : ¬ p = w.heap.size := by omega
    clear hT hH stF
    go_wp2_with fail
    refine bodyPost_ret (v := .agg #[.int .i64 0, .int .i64 0, .int .i64 0, .int .i64 0, .float .f64 0, .int .i64 0, .string ⟨#[]⟩, .slice none 0 0]) ?_ rfl ?_
    ·refine results_cell_row Tryz.results137 _ _ w.heap.size 83 #[.int .i64 0, .int .i64 0, .int .i64 0, .int .i64 0, .float .f64 0, .int .i64 0, .string ⟨#[]⟩, .slice none 0 0] (0, 0) _ ?_ ?_ Tryz.underlying83 ?_ ?_
     ·rfl
     ·exact hfin.out
     ·rfl
     ·exact size_rec
    ·rw [hJ.out]
     exact ⟨rfl, hEe.out, hKw.out⟩
  subst hz
  by_cases hlt5 : i < m
  ·have t2 : decide ((i : Int) < (m : Int)) = true := decide_eq_true (by omega)
   have cE := hT.st.e.blk.cell 2
   have hlp := hT.st.e.blk.lt
   have hd := hT.st.b1.cell
   have hdl := hT.st.b1.lt
   have hdn : ¬ w.heap.size + 1 = wr.heap.size := by omega
   have hdn' : ¬ wr.heap.size = w.heap.size + 1 := by omega
   have hpn : ¬ p = wr.heap.size := by omega
   have hno := Lib.hid hT.fresh
   have hpx : Hid (wr.heap.size ≠ p) := by unfold Hid; omega
   have hBx : Hid (w.heap.size + 2 ≤ wr.heap.size) := hT.Bs
   have T0 := hT.cln ((Below.refl _ _).alloc (Nat.le_refl _) (.cells #[.float .f64 0, .string ⟨#[]⟩] 87))
   have x0 := Blk.new wr 87 #[.float .f64 0, .string ⟨#[]⟩]
   rcases h1 : nxt (rF bs) (funkey 0) ar 0 with ⟨s, ar1, er1⟩
   rcases h2 : nxt (rS 16 bs) [] ar1 er1 with ⟨x, ar2, er2⟩
   have hH9 : Hid (rRec bs a = rListEnd 9 cc (eGo true bs (m - (i + 1)) (acc ++ [⟨s, x⟩]) ar2 er2)) := hH.out.trans (congrArg (rListEnd 9 cc) (eGo_top hlt5 h1 h2))
   have hsx : s < 18446744073709551616 := nxt_all (fun x : Nat => x < 18446744073709551616) funkey_lt0 (fun x a' h => rF_lt h) h1
   replace h1 := Lib.hid h1; replace h2 := Lib.hid h2
   clear hT hH
   obtain ⟨i0, hi0, hz0, hz1, hz2⟩ := info_parts Tryz.info87
   go_wp2_with fail
   refine (part_f_st p A n c bs ar 0 _ T0.st.e 0 h1.out).mono ?_
   rintro e w5 ⟨⟨_, _, _, K, _, _, rfl, hK1, hK2⟩, hE5, hk5⟩
   have T1 := T0.step hE5 hk5
   have x1 := x0.kept hk5 hpx.out
   have T2 := T1.far (keptSet w5 wr.heap.size 0 (.float .f64 s)) hBx.out hno.out
   have x2 : Blk _ _ _ #[.float .f64 s, .string ⟨#[]⟩] := Blk.store1 x1 0 (.float .f64 s) rfl
   replace hK2 := Lib.hid hK2
   clear hd hdl hE5 hk5 cE hlp
   have hd := T1.st.b1.cell
   have hdl := T1.st.b1.lt
   have xc := x1.cell 0
   have xf := x1.frozen 0
   have xl := x1.lt
   go_wp2_with (simp only [field_part3])
   refine (number_any K hK1 _).mono ?_
   rintro e w9 ⟨rfl, rfl⟩
   rw [hK2.out]
   go_wp2_with fail
   refine (part_s_st p A n c bs ar1 er1 _ T2.st.e 16 (by decide) h2.out).mono ?_
   rintro e w6 ⟨⟨_, _, _, _, _, rfl⟩, hE6, hk6⟩
   have T3 := T2.step hE6 hk6
   have x3 := x2.kept hk6 hpx.out
   have T4 := T3.far (keptSet w6 wr.heap.size 1 (.string (str x))) hBx.out hno.out
   clear hd hdl xc xf xl hE6 hk6 T1 T2 x1 x2 hK1 hK2
   have hd := T3.st.b1.cell
   have hdl := T3.st.b1.lt
   have xc := x3.cell
   have xf := x3.frozen
   have xl := x3.lt
   clear T0 x0
   go_wp2_with (first | (simp only [field_part4]) | (
    at_builtin
    refine wpList_push rfl _ _ 81 rfl (w.heap.size + 2) 87 i0 (.agg #[.float .f64 0, .string ⟨#[]⟩]) 2 24 Tryz.underlying81 hi0 hz0 hz1 hz2 rfl (by decide) (by decide) (.slice A' i c') i (itemVals acc) [.float .f64 s, .string (str x)] rfl (by simp [Value.oneCell']) rfl (by simp only [World.size_setCell]; rfl) T4.own (by omega) T4.Bs ?_
    intro v' w1 hown1 hg1
    obtain ⟨A2, c2, rfl, _, _⟩ := own_form hown1
    rw [itemVals_snoc acc ⟨s, x⟩] at hown1
    obtain ⟨hst, hBs⟩ := T4.grow hg1
    have T5 := Lib.hid (T4.push hsx hst hBs hown1)
    clear hd hdl xc xf xl hown1 hg1
    have hd := hst.b1.cell
    have hdl := hst.b1.lt
    have hdf := hst.b1.frozen
    clear hst))
   go_roundw
   case rel => exact ⟨i + 1, _, A2, c2, _, _, hlt5, by go_num, T5.out, hH9⟩
   case measure => simp [intOf]; omega
  ·obtain rfl : i = m := by omega
   have t2 : decide ((i : Int) < (i : Int)) = false := decide_eq_false (by omega)
   have hspec9 : Hid (rRec bs a = rDone ⟨9, 0, 0, 0, 0, (cc : Int), [], acc⟩ ar) := by unfold Hid; rw [hH.out, Nat.sub_self]; rfl
   have hLI : RdItems wr A' i acc := own_items hT.own hT.wf
   have hge : Hid (∀ ad, A' = some ad → w.heap.size + 2 ≤ ad.block) := fun ad e => by
    obtain ⟨A3, c3, hv3, hA3, _⟩ := own_form hT.own
    injection hv3 with h1 h2 h3
    exact (hA3 ad (h1 ▸ e)).2.2.1
   have st9 := hT.st
   clear hH hT
   have cE := st9.e.blk.cell 2
   have hlp := st9.e.blk.lt
   have hc9 := st9.b1.cell
   have hl9 := st9.b1.lt
   have hwf : Hid ((⟨9, 0, 0, 0, 0, (cc : Int), [], acc⟩ : MRec).WF) := by constructor <;> dsimp only <;> omega
   have cC : ∀ W : World, Cln wr W → Calls Tryz.prog 109 #[.agg #[.int .i64 9, .int .i64 0, .int .i64 0, .int .i64 0, .float .f64 0, .int .i64 (cc : Int), .string ⟨#[]⟩, .slice A' i c']] W fun e w' => e = .returned (.int .i64 (checkRec ⟨9, 0, 0, 0, 0, (cc : Int), [], acc⟩ : Nat)) ∧ Cln W w' := fun W hW => rcheck_any ⟨9, 0, 0, 0, 0, (cc : Int), [], acc⟩ A' i c' (by omega) hwf.out W (RdItems.cln hLI hW)
   generalize hcd : checkRec ⟨9, 0, 0, 0, 0, (cc : Int), [], acc⟩ = cd at cC
   replace hcd := Lib.hid hcd
   go_wp2_with fail
   refine (cC _ (by (repeat with_reducible first | exact cR _ | assumption | refine cA ?_ _ | refine cD ?_ | refine cN ?_ _ | refine cS ?_ (by first | omega | (simp <;> omega)) _))).mono ?_
   rintro e w4 ⟨rfl, hq⟩
   have st10 := Lib.hid (st9.cln hq)
   have hL10 : Hid (RdItems w4 A' i acc) := RdItems.cln hLI hq
   clear cE hlp hc9 hl9 cC st9 hq hLI
   go_wp2_with fail
   refine (fail_new p A n c bs ar cd _ st10.out.e).mono ?_
   rintro e w5 ⟨rfl, hE5, hk5⟩
   have hL11 : Hid (RdItems w5 A' i acc) := hL10.out.kept hk5 (fun ad e _ h2 => by have := hge.out ad e; have := st10.out.Bp; omega)
   have stF := st10.out.step hE5 hk5
   have cE := stF.e.blk.cell 2
   have hlp := stF.e.blk.lt
   have hm := stF.b0.frozen
   have hl0 := stF.b0.lt
   have hc0 := stF.b0.cell
   have hpn : ¬ p = w.heap.size := by have := stF.Bp; omega
   clear st10 hE5 hk5 hL10
   by_cases hz : cd = 0
   ·subst hz
    have hJ : Hid (rRec bs a = .ok (⟨9, 0, 0, 0, 0, (cc : Int), [], acc⟩, ar)) := by unfold Hid; rw [hspec9.out]; unfold rDone; rw [if_pos hcd.out]
    have hc1 := stF.b1.cell
    have hl1 := stF.b1.lt
    have hfin := Lib.hid (stF.b0.store8 (v0 := .int .i64 9) (v1 := .int .i64 0) (v2 := .int .i64 0) (v3 := .int .i64 0) (v4 := .float .f64 0) (v5 := .int .i64 (cc : Int)) (v6 := .string ⟨#[]⟩) (v7 := .slice A' i c'))
    have hfk := fill8_kept w5 w.heap.size (.int .i64 9) (.int .i64 0) (.int .i64 0) (.int .i64 0) (.float .f64 0) (.int .i64 (cc : Int)) (.string ⟨#[]⟩) (.slice A' i c')
    have hEe := Lib.hid (stF.e.kept hfk (fun e => by have := stF.Bp; omega) (fun ad e h2 => by have := stF.BA ad e; omega))
    have hKw := Lib.hid (stF.K.then_ hfk (fun i hi h2 => by exfalso; omega))
    have hLL := Lib.hid (hL11.out.kept hfk (fun ad e _ h2 => by have := hge.out ad e; omega))
    clear hfk stF hL11
    go_wp2_with fail
    refine bodyPost_ret (v := .agg #[.int .i64 9, .int .i64 0, .int .i64 0, .int .i64 0, .float .f64 0, .int .i64 (cc : Int), .string ⟨#[]⟩, .slice A' i c']) ?_ rfl ?_
    ·refine results_cell_row Tryz.results137 _ _ w.heap.size 83 #[.int .i64 9, .int .i64 0, .int .i64 0, .int .i64 0, .float .f64 0, .int .i64 (cc : Int), .string ⟨#[]⟩, .slice A' i c'] (0, 0) _ ?_ ?_ Tryz.underlying83 ?_ ?_
     ·rfl
     ·exact hfin.out
     ·rfl
     ·exact size_rec
    ·rw [hJ.out]
     exact ⟨A', i, c', rfl, hLL.out, by omega, (fun ad e => by have := hge.out ad e; omega), hEe.out, hKw.out⟩
   ·have hJ : Hid (rRec bs a = .error (cd, ar)) := by unfold Hid; rw [hspec9.out]; unfold rDone; rw [if_neg (by rw [hcd.out]; exact hz), hcd.out]
    have t4 : (((cd : Nat) : Int) != 0) = true := by rw [bne_iff_ne]; omega
    have hfin := Lib.hid (stF.b0.store8 (v0 := .int .i64 0) (v1 := .int .i64 0) (v2 := .int .i64 0) (v3 := .int .i64 0) (v4 := .float .f64 0) (v5 := .int .i64 0) (v6 := .string ⟨#[]⟩) (v7 := .slice none 0 0))
    have hfk := fill8_kept w5 w.heap.size (.int .i64 0) (.int .i64 0) (.int .i64 0) (.int .i64 0) (.float .f64 0) (.int .i64 0) (.string ⟨#[]⟩) (.slice none 0 0)
    have hEe := Lib.hid (stF.e.kept hfk (fun e => by have := stF.Bp; omega) (fun ad e h2 => by have := stF.BA ad e; omega))
    have hKw := Lib.hid (stF.K.then_ hfk (fun i hi h2 => by exfalso; omega))
    clear hfk stF hL11
    go_wp2_with fail
    refine bodyPost_ret (v := .agg #[.int .i64 0, .int .i64 0, .int .i64 0, .int .i64 0, .float .f64 0, .int .i64 0, .string ⟨#[]⟩, .slice none 0 0]) ?_ rfl ?_
    ·refine results_cell_row Tryz.results137 _ _ w.heap.size 83 #[.int .i64 0, .int .i64 0, .int .i64 0, .int .i64 0, .float .f64 0, .int .i64 0, .string ⟨#[]⟩, .slice none 0 0] (0, 0) _ ?_ ?_ Tryz.underlying83 ?_ ?_
     ·rfl
     ·exact hfin.out
     ·rfl
     ·exact size_rec
    ·rw [hJ.out]
     exact ⟨rfl, hEe.out, hKw.out⟩
set_option maxHeartbeats 8000000 in
theorem next_purse (p : Nat) (A : Option Addr) (n c : Nat) (bs : List UInt8) (a : Nat) (w : World) (hE : IsE w p A n c bs a 0) (hA : ∀ ad, A = some ad → ad.block < w.heap.size) (a1 : Nat) (hU : rUpto 9 bs a = .ok (4, a1)) :
  Calls Tryz.prog 137 #[.pointer (some ⟨p, 0, none⟩)] w (NextPost w p A n c bs (rRec bs a)) := by
 have hI0 : Hid (rRec bs a = rBody 4 bs a1) := by unfold Hid rRec; simp only [hU]; rfl
 have hp0 := hE.blk.lt
 go_enter Tryz.func137, Tryz.ntmps137
 go_wp2_with fail
 refine (upto_new p A n c bs a 9 (by decide) _ (hE.cln (by (repeat with_reducible first | exact cR _ | assumption | refine cA ?_ _ | refine cD ?_ | refine cN ?_ _ | refine cS ?_ (by first | omega | (simp <;> omega)) _)))).mono ?_
 intro e w1 hP
 rw [hU] at hP
 obtain ⟨rfl, hE1, hk⟩ := hP
 have hkw := Lib.hid ((Kept.of_below (S := fun i => i = p) (hzNexts0 w)).then_ hk (fun i _ h => h))
 have hb2 := Lib.hid (((Blk.new w 83 #[.int .i64 0, .int .i64 0, .int .i64 0, .int .i64 0, .float .f64 0, .int .i64 0, .string ⟨#[]⟩, .slice none 0 0]).alloc (.cells #[.int .i64 0, .int .i64 0, .int .i64 0, .int .i64 0, .float .f64 0, .int .i64 0, .string ⟨#[]⟩, .slice none 0 0] 83)).kept hk (by show ¬ w.heap.size = p; omega))
 have hb3 := (Blk.new (w.alloc (.cells #[.int .i64 0, .int .i64 0, .int .i64 0, .int .i64 0, .float .f64 0, .int .i64 0, .string ⟨#[]⟩, .slice none 0 0] 83)) 83 #[.int .i64 0, .int .i64 0, .int .i64 0, .int .i64 0, .float .f64 0, .int .i64 0, .string ⟨#[]⟩, .slice none 0 0]).kept hk (by show ¬ (w.alloc _).heap.size = p; rw [World.size_alloc]; omega)
 rw [World.size_alloc] at hb3
 have c3 := hb3.cell; have f3 := hb3.frozen; have l3 := hb3.lt
 replace hb3 := Lib.hid hb3
 replace hE1 := Lib.hid hE1
 have hne3 : ¬ p = w.heap.size + 1 := by omega
 have hne3' : ¬ w.heap.size + 1 = p := by omega
 have hne2 : ¬ p = w.heap.size := by omega
 have hAo : Hid (∀ ad, A = some ad → ad.block < w.heap.size) := hA
 clear hE hk hU hA
 go_wp2_with fail
 rcases h1 : nxt (rI bs) 0 a1 0 with ⟨x1, a2, e2⟩
 rcases h2 : nxt (rI bs) 0 a2 e2 with ⟨x2, a3, e3⟩
 rcases h3 : nxt (rI bs) 0 a3 e3 with ⟨x3, a4, e4⟩
 have hI : Hid (rRec bs a = if e4 = 0 then rDone ⟨4, x3, x1, x2, 0, 0, [], []⟩ a4 else .error (e4, a4)) := by unfold Hid; rw [hI0.out]; exact rPurse_nxt h1 h2 h3
 have hw1 := Lib.hid (nxt_all (fun x : Int => -9223372036854775808 ≤ x ∧ x < 9223372036854775808) (by decide) (fun x a' h => rI_lt h) h1)
 have hw2 := Lib.hid (nxt_all (fun x : Int => -9223372036854775808 ≤ x ∧ x < 9223372036854775808) (by decide) (fun x a' h => rI_lt h) h2)
 have hw3 := Lib.hid (nxt_all (fun x : Int => -9223372036854775808 ≤ x ∧ x < 9223372036854775808) (by decide) (fun x a' h => rI_lt h) h3)
 replace h1 := Lib.hid h1; replace h2 := Lib.hid h2; replace h3 := Lib.hid h3
 refine (part_i_st p A n c bs a1 0 _ (hE1.out.other (by dsimp only; omega) (fun ad e => by have := hAo.out ad e; dsimp only; omega) _) 0 h1.out).mono ?_
 rintro e w2 ⟨⟨_, _, _, _, _, rfl⟩, hE2, hk2⟩
 have hb2w := Lib.hid ((hb2.out.far (p := ⟨w.heap.size + 1, 0, none⟩) (by dsimp only; omega) (.int .i64 4)).kept hk2 (by show ¬ w.heap.size = p; omega))
 have hb3w := Lib.hid ((Blk.store1 hb3.out 0 (.int .i64 4) (cs' := #[.int .i64 4, .int .i64 0, .int .i64 0, .int .i64 0, .float .f64 0, .int .i64 0, .string ⟨#[]⟩, .slice none 0 0]) rfl).kept hk2 (by show ¬ w.heap.size + 1 = p; omega))
 have hkw2 : Hid (Kept (· = p) w w2) := (hkw.out.setCell (p := ⟨w.heap.size + 1, 0, none⟩) (fun hl => by exfalso; dsimp only at hl; omega) (.int .i64 4)).then_ hk2 (fun i _ h => h)
 replace hE2 := Lib.hid hE2
 clear hk2 c3 f3 l3 hb2 hb3 hkw hE1
 have k30 := hb3w.out.cell 2; have k31 := hb3w.out.frozen 2; have l3 := hb3w.out.lt
 go_wp2_with (simp only [field_part2])
 refine (part_i_st p A n c bs a2 e2 _ (hE2.out.other (by dsimp only; omega) (fun ad e => by have := hAo.out ad e; dsimp only; omega) _) 0 h2.out).mono ?_
 rintro e w3 ⟨⟨_, _, _, _, _, rfl⟩, hE3, hk3⟩
 have hb2x := Lib.hid ((hb2w.out.far (p := ⟨w.heap.size + 1, 2, none⟩) (by dsimp only; omega) (.int .i64 x1)).kept hk3 (by show ¬ w.heap.size = p; omega))
 have hb3x := Lib.hid ((Blk.store1 hb3w.out 2 (.int .i64 x1) (cs' := #[.int .i64 4, .int .i64 0, .int .i64 x1, .int .i64 0, .float .f64 0, .int .i64 0, .string ⟨#[]⟩, .slice none 0 0]) rfl).kept hk3 (by show ¬ w.heap.size + 1 = p; omega))
 have hkw3 : Hid (Kept (· = p) w w3) := (hkw2.out.setCell (p := ⟨w.heap.size + 1, 2, none⟩) (fun hl => by exfalso; dsimp only at hl; omega) (.int .i64 x1)).then_ hk3 (fun i _ h => h)
 replace hE3 := Lib.hid hE3
 clear hk3 k30 k31 l3 hb2w hb3w hkw2 hE2
 have k30 := hb3x.out.cell 3; have k31 := hb3x.out.frozen 3; have l3 := hb3x.out.lt
 go_wp2_with (simp only [field_part2])
 refine (part_i_st p A n c bs a3 e3 _ (hE3.out.other (by dsimp only; omega) (fun ad e => by have := hAo.out ad e; dsimp only; omega) _) 0 h3.out).mono ?_
 rintro e w4 ⟨⟨_, _, _, _, _, rfl⟩, hE4, hk4⟩
 have hb2y := Lib.hid ((hb2x.out.far (p := ⟨w.heap.size + 1, 3, none⟩) (by dsimp only; omega) (.int .i64 x2)).kept hk4 (by show ¬ w.heap.size = p; omega))
 have hb3y := Lib.hid ((Blk.store1 hb3x.out 3 (.int .i64 x2) (cs' := #[.int .i64 4, .int .i64 0, .int .i64 x1, .int .i64 x2, .float .f64 0, .int .i64 0, .string ⟨#[]⟩, .slice none 0 0]) rfl).kept hk4 (by show ¬ w.heap.size + 1 = p; omega))
 have hkw4 : Hid (Kept (· = p) w w4) := (hkw3.out.setCell (p := ⟨w.heap.size + 1, 3, none⟩) (fun hl => by exfalso; dsimp only at hl; omega) (.int .i64 x2)).then_ hk4 (fun i _ h => h)
 have cE := hE4.blk.cell 2
 replace hE4 := Lib.hid hE4
 clear hk4 k30 k31 l3 hb2x hb3x hkw3 hE3
 by_cases hz4 : e4 = 0
 case neg =>
  have hJ : Hid (rRec bs a = .error (e4, a4)) := by unfold Hid; rw [hI.out]; rw [if_neg hz4]
  have t1 : (((e4 : Nat) : Int) == 0) = false := by rw [beq_eq_false_iff_ne]; omega
  have t2 : (((e4 : Nat) : Int) != 0) = true := by rw [bne_iff_ne]; omega
  have k30 := hb3y.out.cell 1; have k31 := hb3y.out.frozen 1; have l3 := hb3y.out.lt
  have c2 := hb2y.out.cell; have f2 := hb2y.out.frozen; have l2 := hb2y.out.lt
  have hn23 : ¬ w.heap.size = w.heap.size + 1 := by omega
  clear hI
  go_wp2_with (simp only [field_part2])
  refine bodyPost_ret (v := .agg #[.int .i64 0, .int .i64 0, .int .i64 0, .int .i64 0, .float .f64 0, .int .i64 0, .string ⟨#[]⟩, .slice none 0 0]) ?_ rfl ?_
  ·refine results_cell_row Tryz.results137 _ _ w.heap.size 83 #[.int .i64 0, .int .i64 0, .int .i64 0, .int .i64 0, .float .f64 0, .int .i64 0, .string ⟨#[]⟩, .slice none 0 0] (0, 0) _ ?_ ?_ Tryz.underlying83 ?_ ?_
   ·rfl
   ·show Blk _ w.heap.size 83 _
    with_reducible refine Blk.store8 (a0 := .int .i64 0) (a1 := .int .i64 0) (a2 := .int .i64 0) (a3 := .int .i64 0) (a4 := .float .f64 0) (a5 := .int .i64 0) (a6 := .string ⟨#[]⟩) (a7 := .slice none 0 0) ?_
    repeat (first | with_reducible refine Blk.far ?_ (by dsimp only; omega) _ | with_reducible exact hb2y.out)
   ·rfl
   ·exact size_rec
  ·rw [hJ.out]
   have hK : ∀ W : World, Kept (· = p) w W → True := fun _ _ => trivial
   refine ⟨rfl, ?_, ?_⟩
   ·repeat (first | with_reducible refine IsE.other ?_ (by dsimp only; omega) (fun ad e => by have := hAo.out ad e; dsimp only; omega) _ | with_reducible exact hE4.out)
   ·repeat (first | with_reducible refine Kept.setCell ?_ (fun hl => by first | rfl | (exfalso; dsimp only at hl; omega)) _ | with_reducible exact hkw4.out)
 case pos =>
  subst hz4
  replace hI : Hid (rRec bs a = rDone ⟨4, x3, x1, x2, 0, 0, [], []⟩ a4) := by unfold Hid; rw [hI.out]; rw [if_pos rfl]
  have k0 := hb3y.out.cell 0; have k1 := hb3y.out.cell 1; have k2 := hb3y.out.cell 2; have k3 := hb3y.out.cell 3; have k4 := hb3y.out.cell 4; have k5 := hb3y.out.cell 5; have k6 := hb3y.out.cell 6; have k7 := hb3y.out.cell 7
  have f6 := hb3y.out.frozen 1; have l3 := hb3y.out.lt
  have hwf : Hid ((⟨4, x3, x1, x2, 0, 0, [], []⟩ : MRec).WF) := by
   have q1 := hw1.out; have q2 := hw2.out; have q3 := hw3.out
   constructor <;> dsimp only <;> first | omega | exact q1 | exact q2 | exact q3
  have cC : ∀ W : World, Calls Tryz.prog 109 #[.agg #[.int .i64 4, .int .i64 x3, .int .i64 x1, .int .i64 x2, .float .f64 0, .int .i64 0, .string ⟨#[]⟩, .slice none 0 0]] W fun e w' => e = .returned (.int .i64 (checkRec ⟨4, x3, x1, x2, 0, 0, [], []⟩ : Nat)) ∧ Cln W w' := fun W => rcheck_any ⟨4, x3, x1, x2, 0, 0, [], []⟩ none 0 0 (by omega) hwf.out W (RdItems.none_ _)
  generalize hcd : checkRec ⟨4, x3, x1, x2, 0, 0, [], []⟩ = cd at cC
  replace hcd := Lib.hid hcd
  have hb2w := hb2y; have hb3w := hb3y; have hkw2 := hkw4; have hE2 := hE4
  clear hb2y hb3y hkw4 hE4 h1 h2 h3
  go_wp2_with (simp only [field_part2])
  refine (cC _).mono ?_
  rintro e w5 ⟨rfl, hq⟩
  have hb2x := Lib.hid ((hb2w.out.far (p := ⟨w.heap.size + 1, 1, none⟩) (by dsimp only; omega) (.int .i64 x3)).cln hq)
  have hb3x := Lib.hid ((Blk.store1 hb3w.out 1 (.int .i64 x3) (cs' := #[.int .i64 4, .int .i64 x3, .int .i64 x1, .int .i64 x2, .float .f64 0, .int .i64 0, .string ⟨#[]⟩, .slice none 0 0]) rfl).cln hq)
  have hE3 := Lib.hid ((hE2.out.other (q := ⟨w.heap.size + 1, 1, none⟩) (by dsimp only; omega) (fun ad e => by have := hAo.out ad e; dsimp only; omega) (.int .i64 x3)).cln hq)
  have hkw3 := Lib.hid ((hkw2.out.setCell (p := ⟨w.heap.size + 1, 1, none⟩) (fun hl => by exfalso; dsimp only at hl; omega) (.int .i64 x3)).below_ hq)
  clear hq k0 k1 k2 k3 k4 k5 k6 k7 f6 l3 hb2w hb3w hkw2 hE2 cE cC
  go_wp2_with fail
  refine (fail_new p A n c bs a4 cd _ hE3.out).mono ?_
  rintro e w6 ⟨rfl, hE4, hk4⟩
  have hb2y := Lib.hid (hb2x.out.kept hk4 (by show ¬ w.heap.size = p; omega))
  have hb3y := Lib.hid (hb3x.out.kept hk4 (by show ¬ w.heap.size + 1 = p; omega))
  have hkw4 := Lib.hid (hkw3.out.then_ hk4 (fun i _ h => h))
  have cE := hE4.blk.cell 2
  replace hE4 := Lib.hid hE4
  clear hk4 hb2x hb3x hkw3 hE3
  have c2 := hb2y.out.cell; have f2 := hb2y.out.frozen; have l2 := hb2y.out.lt; have l3 := hb3y.out.lt
  have hn23 : ¬ w.heap.size = w.heap.size + 1 := by omega
  by_cases hz : cd = 0
  ·subst hz
   have hJ : Hid (rRec bs a = .ok (⟨4, x3, x1, x2, 0, 0, [], []⟩, a4)) := by unfold Hid; rw [hI.out]; unfold rDone; rw [if_pos hcd.out]
   have k0 := hb3y.out.cell 0; have k1 := hb3y.out.cell 1; have k2 := hb3y.out.cell 2; have k3 := hb3y.out.cell 3; have k4 := hb3y.out.cell 4; have k5 := hb3y.out.cell 5; have k6 := hb3y.out.cell 6; have k7 := hb3y.out.cell 7
   go_wp2_with fail
   refine bodyPost_ret (v := .agg #[.int .i64 4, .int .i64 x3, .int .i64 x1, .int .i64 x2, .float .f64 0, .int .i64 0, .string ⟨#[]⟩, .slice none 0 0]) ?_ rfl ?_
   ·refine results_cell_row Tryz.results137 _ _ w.heap.size 83 #[.int .i64 4, .int .i64 x3, .int .i64 x1, .int .i64 x2, .float .f64 0, .int .i64 0, .string ⟨#[]⟩, .slice none 0 0] (0, 0) _ ?_ ?_ Tryz.underlying83 ?_ ?_
    ·rfl
    ·show Blk _ w.heap.size 83 _
     with_reducible refine Blk.store8 (a0 := .int .i64 0) (a1 := .int .i64 0) (a2 := .int .i64 0) (a3 := .int .i64 0) (a4 := .float .f64 0) (a5 := .int .i64 0) (a6 := .string ⟨#[]⟩) (a7 := .slice none 0 0) ?_
     repeat (first | with_reducible refine Blk.far ?_ (by dsimp only; omega) _ | with_reducible exact hb2y.out)
    ·rfl
    ·exact size_rec
   ·rw [hJ.out]
    refine ⟨none, 0, 0, rfl, RdItems.none_ _, by omega, (fun ad e => by cases e), ?_, ?_⟩
    ·repeat (first | with_reducible refine IsE.other ?_ (by dsimp only; omega) (fun ad e => by have := hAo.out ad e; dsimp only; omega) _ | with_reducible exact hE4.out)
    ·repeat (first | with_reducible refine Kept.setCell ?_ (fun hl => by first | rfl | (exfalso; dsimp only at hl; omega)) _ | with_reducible exact hkw4.out)
  ·have hJ : Hid (rRec bs a = .error (cd, a4)) := by unfold Hid; rw [hI.out]; unfold rDone; rw [if_neg (by rw [hcd.out]; exact hz), hcd.out]
   have t2 : (((cd : Nat) : Int) != 0) = true := by rw [bne_iff_ne]; omega
   go_wp2_with fail
   refine bodyPost_ret (v := .agg #[.int .i64 0, .int .i64 0, .int .i64 0, .int .i64 0, .float .f64 0, .int .i64 0, .string ⟨#[]⟩, .slice none 0 0]) ?_ rfl ?_
   ·refine results_cell_row Tryz.results137 _ _ w.heap.size 83 #[.int .i64 0, .int .i64 0, .int .i64 0, .int .i64 0, .float .f64 0, .int .i64 0, .string ⟨#[]⟩, .slice none 0 0] (0, 0) _ ?_ ?_ Tryz.underlying83 ?_ ?_
    ·rfl
    ·show Blk _ w.heap.size 83 _
     with_reducible refine Blk.store8 (a0 := .int .i64 0) (a1 := .int .i64 0) (a2 := .int .i64 0) (a3 := .int .i64 0) (a4 := .float .f64 0) (a5 := .int .i64 0) (a6 := .string ⟨#[]⟩) (a7 := .slice none 0 0) ?_
     repeat (first | with_reducible refine Blk.far ?_ (by dsimp only; omega) _ | with_reducible exact hb2y.out)
    ·rfl
    ·exact size_rec
   ·rw [hJ.out]
    refine ⟨rfl, ?_, ?_⟩
    ·repeat (first | with_reducible refine IsE.other ?_ (by dsimp only; omega) (fun ad e => by have := hAo.out ad e; dsimp only; omega) _ | with_reducible exact hE4.out)
    ·repeat (first | with_reducible refine Kept.setCell ?_ (fun hl => by first | rfl | (exfalso; dsimp only at hl; omega)) _ | with_reducible exact hkw4.out)
end Go.Proofs.YtoeoodiifpoomaaGreatDoor
