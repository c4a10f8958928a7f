/- The walks of the document's Eye: Upto and End. -/
import Derived.Test.YtocllhghbmbjpaaWEye3
set_option linter.unusedSimpArgs false
set_option linter.unusedVariables false
set_option maxRecDepth 20000
namespace Go.Proofs.Ytocllhghbmbjpaa
open Go.RowKit Moi
attribute [local go_sem] toList_str str_size less_ltB store_float
/-- What comes of Upto. -/
def UptoPost (w : World) (p : Nat) (A : Option Addr) (n c : Nat) (bs : List UInt8) (res : RRes Nat) (e : Ending) (w' : World) : Prop :=
  match res with
  | .ok (x, a) => e = .returned (.int .i64 (x : Nat)) ∧ IsE w' p A n c bs a 0 ∧ Kept (· = p) w w'
  | .error (cd, a) => e = .returned (.int .i64 0) ∧ IsE w' p A n c bs a cd ∧ Kept (· = p) w w'
set_option maxHeartbeats 8000000 in
theorem upto_new (p : Nat) (A : Option Addr) (n c : Nat) (bs : List UInt8) (a M : Nat) (hM : M ≤ 1000000) (w : World) (hE : IsE w p A n c bs a 0) :
    Calls Try.prog 69 #[.pointer (some ⟨p, 0, none⟩), .int .i64 (M : Nat)] w (UptoPost w p A n c bs (rUpto M bs a)) := by
  have hp0 := hE.blk.lt
  go_enter Try.func69, Try.ntmps69
  go_wp2_with fail
  refine (part_u p A n c bs a w hE 0).mono ?_
  intro e w1 hP
  cases hU : rU bs a with
  | error er =>
    obtain ⟨cd, a1⟩ := er
    rw [hU] at hP
    obtain ⟨rfl, hE1, hk⟩ := hP
    have hI : Hid (rUpto M bs a = .error (cd, a1)) := by unfold Hid rUpto; rw [hU]
    have hnz := rU_nz hU
    have t1 : (((cd : Nat) : Int) == 0) = false := by rw [beq_eq_false_iff_ne]; simp at hnz; omega
    have t2 : (((cd : Nat) : Int) != 0) = true := by rw [bne_iff_ne]; simp at hnz; omega
    have c2 := hE1.blk.cell 2
    have hlt := hE1.blk.lt
    have hne : ¬ p = w1.heap.size := by omega
    have hE1H := Lib.hid hE1
    have hkH := Lib.hid hk
    clear hE hE1 hk hU hnz
    go_wp2_with fail
    go_ret
    show UptoPost _ _ _ _ _ _ _ _ _
    rw [hI.out]
    exact ⟨rfl, hE1H.out.cln (by (repeat (first | (with_reducible exact Below.refl _ _) | (with_reducible assumption) | (with_reducible refine Below.setCell ?_ (by first | omega | (simp; done) | (simp; omega)) _) | (with_reducible refine Below.alloc ?_ (by first | omega | (simp; done) | (simp; omega)) _) | (with_reducible refine Below.drew ?_) | (with_reducible refine below_drewN ?_ _)))), by repeat (first | with_reducible refine Kept.alloc ?_ _ | with_reducible exact hkH.out)⟩
  | ok x =>
    obtain ⟨x, a1⟩ := x
    rw [hU] at hP
    have hxl := rU_lt hU
    obtain ⟨rfl, hE1, hk⟩ := hP
    rw [show partCells (.u x) = #[.int .u8 117, .int .u64 (x : Nat), .int .i64 0, .int .u64 0, .string ⟨#[]⟩, .bool false] from rfl]
    have wM : IntKind.u64.wrap ((M : Nat) : Int) = ((M : Nat) : Int) := IntWalk.u64_in _ (by omega)
    have c2 := hE1.blk.cell 2
    have f2 := hE1.blk.frozen 2
    have hlt := hE1.blk.lt
    have hne : ¬ p = w1.heap.size := by omega
    have hne' : ¬ w1.heap.size = p := by omega
    have hE1H := Lib.hid hE1
    have hkH := Lib.hid hk
    by_cases h1 : M < x
    · have hI : Hid (rUpto M bs a = .error (1, a1)) := by unfold Hid rUpto; simp only [hU]; rw [if_pos h1]
      have t1 : decide ((M : Int) < (x : Int)) = true := decide_eq_true (by omega)
      have t1' : decide (M < x) = true := decide_eq_true h1
      clear hE hE1 hk hU h1
      go_wp2_with fail
      go_ret
      show UptoPost _ _ _ _ _ _ _ _ _
      rw [hI.out]
      have hk2 : Kept (· = p) w1 (w1.setCell ⟨p, 2, none⟩ (.int .i64 1)) := (Kept.refl (fun i => i = p) w1).setCell (p := ⟨p, 2, none⟩) (fun _ => rfl) _
      refine ⟨rfl, ?_, ?_⟩
      · exact (hE1H.out.set2 a1 1 hE1H.out.le hk2 (Blk.store1 hE1H.out.blk 2 _ rfl)).cln (by (repeat (first | (with_reducible exact Below.refl _ _) | (with_reducible assumption) | (with_reducible refine Below.setCell ?_ (by first | omega | (simp; done) | (simp; omega)) _) | (with_reducible refine Below.alloc ?_ (by first | omega | (simp; done) | (simp; omega)) _) | (with_reducible refine Below.drew ?_) | (with_reducible refine below_drewN ?_ _))))
      · refine Kept.alloc ?_ _
        exact hkH.out.setCell (fun _ => rfl) _
    · have hI : Hid (rUpto M bs a = .ok (x, a1)) := by unfold Hid rUpto; simp only [hU]; rw [if_neg h1]
      have t1 : decide ((M : Int) < (x : Int)) = false := decide_eq_false (by omega)
      have t1' : decide (M < x) = false := decide_eq_false h1
      have wx : IntKind.i64.wrap ((x : Nat) : Int) = ((x : Nat) : Int) := IntWalk.i64_in _ (by omega)
      clear hE hE1 hk hU h1
      go_wp2_with fail
      go_ret
      show UptoPost _ _ _ _ _ _ _ _ _
      rw [hI.out]
      exact ⟨rfl, hE1H.out.cln (by (repeat (first | (with_reducible exact Below.refl _ _) | (with_reducible assumption) | (with_reducible refine Below.setCell ?_ (by first | omega | (simp; done) | (simp; omega)) _) | (with_reducible refine Below.alloc ?_ (by first | omega | (simp; done) | (simp; omega)) _) | (with_reducible refine Below.drew ?_) | (with_reducible refine below_drewN ?_ _)))), by repeat (first | with_reducible refine Kept.alloc ?_ _ | with_reducible exact hkH.out)⟩
theorem upto_old (p : Nat) (A : Option Addr) (n c : Nat) (bs : List UInt8) (a er : Nat) (hz : er ≠ 0) (M : Int) (w : World) (hE : IsE w p A n c bs a er) :
    Calls Try.prog 69 #[.pointer (some ⟨p, 0, none⟩), .int .i64 M] w fun e w' => e = .returned (.int .i64 0) ∧ Cln w w' := by
  have t1 : (((er : Nat) : Int) == 0) = false := by rw [beq_eq_false_iff_ne]; omega
  have t2 : (((er : Nat) : Int) != 0) = true := by rw [bne_iff_ne]; omega
  go_enter Try.func69, Try.ntmps69
  go_wp2_with fail
  refine (eye_failed p A n c bs a er hz 117 0 w hE).mono ?_
  rintro e w1 ⟨rfl, hq⟩
  have hE1 := hE.cln hq
  have c2 := hE1.blk.cell 2
  have hlt := hE1.blk.lt
  have hne : ¬ p = w1.heap.size := by omega
  have hqH := hq
  clear hE hE1
  go_wp2_with fail
  go_ret
  exact ⟨rfl, cln_trans hqH (by (repeat (first | (with_reducible exact Below.refl _ _) | (with_reducible assumption) | (with_reducible refine Below.setCell ?_ (by first | omega | (simp; done) | (simp; omega)) _) | (with_reducible refine Below.alloc ?_ (by first | omega | (simp; done) | (simp; omega)) _) | (with_reducible refine Below.drew ?_) | (with_reducible refine below_drewN ?_ _))))⟩
theorem end_full (p : Nat) (A : Option Addr) (n c : Nat) (bs : List UInt8) (er : Nat) (w : World) (hE : IsE w p A n c bs n er) :
    Calls Try.prog 43 #[.pointer (some ⟨p, 0, none⟩)] w fun e w' => e = .returned (.tuple #[]) ∧ Cln w w' := by
  have c0 := hE.blk.cell 0; have c1 := hE.blk.cell 1
  have t1 : decide ((n : Int) < (n : Int)) = false := decide_eq_false (by omega)
  clear hE
  go_enter Try.func43, Try.ntmps43
  go_wp2_with fail
  go_quiet (fail)
  go_wp2_with fail
  go_end0
  exact ⟨rfl, by (repeat (first | (with_reducible exact Below.refl _ _) | (with_reducible assumption) | (with_reducible refine Below.setCell ?_ (by first | omega | (simp; done) | (simp; omega)) _) | (with_reducible refine Below.alloc ?_ (by first | omega | (simp; done) | (simp; omega)) _) | (with_reducible refine Below.drew ?_) | (with_reducible refine below_drewN ?_ _)))⟩
theorem end_left (p : Nat) (A : Option Addr) (n c : Nat) (bs : List UInt8) (a : Nat) (ha : a < n) (w : World) (hE : IsE w p A n c bs a 0) :
    Calls Try.prog 43 #[.pointer (some ⟨p, 0, none⟩)] w fun e w' => e = .returned (.tuple #[]) ∧ IsE w' p A n c bs a 3 ∧ Kept (· = p) w w' := by
  have c0 := hE.blk.cell 0; have c1 := hE.blk.cell 1
  have t1 : decide ((a : Int) < (n : Int)) = true := decide_eq_true (by omega)
  have t1' : decide (a < n) = true := decide_eq_true ha
  have hEH := Lib.hid hE
  clear hE
  go_enter Try.func43, Try.ntmps43
  go_wp2_with fail
  go_quiet (fail)
  go_wp2_with fail
  refine (fail_new p A n c bs a 3 _ (hEH.out.cln (by (repeat (first | (with_reducible exact Below.refl _ _) | (with_reducible assumption) | (with_reducible refine Below.setCell ?_ (by first | omega | (simp; done) | (simp; omega)) _) | (with_reducible refine Below.alloc ?_ (by first | omega | (simp; done) | (simp; omega)) _) | (with_reducible refine Below.drew ?_) | (with_reducible refine below_drewN ?_ _)))))).mono ?_
  rintro e w1 ⟨rfl, hE1, hk⟩
  have hE1 := Lib.hid hE1
  have hk := Lib.hid (show Kept (· = p) w w1 from ⟨hk.os, hk.tape, hk.output, hk.size, hk.block⟩)
  go_wp2_with fail
  go_end0
  exact ⟨rfl, hE1.out, hk.out⟩
end Go.Proofs.Ytocllhghbmbjpaa
