/- The walk of the document's Read: the record that bytes are, or why there is none. -/
import Derived.Test.YtocllhghbmbjpaaDoorNexts
import Derived.Test.YtocllhghbmbjpaaDoorWRead
import Derived.StillTailTactics
import Derived.BigRegion
set_option linter.unusedSimpArgs false
set_option linter.unusedVariables false
set_option maxRecDepth 20000
namespace Go.Proofs.YtocllhghbmbjpaaDoor
open Go.RowKit Moi
attribute [local go_sem] toList_str str_size less_ltB store_float
theorem next_any (p : Nat) (A : Option Addr) (n c : Nat) (bs : List UInt8) (a : Nat) (w : World) (hE : IsE w p A n c bs a 0) (hA : ∀ ad, A = some ad → ad.block < w.heap.size) :
    Calls Tryd.prog 82 #[.pointer (some ⟨p, 0, none⟩)] w (NextPost w p A n c bs (rRec bs a)) := by
  cases h : rUpto 9 bs a with
  | error er => obtain ⟨cd, a1⟩ := er; exact next_err p A n c bs a w hE hA cd a1 h
  | ok x =>
    obtain ⟨k, a1⟩ := x
    have hk := rUpto_le h
    have hcases : k = 0 ∨ k = 1 ∨ k = 2 ∨ k = 3 ∨ k = 4 ∨ k = 5 ∨ k = 6 ∨ k = 7 ∨ k = 8 ∨ k = 9 := by omega
    rcases hcases with h0 | h0 | h0 | h0 | h0 | h0 | h0 | h0 | h0 | h0
    all_goals subst h0
    · exact next_zero p A n c bs a w hE hA a1 h
    · exact next_text p A n c bs a w hE hA a1 h
    · exact next_num2 p A n c bs a w hE hA a1 h
    · exact next_num3 p A n c bs a w hE hA a1 h
    · exact next_purse p A n c bs a w hE hA a1 h
    · exact next_real5 p A n c bs a w hE hA a1 h
    · exact next_real6 p A n c bs a w hE hA a1 h
    · exact next_real7 p A n c bs a w hE hA a1 h
    · exact next_set p A n c bs a w hE hA a1 h
    · exact next_top p A n c bs a w hE hA a1 h
theorem end_old (p : Nat) (A : Option Addr) (n c : Nat) (bs : List UInt8) (a er : Nat) (hz : er ≠ 0) (w : World) (hE : IsE w p A n c bs a er) :
    Calls Tryd.prog 48 #[.pointer (some ⟨p, 0, none⟩)] w fun e w' => e = .returned (.tuple #[]) ∧ Cln w w' := by
  by_cases ha : a < n
  case neg =>
    obtain rfl : a = n := by have := hE.le; omega
    exact end_full p A a c bs er w hE
  have c0 := hE.blk.cell 0; have c1 := hE.blk.cell 1
  have t1 : decide ((a : Int) < (n : Int)) = true := decide_eq_true (by omega)
  have t1' : decide (a < n) = true := decide_eq_true ha
  have hEH := Lib.hid hE
  clear hE
  go_enter Tryd.func48, Tryd.ntmps48
  go_wp2_with fail
  go_quiet (fail)
  go_wp2_with fail
  refine (fail_old p A n c bs a er hz 3 _ (hEH.out.cln (by (repeat (first | (with_reducible exact Below.refl _ _) | (with_reducible assumption) | (with_reducible refine Below.setCell ?_ (by first | omega | (simp; done) | (simp; omega)) _) | (with_reducible refine Below.alloc ?_ (by first | omega | (simp; done) | (simp; omega)) _) | (with_reducible refine Below.drew ?_) | (with_reducible refine below_drewN ?_ _)))))).mono ?_
  rintro e w1 ⟨rfl, rfl⟩
  go_wp2_with fail
  go_end0
  exact ⟨rfl, by (repeat (first | (with_reducible exact Below.refl _ _) | (with_reducible assumption) | (with_reducible refine Below.setCell ?_ (by first | omega | (simp; done) | (simp; omega)) _) | (with_reducible refine Below.alloc ?_ (by first | omega | (simp; done) | (simp; omega)) _) | (with_reducible refine Below.drew ?_) | (with_reducible refine below_drewN ?_ _)))⟩
/-- What the document's Read hands back. -/
def RReadPost (w : World) (o : MRec × RErr) (e : Ending) (w' : World) : Prop :=
  ∃ AL nL cL, e = .returned (.tuple #[recVal o.1 AL nL cL, .int .i64 (o.2.1 : Nat), .int .i64 (o.2.2 : Nat)]) ∧ RdItems w' AL nL o.1.list ∧ nL ≤ 32 ∧ Cln w w'
end Go.Proofs.YtocllhghbmbjpaaDoor
