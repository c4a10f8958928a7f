/- The walk of the document's Ahead. -/
import Derived.Test.YtoeoodiifpoomaaGreatDoorRecs
set_option linter.unusedSimpArgs false
set_option linter.unusedVariables false
set_option maxRecDepth 20000
namespace Go.Proofs.YtoeoodiifpoomaaGreatDoor
open Go.RowKit Moi
attribute [local go_sem] toList_str str_size less_ltB store_float

theorem ahead_any (a b : MItem) (ha : a.score < 18446744073709551616) (hb : b.score < 18446744073709551616) (w : World) :
    Calls Tryz.prog 176 #[itemVal a, itemVal b] w fun e w' => e = .returned (.bool (better a b)) ∧ Cln w w' := by
  have hsl := Lib.hid (same_less a.score b.score)
  unfold itemVal
  cases h : fless b.score a.score with
  | true =>
    have hbt : Hid (better a b = true) := by unfold Hid better; rw [hsl.out, h]; simp
    go_enter Tryz.func176, Tryz.ntmps176
    go_wp2_with fail
    refine (rless_any _ _ hb ha _).mono ?_; rintro e w' ⟨rfl, rfl⟩
    go_wp2_with fail
    go_ret
    exact ⟨ret_bool hbt.out.symm, by (repeat (first | (with_reducible exact Below.refl _ _) | (with_reducible assumption) | (with_reducible refine Below.setCell ?_ (by first | omega | (simp; done) | (simp; omega)) _) | (with_reducible refine Below.alloc ?_ (by first | omega | (simp; done) | (simp; omega)) _) | (with_reducible refine Below.drew ?_) | (with_reducible refine below_drewN ?_ _)))⟩
  | false =>
    have hbt : Hid (better a b = (fsame a.score b.score && ltB a.name b.name)) := by
      unfold Hid better; cases fsame a.score b.score <;> simp [h]
    cases h2 : fsame a.score b.score with
    | true =>
      have hbt2 : Hid (better a b = ltB a.name b.name) := by unfold Hid; rw [hbt.out, h2]; rfl
      go_enter Tryz.func176, Tryz.ntmps176
      go_wp2_with fail
      refine (rless_any _ _ hb ha _).mono ?_; rintro e w' ⟨rfl, rfl⟩
      go_wp2_with fail
      refine (rsame_any _ _ ha hb _).mono ?_; rintro e w' ⟨rfl, rfl⟩
      go_wp2_with fail
      go_ret
      exact ⟨ret_bool hbt2.out.symm, by (repeat (first | (with_reducible exact Below.refl _ _) | (with_reducible assumption) | (with_reducible refine Below.setCell ?_ (by first | omega | (simp; done) | (simp; omega)) _) | (with_reducible refine Below.alloc ?_ (by first | omega | (simp; done) | (simp; omega)) _) | (with_reducible refine Below.drew ?_) | (with_reducible refine below_drewN ?_ _)))⟩
    | false =>
      have hbt2 : Hid (better a b = false) := by unfold Hid; rw [hbt.out, h2]; rfl
      go_enter Tryz.func176, Tryz.ntmps176
      go_wp2_with fail
      refine (rless_any _ _ hb ha _).mono ?_; rintro e w' ⟨rfl, rfl⟩
      go_wp2_with fail
      refine (rsame_any _ _ ha hb _).mono ?_; rintro e w' ⟨rfl, rfl⟩
      go_wp2_with fail
      go_ret
      exact ⟨ret_bool hbt2.out.symm, by (repeat (first | (with_reducible exact Below.refl _ _) | (with_reducible assumption) | (with_reducible refine Below.setCell ?_ (by first | omega | (simp; done) | (simp; omega)) _) | (with_reducible refine Below.alloc ?_ (by first | omega | (simp; done) | (simp; omega)) _) | (with_reducible refine Below.drew ?_) | (with_reducible refine below_drewN ?_ _)))⟩
end Go.Proofs.YtoeoodiifpoomaaGreatDoor
