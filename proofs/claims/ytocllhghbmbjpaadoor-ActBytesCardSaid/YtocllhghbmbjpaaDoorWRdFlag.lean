/- The walk of pack's Reader.Flag. -/
import Derived.Test.YtocllhghbmbjpaaDoorWRd2
set_option linter.unusedSimpArgs false
set_option linter.unusedVariables false
set_option maxRecDepth 20000
namespace Go.Proofs.YtocllhghbmbjpaaDoor
open Go.RowKit Moi

theorem flag_any (p : Nat) (A : Option Addr) (n c : Nat) (bs : List UInt8) (a : Nat) (w : World) (hr : IsR w p A n c bs a) :
    Calls Tryd.prog 59 #[.pointer (some ⟨p, 0, none⟩)] w (RPost (fun x v _ => v = .bool x) w p A n c bs (rFlag bs a)) := by
  go_enter Tryd.func59, Tryd.ntmps59
  go_wp2_with fail
  refine (one_any p A n c bs a _ hr).mono ?_
  intro e w' h
  rcases h.cases with ⟨x, a2, v, hres, rfl, rfl, hr2, hk2⟩ | ⟨f, hres, rfl, hk2⟩
  · have hres' := Lib.hid hres; clear hres h
    by_cases hlt : 1 < x
    · have t1 : decide (1 < (x : Int)) = true := decide_eq_true (by omega)
      go_wp2_with fail
      refine (fail_any p A n c bs a2 4 _ hr2).mono ?_; rintro e w' ⟨rfl, rfl⟩
      go_wp2_with fail
      refine ⟨rfl, ?_⟩
      unfold rFlag; rw [hres'.out]; simp only []; rw [if_pos hlt]
      exact ⟨rfl, hk2⟩
    · have t1 : decide (1 < (x : Int)) = false := decide_eq_false (by omega)
      go_wp2_with fail
      go_ret
      unfold rFlag; rw [hres'.out]; simp only []; rw [if_neg hlt]
      exact ⟨_, rfl, congrArg Value.bool (beq_cast x 1), hr2, hk2⟩
  · have hres' := Lib.hid hres; clear hres h
    go_wp2_with fail
    refine ⟨rfl, ?_⟩
    unfold rFlag; rw [hres'.out]
    exact ⟨rfl, hk2⟩
end Go.Proofs.YtocllhghbmbjpaaDoor
