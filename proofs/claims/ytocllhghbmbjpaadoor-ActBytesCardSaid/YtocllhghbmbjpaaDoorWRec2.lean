/- The walks of package rec: bare, items, Check. -/
import Derived.Test.YtocllhghbmbjpaaDoorWRec
set_option linter.unusedSimpArgs false
set_option linter.unusedVariables false
set_option maxRecDepth 20000
namespace Go.Proofs.YtocllhghbmbjpaaDoor
open Go.RowKit Moi
attribute [local go_sem] toList_str str_size less_ltB store_float

set_option maxHeartbeats 4000000 in
theorem bare_any (r : MRec) (s : Shape) (A : Option Addr) (n c : Nat) (hn : Hid (r.list.length = n)) (hr : r.real < 18446744073709551616) (w : World) :
    Calls Tryd.prog 67 #[recVal r A n c, shapeVal s] w fun e w' => e = .returned (.bool (bareB r s)) ∧ Cln w w' := by
  have hl : Hid ((r.list == []) = decide (n = 0)) := by
    unfold Hid; rw [← hn.out]; cases r.list <;> simp
  unfold recVal shapeVal
  go_enter Tryd.func67, Tryd.ntmps67
  go_wp2_with (go_at_call 49; refine (fsame_any _ _ hr (by omega) _).mono ?_; rintro e w' ⟨rfl, rfl⟩)
  all_goals
    go_ret
    refine ⟨ret_bool ?_, ((Below.refl _ w).alloc (Nat.le_refl _) _).alloc (by simp) _⟩
    have hl' := hl.out
    simp_all [bareB]
    try exact beq_cast n 0
end Go.Proofs.YtocllhghbmbjpaaDoor
