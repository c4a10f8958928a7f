/- An argument of type Deal, opened. -/
import Derived.Test.YtoeoodiifpoomaaGreatDoorOpens
set_option linter.unusedSimpArgs false
set_option linter.unusedVariables false
set_option maxRecDepth 20000
namespace Go.Proofs.YtoeoodiifpoomaaGreatDoor
open Go.ChangeShapes Go.WideShapes Go.ChangeAt Go.RowKit Go.Joins Go.Deep Moi
theorem deal_open {H : Type} {enc : TypeId × Value → H} {W : World} {r : Reach} {b0 : Nat} {v : Value} {d : DataW H} {p : List MemPlace}
  (hv : Value.okWide Tryz.prog W r b0 48 v) (h : DataW.Trod enc Tryz.prog W 0 (fun _ => true) true 48 v d p) :
  ∃ (l : List MAct) (A : Option Addr) (n c : Nat), v = .agg #[.slice A n c] ∧ RdActs W A n l ∧ n ≤ c ∧ (A = none → c = 0) := by
 obtain ⟨cs, rfl, hsz⟩ := okWide_struct Tryz.underlying48 hv
 obtain ⟨l⟩ := cs
 obtain ⟨fuel, hf⟩ := h
 have hsz : l.length = 1 := hsz.trans (show Tryz.prog.cellsOf 48 = 1 by kernel_rfl)
 obtain ⟨A, n, c, d, rfl, h⟩ := deal_cells hsz hf
 exact ⟨d, A, n, c, rfl, h⟩
end Go.Proofs.YtoeoodiifpoomaaGreatDoor
