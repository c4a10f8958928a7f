/- An argument that is a row of strings, opened. -/
import Derived.Test.YtoeoodiifpoomaaGreatDoorOpens
import Derived.Test.YtoeoodiifpoomaaGreatDoorDeals
import Derived.Deep.Strs
set_option linter.unusedSimpArgs false
set_option linter.unusedVariables false
set_option maxRecDepth 20000
namespace Go.Proofs.YtoeoodiifpoomaaGreatDoor
open Go.ChangeShapes Go.WideShapes Go.ChangeAt Go.RowKit Go.Joins Go.Deep Moi
theorem strs_open {H : Type} {enc : TypeId × Value → H} {W : World} {r : Reach} {b0 : Nat} {v : Value} {d : DataW H} {p : List MemPlace}
  (hv : Value.okWide Tryz.prog W r b0 54 v) (h : DataW.Trod enc Tryz.prog W 0 (fun _ => true) true 54 v d p) :
  ∃ (A : Option Addr) (n c : Nat) (l : List (List UInt8)), v = .slice A n c ∧ RdStrs W A n l := by
 obtain ⟨A, n, c, rfl⟩ := okWide_slice Tryz.underlying54 hv
 obtain ⟨fuel, hf⟩ := h
 rcases open_strs Tryz.underlying54 Tryz.underlying9 (by kernel_rfl) hf with ⟨hcs, _⟩ | ⟨a, len, cap, m, Sx, hcs, _, hl, _, hm, _, hx⟩
 ·simp [Value.cells] at hcs
  obtain ⟨rfl, rfl, rfl⟩ := hcs
  exact ⟨none, 0, 0, [], rfl, rfl, fun h0 => absurd h0 (by omega)⟩
 ·simp [Value.cells] at hcs
  obtain ⟨rfl, rfl, rfl⟩ := hcs
  simp only [if_true] at hm
  by_cases h0 : n = 0
  ·subst h0
   exact ⟨some a, 0, c, [], rfl, rfl, fun h0 => absurd h0 (by omega)⟩
  have hsp : a.spot = none := by
   have := World.cell?_spot (hx 0 (by omega)).1
   simpa [Addr.add] using this
  obtain ⟨b, o, sp⟩ := a
  obtain rfl : sp = none := hsp
  refine ⟨some ⟨b, o, none⟩, n, c, (List.range n).map fun i => (Sx i).data.toList, rfl, by simp, fun _ => ⟨b, o, rfl, ?_, fun i hi => ?_⟩⟩
  ·have := (hx 0 (by omega)).1
   rw [add_at] at this
   exact World.block_lt_of_cell? _ _ this
  ·have := (hx i (by omega)).1
   rw [add_at] at this
   rw [this]
   simp [str, List.getD, hi]
end Go.Proofs.YtoeoodiifpoomaaGreatDoor
