/- An argument that is a row of rows of deals, opened. -/
import Derived.Test.YtbemnfbndjolpaaGreatDoorOpens
import Derived.Test.YtbemnfbndjolpaaGreatDoorWBig20
set_option linter.unusedSimpArgs false
set_option linter.unusedVariables false
set_option maxRecDepth 20000
namespace Go.Proofs.YtbemnfbndjolpaaGreatDoor
open Go.ChangeShapes Go.WideShapes Go.ChangeAt Go.RowKit Go.Joins Go.Deep Moi
theorem dealss_trod {H : Type} {enc : TypeId × Value → H} {W : World} {fuel : Nat} {v : Value} {x : DataW H × List MemPlace}
  (hf : DataW.trod enc Tryz.prog W 0 (fun _ => true) true fuel 54 [v] = some x) : ∃ (A : Option Addr) (n c : Nat) (l : List (List (List MAct))), v = .slice A n c ∧ RdDs W A n l := by
 rcases open_slice Tryz.underlying54 hf with ⟨hcs, _⟩ | ⟨a, n, c, m, k, D, Pl, hcs, hb, hl, hm, hmm, _, hx⟩
 ·simp at hcs
  subst hcs
  exact ⟨none, 0, 0, [], rfl, ⟨rfl, fun i x h => by simp at h⟩⟩
 ·simp at hcs
  subst hcs
  refine ⟨some a, n, c, ?_⟩
  suffices h : ∃ l, RdDs W (some a) n l by
   obtain ⟨l, h⟩ := h
   exact ⟨l, rfl, h⟩
  have hml : n ≤ m := by rw [hmm]; simpa using hl
  by_cases hn0 : n = 0
  ·subst hn0
   exact ⟨[], ⟨rfl, fun i x h => by simp at h⟩⟩
  rw [cells_sdeals] at hx
  have key0 : ∀ i, i < n → ∃ (d : List (List MAct)) (Ai : Option Addr) (ni ci : Nat), RdDeals W Ai ni d ∧ W.cell? ((a.add (i * 1)).add 0) = some (.slice Ai ni ci) := by
   intro i hi
   obtain ⟨cs', hc, ht⟩ := hx i (by omega)
   obtain ⟨_, hlen, hcell⟩ := World.cells?_some hc
   match cs', hlen with
   | [c0], _ =>
    obtain ⟨Ai, ni, ci, d, rfl, h, _⟩ := deals_trod (v := c0) ht
    exact ⟨d, Ai, ni, ci, h, hcell 0 (by omega)⟩
  have hspot : a.spot = none := by
   obtain ⟨_, _, _, _, _, h0⟩ := key0 0 (by omega)
   have hsp := World.cell?_spot h0
   simpa [Addr.add] using hsp
  obtain ⟨b, o, sp⟩ := a
  obtain rfl : sp = none := hspot
  have key : ∀ i, i < n → ∃ (d : List (List MAct)) (Ai : Option Addr) (ni ci : Nat), W.cell? ⟨b, o + i, none⟩ = some (.slice Ai ni ci) ∧ RdDeals W Ai ni d := by
   intro i hi
   obtain ⟨d, Ai, ni, ci, h, hcell⟩ := key0 i hi
   simp only [add_at, Nat.mul_one, Nat.add_zero] at hcell
   exact ⟨d, Ai, ni, ci, hcell, h⟩
  have hF : ∃ F : Nat → List (List MAct), ∀ i, i < n → ∃ (Ai : Option Addr) (ni ci : Nat), W.cell? ⟨b, o + i, none⟩ = some (.slice Ai ni ci) ∧ RdDeals W Ai ni (F i) :=
   ⟨fun i => if h : i < n then Classical.choose (key i h) else [], fun i h => by simp only [dif_pos h]; exact Classical.choose_spec (key i h)⟩
  obtain ⟨F, hF⟩ := hF
  refine ⟨(List.range n).map F, by simp, fun i x hx => ?_⟩
  have hi : i < n := by have := (List.getElem?_eq_some_iff.1 hx).1; simpa using this
  have hxe : x = F i := by simp [hi] at hx; exact hx.symm
  subst hxe
  obtain ⟨Ai, ni, ci, h0, h1⟩ := hF i hi
  exact ⟨b, o, Ai, ni, ci, rfl, h0, h1⟩
theorem dealss_open {H : Type} {enc : TypeId × Value → H} {W : World} {r : Reach} {b0 : Nat} {v : Value} {d : DataW H} {p : List MemPlace}
  (hv : Value.okWide Tryz.prog W r b0 54 v) (h : DataW.Trod enc Tryz.prog W 0 (fun _ => true) true 54 v d p) :
  ∃ (A : Option Addr) (n c : Nat) (l : List (List (List MAct))), v = .slice A n c ∧ RdDs W A n l := by
 obtain ⟨A, n, c, rfl⟩ := okWide_slice Tryz.underlying54 hv
 obtain ⟨fuel, hf⟩ := h
 obtain ⟨A', n', c', l, e, hl⟩ := dealss_trod hf
 obtain ⟨rfl, rfl, rfl⟩ : A = A' ∧ n = n' ∧ c = c' := by simpa using e
 exact ⟨A, n, c, l, rfl, hl⟩
end Go.Proofs.YtbemnfbndjolpaaGreatDoor
