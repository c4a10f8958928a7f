/- An argument that is a row of bytes, opened. -/
import Derived.Test.YtocllhghbmbjpaaDoorOpenRec
set_option linter.unusedSimpArgs false
set_option linter.unusedVariables false
set_option maxRecDepth 20000
namespace Go.Proofs.YtocllhghbmbjpaaDoor
open Go.ChangeShapes Go.WideShapes Go.ChangeAt Go.RowKit Go.Joins Go.Deep Moi
theorem bytes_open {H : Type} {enc : TypeId × Value → H} {W : World} {r : Reach} {b0 : Nat} {v : Value} {d : DataW H} {p : List MemPlace}
    (hv : Value.okWide Tryd.prog W r b0 38 v) (h : DataW.Trod enc Tryd.prog W 0 (fun _ => true) true 38 v d p) :
    ∃ (A : Option Addr) (n c : Nat) (bs : List UInt8), v = .slice A n c ∧ RdBytes W A n bs ∧ n ≤ c ∧ ∀ ad, A = some ad → ad.block < W.heap.size := by
  obtain ⟨A, n, c, rfl⟩ := okWide_slice Tryd.underlying38 hv
  obtain ⟨fuel, hf⟩ := h
  rcases open_ints Tryd.underlying38 Tryd.underlying5 (by kernel_rfl) hf with ⟨hcs, _⟩ | ⟨a, len, cap, zs, hcs, _, hl, hm, hz, _, hcell, hwz⟩
  · simp [Value.cells] at hcs
    obtain ⟨rfl, rfl, rfl⟩ := hcs
    exact ⟨none, 0, 0, [], rfl, ⟨rfl, (fun _ e => by cases e), (fun h0 => absurd h0 (by omega))⟩, Nat.le_refl _, (fun _ e => by cases e)⟩
  · simp [Value.cells] at hcs
    obtain ⟨rfl, rfl, rfl⟩ := hcs
    simp only [if_true] at hz
    have hhas : a.spot = none ∧ a.block < W.heap.size := by
      simp only [Value.okWide, Tryd.underlying38, Cell.okWide, Cell.ok] at hv
      obtain ⟨_, _, _, hs, row, cells, hsh, _⟩ := hv
      refine ⟨hs, ?_⟩
      unfold World.shape? at hsh
      split at hsh
      · rename_i c' el fr hb'
        exact lt_of_block hb'
      · cases hsh
    obtain ⟨hspot, hlt⟩ := hhas
    obtain ⟨b, o, sp⟩ := a
    obtain rfl : sp = none := hspot
    have hlen : ((zs.take n).map fun z => UInt8.ofNat z.toNat).length = n := by simp; omega
    refine ⟨_, n, c, (zs.take n).map fun z => UInt8.ofNat z.toNat, rfl, ⟨hlen, (fun ad e => by injection e with e; subst e; rfl), fun h0 => ⟨b, o, rfl, hlt, fun i hi => ?_⟩⟩, hl, fun ad e => by injection e with e; subst e; exact hlt⟩
    have hc := hcell i (by omega)
    have hb := range_u8 hwz i
    have hiz : i < zs.length := by omega
    have hin : i < ((zs.take n).map fun z => UInt8.ofNat z.toNat).length := by omega
    rw [Addr.add_lit] at hc
    rw [hc]
    simp only [byteAt, List.getD_eq_getElem?_getD, List.getElem?_eq_getElem hiz, List.getElem?_eq_getElem hin, Option.getD_some, List.getElem_map, List.getElem_take, UInt8.toNat_ofNat'] at hb ⊢
    congr 2
    omega
end Go.Proofs.YtocllhghbmbjpaaDoor
