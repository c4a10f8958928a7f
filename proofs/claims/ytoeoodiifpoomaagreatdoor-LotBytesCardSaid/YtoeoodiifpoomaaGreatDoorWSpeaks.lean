/- The walk of the law's speaks. -/
import Derived.Test.YtoeoodiifpoomaaGreatDoorSpeak
import Derived.Test.YtoeoodiifpoomaaGreatDoorWName
set_option linter.unusedSimpArgs false
set_option linter.unusedVariables false
set_option maxRecDepth 20000
namespace Go.Proofs.YtoeoodiifpoomaaGreatDoor
open Go.RowKit Moi
attribute [local go_sem] toList_str str_size less_ltB store_float

theorem conv_all {W : World} {A : Option Addr} {n : Nat} {bs : List UInt8} (h : RdBytes W A n bs) (c : Nat) :
    (convert 33 9 (.slice A n c)).run Tryz.prog W = .ok (.string (str bs)) W := by
  have hb := h.len
  by_cases hn : n = 0
  · subst hn
    obtain rfl := List.eq_nil_of_length_eq_zero hb
    rcases A with _ | ⟨b, o, sp⟩
    · exact run_convert_bytes_nil W 33 5 Tryz.underlying33 Tryz.underlying5 _ _ 9 Tryz.underlying9
    · have := h.spot _ rfl; dsimp at this; subst this
      exact conv_at W b o 0 _ [] rfl (fun i hi => by omega)
  · obtain ⟨b, o, rfl, _, hc⟩ := h.cells (by omega)
    exact conv_at W b o n c bs hb hc
theorem items_one {W : World} {g : Nat} {s : Nat} {nm : List UInt8} (h : Blk W g 87 #[.float .f64 s, .string (str nm)]) (hs : s < 18446744073709551616) : RdItems W (some ⟨g, 0, none⟩) 1 [⟨s, nm⟩] := by
  refine ⟨rfl, fun i => ?_, fun _ => ⟨g, 0, rfl, h.lt, fun i hi => ?_⟩⟩
  · rcases i with _ | i
    · exact hs
    · simp [itAt]
  · obtain rfl : i = 0 := by omega
    exact ⟨h.cell 0, h.cell 1⟩
theorem newBytes_ok {w w' : World} {A : Option Addr} {n c : Nat} {bs : List UInt8} (h : w'.ownsRow w.heap.size 5 1 (.slice A n c) n (byteVals bs)) :
    RdBytes w' A n bs ∧ n ≤ c ∧ n = bs.length ∧ ∀ ad, A = some ad → ad.block < w'.heap.size ∧ w.heap.size ≤ ad.block := by
  obtain ⟨A2, c2, hv, hA, hn, hc⟩ := own_form h
  injection hv with h1 h2 h3
  subst h1; subst h3
  exact ⟨own_rd h, hn, (own_rd h).len.symm, fun ad e => ⟨(hA ad e).2.2.2, (hA ad e).2.2.1⟩⟩
theorem spA_wf : spA.WF := by constructor <;> decide
theorem spC_wf : spC.WF := by constructor <;> decide
end Go.Proofs.YtoeoodiifpoomaaGreatDoor
