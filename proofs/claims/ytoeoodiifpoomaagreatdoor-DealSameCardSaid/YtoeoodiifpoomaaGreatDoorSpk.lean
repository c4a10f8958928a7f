import Derived.Test.YtoeoodiifpoomaaGreatDoorPlain
import Derived.Test.YtoeoodiifpoomaaGreatDoorWBytes
import Derived.Test.YtoeoodiifpoomaaGreatDoorWName
/- Layer 3, plainly: the law's few records. No program. -/
set_option linter.unusedSimpArgs false
namespace Moi
theorem wU_lt (n : Nat) (h : n < 128) : wU n = [UInt8.ofNat n] := by rw [wU, if_pos h]
end Moi

/- The walk of the law's speaks. -/
set_option linter.unusedVariables false
set_option maxRecDepth 20000
namespace Go.Proofs.YtoeoodiifpoomaaGreatDoor
open Go.RowKit Moi
attribute [local go_sem] toList_str str_size less_ltB store_float

theorem conv_all {W : World} {A : Option Addr} {n : Nat} {bs : List UInt8} (h : RdBytes W A n bs) (c : Nat) :
  (convert 33 9 (.slice A n c)).run Tryz.prog W = .ok (.string (str bs)) W := by
 have hb := h.len
 by_cases hn : n = 0
 ·subst hn
  obtain rfl := List.eq_nil_of_length_eq_zero hb
  rcases A with _ | ⟨b, o, sp⟩
  ·exact run_convert_bytes_nil W 33 5 Tryz.underlying33 Tryz.underlying5 _ _ 9 Tryz.underlying9
  ·have := h.spot _ rfl; dsimp at this; subst this
   exact conv_at W b o 0 _ [] rfl (fun i hi => by omega)
 ·obtain ⟨b, o, rfl, _, hc⟩ := h.cells (by omega)
  exact conv_at W b o n c bs hb hc
theorem newBytes_ok {w w' : World} {A : Option Addr} {n c : Nat} {bs : List UInt8} (h : w'.ownsRow w.heap.size 5 1 (.slice A n c) n (byteVals bs)) :
  RdBytes w' A n bs ∧ n ≤ c ∧ n = bs.length ∧ ∀ ad, A = some ad → ad.block < w'.heap.size ∧ w.heap.size ≤ ad.block := by
 obtain ⟨A2, c2, hv, hA, hn, hc⟩ := own_form h
 injection hv with h1 h2 h3
 subst h1; subst h3
 exact ⟨own_rd h, hn, (own_rd h).len.symm, fun ad e => ⟨(hA ad e).2.2.2, (hA ad e).2.2.1⟩⟩
end Go.Proofs.YtoeoodiifpoomaaGreatDoor
