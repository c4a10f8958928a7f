/- Layer 3, plainly: the law's few records. No program. -/
import Derived.Test.YtoeoodiifpoomaaGreatDoorPlain
import Derived.Test.YtoeoodiifpoomaaGreatDoorWBytes
set_option linter.unusedSimpArgs false
namespace Moi
def spA : MRec := ⟨8, 0, 0, 0, 0, 2, [], [⟨0, [97]⟩]⟩
def spC : MRec := ⟨3, 3, 0, 0, 0, 0, [], []⟩
theorem wU_lt (n : Nat) (h : n < 128) : wU n = [UInt8.ofNat n] := by rw [wU, if_pos h]
theorem spA_check : checkRec spA = 0 := by decide
theorem spC_check : checkRec spC = 0 := by decide
theorem spZ_check : checkRec zeroRec = 5 := by decide
theorem spA_w : wRec spA = [8, 2, 1, 1, 97] := by
  have h8 := wU_lt 8 (by decide); have h2 := wU_lt 2 (by decide); have h1 := wU_lt 1 (by decide)
  simp [wRec, spA, wItems, wS, h8, h2, h1]
theorem spC_w : wRec spC = [3, 6] := by
  have h3 := wU_lt 3 (by decide); have h6 := wU_lt 6 (by decide)
  simp [wRec, spC, wI, zig, h3, h6]
theorem spA_r : readOut [8, 2, 1, 1, 97] = (spA, (0, 0)) := by decide
theorem spA_s : sameRec spA spA = true := by decide
end Moi
