import Derived.Test.YtbemnfbndjolpaaGreatDoorPlain
import Derived.Test.YtbemnfbndjolpaaGreatDoorWBytes
import Derived.Test.YtbemnfbndjolpaaGreatDoorWName
/- Layer 3, plainly: the law's few records. No program. -/
set_option linter.unusedSimpArgs false
namespace Moi
theorem wU_lt (n : Nat) (h : n < 128) : wU n = [UInt8.ofNat n] := by rw [wU, if_pos h]
end Moi

/- The walk of the law's speaks. -/
set_option linter.unusedVariables false
set_option maxRecDepth 20000
namespace Go.Proofs.YtbemnfbndjolpaaGreatDoor
open Go.RowKit Moi
attribute [local go_sem] toList_str str_size less_ltB store_float

end Go.Proofs.YtbemnfbndjolpaaGreatDoor
