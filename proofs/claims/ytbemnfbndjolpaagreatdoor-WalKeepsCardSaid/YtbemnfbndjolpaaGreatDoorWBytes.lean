/- The walk of rec.Bytes. -/
import Derived.Test.YtbemnfbndjolpaaGreatDoorRecs
import Derived.Test.YtbemnfbndjolpaaGreatDoorWPut
import Derived.Test.YtbemnfbndjolpaaGreatDoorPlain
set_option linter.unusedSimpArgs false
set_option linter.unusedVariables false
set_option maxRecDepth 20000
namespace Go.Proofs.YtbemnfbndjolpaaGreatDoor
open Go.RowKit Moi
attribute [local go_sem] toList_str str_size less_ltB store_float

def NewBytes (w : World) (bs : List UInt8) (e : Ending) (w' : World) : Prop :=
 ∃ A c n, Hid (n = bs.length) ∧ e = .returned (.slice A n c) ∧ w'.ownsRow w.heap.size 5 1 (.slice A n c) n (byteVals bs) ∧ Cln w w'
theorem newWriter (w : World) : IsW (w.alloc (.cells #[.slice none 0 0] 144)) w.heap.size w.heap.size [] :=
 ⟨Nat.le_refl _, none, 0, 0, rfl, Blk.new w _ _, World.ownsRow_nil _ _ _ _⟩
theorem WS_below {w w' : World} {base p : Nat} (h : Kept (WS w base p) w w') (hp : base ≤ p) (hb : base ≤ w.heap.size) : Below base w w' :=
 h.toBelow hb fun i hi => WS.not_lt hi hp

end Go.Proofs.YtbemnfbndjolpaaGreatDoor
