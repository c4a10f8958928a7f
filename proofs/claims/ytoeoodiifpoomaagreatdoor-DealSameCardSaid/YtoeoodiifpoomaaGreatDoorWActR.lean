/- The walks of the document's kinds of acts: On, Fields, Has. (Printed by wip/tools/gen_actr.py.) -/
import Derived.Test.YtoeoodiifpoomaaGreatDoorWActK
set_option linter.unusedSimpArgs false
set_option linter.unusedVariables false
set_option maxRecDepth 20000
namespace Go.Proofs.YtoeoodiifpoomaaGreatDoor
open Go.RowKit Moi
attribute [local go_sem] toList_str str_size less_ltB store_float

end Go.Proofs.YtoeoodiifpoomaaGreatDoor
