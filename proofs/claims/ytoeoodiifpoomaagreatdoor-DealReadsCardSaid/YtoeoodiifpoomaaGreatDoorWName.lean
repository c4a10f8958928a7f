/- The walks of rec.Name and the law's Big. -/
import Derived.Test.YtoeoodiifpoomaaGreatDoorWRead
import Derived.Test.YtoeoodiifpoomaaGreatDoorWBytes
set_option linter.unusedSimpArgs false
set_option linter.unusedVariables false
set_option maxRecDepth 20000
namespace Go.Proofs.YtoeoodiifpoomaaGreatDoor
open Go.RowKit Moi
attribute [local go_sem] toList_str str_size less_ltB store_float

end Go.Proofs.YtoeoodiifpoomaaGreatDoor
