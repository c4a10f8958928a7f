import Derived.Test.YtoeoodiifpoomaaGreatDoorRecs
import Derived.Deep.RegionWith
import Derived.StillTailTactics
import Derived.Deep.RegionHeld3
/- The walk of the document's Ahead. -/
set_option linter.unusedSimpArgs false
set_option linter.unusedVariables false
set_option maxRecDepth 20000
namespace Go.Proofs.YtoeoodiifpoomaaGreatDoor
open Go.RowKit Moi
attribute [local go_sem] toList_str str_size less_ltB store_float




end Go.Proofs.YtoeoodiifpoomaaGreatDoor
