/- Plainly: how great a record and an act are. -/
import Derived.Test.YtoeoodiifpoomaaGreatDoorPlain
set_option linter.unusedSimpArgs false
set_option linter.unusedVariables false
namespace Moi
def bigRec (r : MRec) : Bool := decide (100 < r.list.length ∨ 1000 < r.text.length) || r.list.any fun x => decide (100 < x.name.length)
def bigAct (a : MAct) : Bool := decide (200 < a.key.length ∨ 1000 < a.s.length) || bigRec a.make
end Moi
