/- The reference: Check of plans: its pairs. -/
import Derived.Test.YtacinobmcgcccaaGreatDoorL37
import Derived.Test.YtacinobmcgcccaaGreatDoorL12
import Derived.BigQuiet
import Derived.Deep.CutRange
set_option linter.unusedSimpArgs false
set_option linter.unusedVariables false
namespace Go.Proofs.YtacinobmcgcccaaGreatDoor
open Go.RowKit Go.Shelf
end Go.Proofs.YtacinobmcgcccaaGreatDoor
