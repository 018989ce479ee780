/- Documents: their check in the reference; lists of them. -/
import Derived.Test.YtmfgaefefgnhbaaGreatDoorDA
import Derived.Test.YtmfgaefefgnhbaaGreatDoorAbsX
namespace Go.Proofs.YtmfgaefefgnhbaaGreatDoor.Abs
set_option linter.unusedSimpArgs false
set_option linter.unusedVariables false
set_option maxRecDepth 100000
open Go Go.RowKit

end Go.Proofs.YtmfgaefefgnhbaaGreatDoor.Abs
