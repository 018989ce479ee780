/- References: zones; what is reached from a zone. -/
import Derived.Test.YtmfgaefefgnhbaaGreatDoorRVA
import Derived.Test.YtmfgaefefgnhbaaGreatDoorR1
import Derived.Test.YtmfgaefefgnhbaaGreatDoorZ4
import Derived.Test.YtmfgaefefgnhbaaGreatDoorZ3
import Derived.Test.YtmfgaefefgnhbaaGreatDoorT3
namespace Go.Proofs.YtmfgaefefgnhbaaGreatDoor.Abs
set_option linter.unusedSimpArgs false
set_option linter.unusedVariables false
set_option maxRecDepth 100000
open Go Go.RowKit

end Go.Proofs.YtmfgaefefgnhbaaGreatDoor.Abs
