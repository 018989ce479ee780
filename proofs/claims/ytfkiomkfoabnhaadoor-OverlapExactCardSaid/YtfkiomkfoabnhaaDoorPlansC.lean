/- Plans for regions that draw their order and hold a call that writes: printed by a program, checked where they are used. -/
import Derived.Test.YtfkiomkfoabnhaaDoorT2
namespace Go.Proofs.YtfkiomkfoabnhaaDoor.Abs
def plan7_7_4 : Plan := (.take 2 (.take 3 (.take 7 (.fork 0 (.fork 1 (.fork 4 (.fork 5 (.take 6 .done) .none) .none) (.fork 4 (.take 1 (.fork 5 (.take 6 .done) .none)) .none)) (.fork 1 (.fork 0 (.fork 4 (.fork 5 (.take 6 .done) .none) .none) (.fork 4 (.take 0 (.fork 5 (.take 6 .done) .none)) .none)) (.fork 4 (.take 0 (.take 1 (.fork 5 (.take 6 .done) .none))) .none)))))) 
end Go.Proofs.YtfkiomkfoabnhaaDoor.Abs
