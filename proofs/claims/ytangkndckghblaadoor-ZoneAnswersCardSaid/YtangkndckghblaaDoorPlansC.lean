/- Plans for regions that draw their order and hold a call that writes: printed by a program, checked where they are used. -/
import Derived.Test.YtangkndckghblaaDoorT2
namespace Go.Proofs.YtangkndckghblaaDoor.Abs
def plan6_5_4_5 : Plan := (.take 0 (.take 2 (.take 3 (.fork 1 (.fork 4 (.fork 5 (.take 6 .done) .none) .none) (.fork 4 (.take 1 (.fork 5 (.take 6 .done) .none)) .none))))) 
def plan6_6_2_5 : Plan := (.take 0 (.take 1 (.take 3 (.fork 2 (.take 4 (.fork 5 (.take 6 (.take 7 .done)) .none)) (.fork 4 (.fork 2 (.fork 5 (.take 6 (.take 7 .done)) .none) .none) .none))))) 
def plan5_5_4_5 : Plan := (.take 0 (.take 2 (.take 3 (.fork 1 (.fork 4 (.fork 5 (.take 6 .done) .none) .none) (.fork 4 (.take 1 (.fork 5 (.take 6 .done) .none)) .none))))) 
def plan7_5_4_5 : Plan := (.take 0 (.take 2 (.take 3 (.fork 1 (.fork 4 (.fork 5 (.take 6 .done) .none) .none) (.fork 4 (.take 1 (.fork 5 (.take 6 .done) .none)) .none))))) 
def plan7_16_2_7_9 : Plan := (.take 0 (.take 1 (.take 3 (.take 4 (.take 5 (.take 12 (.fork 2 (.take 6 (.fork 7 (.fork 8 (.fork 9 (.fork 10 (.take 11 .done) .none) .none) .none) (.fork 8 (.fork 7 (.fork 9 (.fork 10 (.take 11 .done) .none) .none) .none) .none))) (.fork 6 (.fork 2 (.fork 7 (.fork 8 (.fork 9 (.fork 10 (.take 11 .done) .none) .none) .none) (.fork 8 (.fork 7 (.fork 9 (.fork 10 (.take 11 .done) .none) .none) .none) .none)) (.fork 8 (.fork 2 (.fork 7 (.fork 9 (.fork 10 (.take 11 .done) .none) .none) .none) .none) .none)) (.fork 8 (.fork 2 (.take 6 (.fork 7 (.fork 9 (.fork 10 (.take 11 .done) .none) .none) .none)) (.fork 6 (.fork 2 (.fork 7 (.fork 9 (.fork 10 (.take 11 .done) .none) .none) .none) .none) .none)) .none))))))))) 
end Go.Proofs.YtangkndckghblaaDoor.Abs
