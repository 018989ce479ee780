/- zone.Nearest: what it computes. -/
import Derived.Test.YtangkndckghblaaDoorZV
import Derived.Test.YtangkndckghblaaDoorZT
namespace Go.Proofs.YtangkndckghblaaDoor.Abs
set_option linter.unusedSimpArgs false
set_option linter.unusedVariables false
set_option maxRecDepth 100000
open Go Go.RowKit

theorem nearest1 (n : Net) (hn : n.ok) (zone gaps : List Int) (g : Nat) (hg : g < n.devs.length) : Fn1 Tryd.prog GT0 47 [.raw (.int .i64 g), .cptr [.lst 1 ((regB n zone gaps).map encB)], .cptr (encNet n)] (.raw (.bool (!atB n zone gaps g))) [] := by
  have ca := at_n n hn zone gaps g hg
  have hdv := getD_DvL hg
  simp only [encDv] at ca
  refine holds_of Tryd.func47 rfl rfl ?_
  refine J_run 200 ?_
  delta Tryd.f47
  simp only [encNet]
  iterate 16 (all_goals (try (first
    | ((with_reducible refine J_draw (id := 1) 200 [] plan47_1 (by kernel_rfl) (by kernel_rfl) ?_); delta plan47_1)
    | (simp (maxSteps := 1000000) (disch := omega) only [go_sem, hdv])
    | ((with_reducible refine CallA.pure ca ?_ ?_); (· simp (disch := omega) only [go_sem, hdv]); rintro _ _ ⟨rfl, rfl⟩)
    | ((with_reducible first | refine gDt ?_ ?_ | refine gDf ?_ ?_ | refine gNt ?_ ?_ | refine gNf ?_ ?_ | refine cD ?_ ?_ | refine cN ?_ ?_ | refine cB ?_ ?_ | refine gB ?_ ?_) <;> intro h)
    | with_reducible first | refine And.intro ?_ ?_ | refine J_seq ?_ | refine J_block ?_ | refine J_inBlock ?_ | refine rC ?_ | refine rR ?_ | refine rE ?_ | refine rG ?_ | refine FinQ.now ?_ | refine FinQ.end ?_)))
def isCut (n : Net) (i : Nat) : Bool := decide ((n.devs.getD i ⟨⟨#[]⟩, 0, 0, 0, 0⟩).kind = 3 ∨ (n.devs.getD i ⟨⟨#[]⟩, 0, 0, 0, 0⟩).kind = 6)
def cutsTo (n : Net) (i : Nat) : List Int := ((List.range i).filter (isCut n)).map Int.ofNat
theorem cutsTo_next {n : Net} {i : Nat} : cutsTo n (i + 1) = cutsTo n i ++ (if isCut n i then [(i : Int)] else []) := by
  unfold cutsTo
  rw [List.range_succ, List.filter_append, List.map_append]
  congr 1
  simp only [List.filter_cons, List.filter_nil]
  cases isCut n i <;> rfl
theorem cutsTo_len {n : Net} {i : Nat} : (cutsTo n i).length ≤ i := by
  unfold cutsTo
  rw [List.length_map]
  exact Nat.le_trans (List.length_filter_le _ _) (by simp)
theorem cuts_eq {n : Net} : cuts n = cutsTo n n.devs.length := rfl
end Go.Proofs.YtangkndckghblaaDoor.Abs
