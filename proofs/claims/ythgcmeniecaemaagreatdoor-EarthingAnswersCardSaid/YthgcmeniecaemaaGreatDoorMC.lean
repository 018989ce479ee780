/- What the statements ask of networks that come in. -/
import Derived.Test.YthgcmeniecaemaaGreatDoorR1
namespace Go.Proofs.YthgcmeniecaemaaGreatDoor.Abs
set_option linter.unusedSimpArgs false
set_option linter.unusedVariables false
set_option maxRecDepth 100000
open Go Go.RowKit

def lightB (n : Net) : Bool := decide ((n.nodes.length ≤ 40 ∧ n.devs.length ≤ 14) ∨ (n.chk ≠ 0 ∧ n.nodes.length ≤ 100 ∧ n.devs.length ≤ 200))
theorem lightF (n : Net) (hs : n.sized) : Fn1 Tryz.prog GT0 5 [.agg (encNet n)] (.raw (.bool (lightB n))) [] := by
  have cc := refCheck n hs
  have h1 := hs.nl; have h2 := hs.dl
  refine holds_of Tryz.func5 rfl rfl ?_
  refine J_run 200 ?_
  delta Tryz.f5
  simp only [encNet] at cc ⊢
  by_cases h0 : n.chk = 0
  · rw [h0] at cc
    iterate 30 (all_goals (try (first
      | (simp (maxSteps := 1000000) (disch := omega) only [go_sem, ne_eq, not_true_eq_false, decide_false])
      | ((with_reducible refine CallA.pure cc ?_ ?_); (· simp (disch := omega) only [go_sem, ne_eq, not_true_eq_false, decide_false]); rintro _ _ ⟨rfl, rfl⟩)
      | ((with_reducible first | refine gDt ?_ ?_ | refine gDf ?_ ?_ | refine gNt ?_ ?_ | refine gNf ?_ ?_ | refine cD ?_ ?_ | refine cN ?_ ?_ | refine cB ?_ ?_ | refine gB ?_ ?_) <;> intro h)
      | with_reducible first | refine And.intro ?_ ?_ | refine J_seq ?_ | refine J_block ?_ | refine J_inBlock ?_ | refine rC ?_ | refine rR ?_ | refine rE ?_ | refine rG ?_ | refine FinQ.now ?_ | refine FinQ.end ?_)))
    all_goals first
      | (symm; rw [lightB, decide_eq_true_eq]; omega)
      | (symm; rw [lightB, decide_eq_false_iff_not]; omega)
      | (rw [lightB, decide_eq_decide]; omega)
  · iterate 30 (all_goals (try (first
      | (simp (maxSteps := 1000000) (disch := omega) only [go_sem, h0, ne_eq, not_false_eq_true, decide_true])
      | ((with_reducible refine CallA.pure cc ?_ ?_); (· simp (disch := omega) only [go_sem, h0, ne_eq, not_false_eq_true, decide_true]); rintro _ _ ⟨rfl, rfl⟩)
      | ((with_reducible first | refine gDt ?_ ?_ | refine gDf ?_ ?_ | refine gNt ?_ ?_ | refine gNf ?_ ?_ | refine cD ?_ ?_ | refine cN ?_ ?_ | refine cB ?_ ?_ | refine gB ?_ ?_) <;> intro h)
      | with_reducible first | refine And.intro ?_ ?_ | refine J_seq ?_ | refine J_block ?_ | refine J_inBlock ?_ | refine rC ?_ | refine rR ?_ | refine rE ?_ | refine rG ?_ | refine FinQ.now ?_ | refine FinQ.end ?_)))
    all_goals first
      | (symm; rw [lightB, decide_eq_true_eq]; omega)
      | (symm; rw [lightB, decide_eq_false_iff_not]; omega)
      | (rw [lightB, decide_eq_decide]; omega)
end Go.Proofs.YthgcmeniecaemaaGreatDoor.Abs
