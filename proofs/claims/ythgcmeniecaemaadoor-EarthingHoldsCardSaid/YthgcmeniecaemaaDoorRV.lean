/- References: zones; what is reached from a zone. -/
import Derived.Test.YthgcmeniecaemaaDoorRVA
import Derived.Test.YthgcmeniecaemaaDoorR1
import Derived.Test.YthgcmeniecaemaaDoorZ4
import Derived.Test.YthgcmeniecaemaaDoorZ3
import Derived.Test.YthgcmeniecaemaaDoorT3
namespace Go.Proofs.YthgcmeniecaemaaDoor.Abs
set_option linter.unusedSimpArgs false
set_option linter.unusedVariables false
set_option maxRecDepth 100000
open Go Go.RowKit

theorem rZone (n : Net) (hs : n.sized) (zone : List Int) (hzl : zone.length ≤ 1000000) : Fn1 Tryd.prog GT0 30 [.agg (encNet n), .lst 1 (zone.map encN)] (.raw (.int .i64 (zoneChk n zone))) [] := by
  have c := refCheck n hs
  have cr := rSet zone n.nodes.length (by omega)
  have hdl := hs.nl
  by_cases h0 : n.chk = 0
  · rw [h0] at c
    by_cases hz : zone = []
    · have e : zoneChk n zone = 16 := by unfold zoneChk; rw [if_neg (by simp [h0]), if_pos hz]
      rw [e]
      subst hz
      refine holds_of Tryd.func30 rfl rfl ?_
      refine J_run 200 ?_
      delta Tryd.f30
      simp only [encNet] at c ⊢
      iterate 12 (all_goals (try (first
        | (simp (maxSteps := 1000000) (disch := omega) only [go_sem, List.length_nil])
        | ((with_reducible refine CallA.pure c ?_ ?_); (· simp (disch := omega) only [go_sem, List.length_nil]); rintro _ _ ⟨rfl, rfl⟩)
        | ((with_reducible first | refine gDt ?_ ?_ | refine gDf ?_ ?_ | refine gNt ?_ ?_ | refine gNf ?_ ?_ | refine cD ?_ ?_ | refine cN ?_ ?_ | refine cB ?_ ?_ | refine gB ?_ ?_) <;> intro h)
        | with_reducible first | refine And.intro ?_ ?_ | refine J_seq ?_ | refine J_block ?_ | refine J_inBlock ?_ | refine rC ?_ | refine rR ?_ | refine rE ?_ | refine rG ?_ | refine FinQ.now ?_ | refine FinQ.end ?_)))
    · have hzl' : 0 < zone.length := List.length_pos_iff.2 hz
      have e : zoneChk n zone = if rising zone n.nodes.length = false then 7 else 0 := by unfold zoneChk; rw [if_neg (by simp [h0]), if_neg hz]
      rw [e]
      obtain ⟨b, hb⟩ : ∃ b, rising zone n.nodes.length = b := ⟨_, rfl⟩
      rw [hb] at cr ⊢
      cases b
      all_goals
        simp only [Bool.true_eq_false, if_true, if_false]
        refine holds_of Tryd.func30 rfl rfl ?_
        refine J_run 200 ?_
        delta Tryd.f30
        simp only [encNet] at c ⊢
        iterate 14 (all_goals (try (first
          | (simp (maxSteps := 1000000) (disch := omega) only [go_sem])
          | ((with_reducible refine CallA.pure c ?_ ?_); (· simp (disch := omega) only [go_sem]); rintro _ _ ⟨rfl, rfl⟩)
          | ((with_reducible refine CallA.pure cr ?_ ?_); (· simp (disch := omega) only [go_sem]); rintro _ _ ⟨rfl, rfl⟩)
          | ((with_reducible first | refine gDt ?_ ?_ | refine gDf ?_ ?_ | refine gNt ?_ ?_ | refine gNf ?_ ?_ | refine cD ?_ ?_ | refine cN ?_ ?_ | refine cB ?_ ?_ | refine gB ?_ ?_) <;> intro h)
          | with_reducible first | refine And.intro ?_ ?_ | refine J_seq ?_ | refine J_block ?_ | refine J_inBlock ?_ | refine rC ?_ | refine rR ?_ | refine rE ?_ | refine rG ?_ | refine FinQ.now ?_ | refine FinQ.end ?_)))
  · have e : zoneChk n zone = n.chk := by unfold zoneChk; rw [if_pos h0]
    rw [e]
    refine holds_of Tryd.func30 rfl rfl ?_
    refine J_run 200 ?_
    delta Tryd.f30
    simp only [encNet] at c ⊢
    iterate 12 (all_goals (try (first
      | (simp (maxSteps := 1000000) (disch := omega) only [go_sem, h0, ne_eq, not_false_eq_true, decide_true])
      | ((with_reducible refine CallA.pure c ?_ ?_); (· simp (disch := omega) only [go_sem, h0, ne_eq, not_false_eq_true, decide_true]); rintro _ _ ⟨rfl, rfl⟩)
      | ((with_reducible first | refine gDt ?_ ?_ | refine gDf ?_ ?_ | refine gNt ?_ ?_ | refine gNf ?_ ?_ | refine cD ?_ ?_ | refine cN ?_ ?_ | refine cB ?_ ?_ | refine gB ?_ ?_) <;> intro h)
      | with_reducible first | refine And.intro ?_ ?_ | refine J_seq ?_ | refine J_block ?_ | refine J_inBlock ?_ | refine rC ?_ | refine rR ?_ | refine rE ?_ | refine rG ?_ | refine FinQ.now ?_ | refine FinQ.end ?_)))
end Go.Proofs.YthgcmeniecaemaaDoor.Abs
