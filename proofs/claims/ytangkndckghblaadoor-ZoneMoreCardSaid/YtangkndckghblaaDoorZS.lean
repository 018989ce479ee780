/- zone.Enough: what it computes. -/
import Derived.Test.YtangkndckghblaaDoorZR
namespace Go.Proofs.YtangkndckghblaaDoor.Abs
set_option linter.unusedSimpArgs false
set_option linter.unusedVariables false
set_option maxRecDepth 100000
open Go Go.RowKit

theorem fault_zone {n : Net} {zone gaps : List Int} (h : fault n zone gaps = 0) : zoneChk n zone = 0 := by
  unfold fault at h
  split at h
  · rename_i h1; exact absurd h h1
  · rename_i h1; simpa using h1
theorem EnoughF (n : Net) (hs : n.sized) (zone gaps : List Int) (hzl : zone.length ≤ 1000000) (hgl : gaps.length ≤ 1000000) :
    Fn1 Tryd.prog GT0 15 [.agg (encNet n), .lst 1 (zone.map encN), .lst 1 (gaps.map encN)] (.tup [.raw (.bool (enoughR n zone gaps).1), .raw (.int .i64 (enoughR n zone gaps).2)]) [] := by
  have c := faultF n hs zone gaps hzl hgl
  by_cases h0 : fault n zone gaps = 0
  · obtain ⟨hn, hz0, hz⟩ := zoneChk_zero (fault_zone h0)
    have ce := enoughF n hn zone gaps (fun x hx => rising_mem hz hx) hzl hgl
    have hr : enoughR n zone gaps = (enoughB n zone gaps, 0) := by unfold enoughR; rw [if_neg (by simp [h0])]
    rw [h0] at c
    rw [hr]
    refine holds_of Tryd.func15 rfl rfl ?_
    refine J_run 200 ?_
    delta Tryd.f15
    simp only [encNet] at c ce ⊢
    repeat' (first
      | (simp (maxSteps := 1000000) (disch := omega) only [go_sem])
      | ((with_reducible refine CallA.pure c ?_ ?_); (· simp only [go_sem]); rintro _ _ ⟨rfl, rfl⟩)
      | ((with_reducible refine CallA.pure ce ?_ ?_); (· simp only [go_sem]); rintro _ _ ⟨rfl, rfl⟩)
      | ((with_reducible first | refine gDt ?_ ?_ | refine gDf ?_ ?_ | refine gNt ?_ ?_ | refine gNf ?_ ?_ | refine cD ?_ ?_ | refine cN ?_ ?_ | refine cB ?_ ?_ | refine gB ?_ ?_) <;> intro h)
      | with_reducible first | refine And.intro ?_ ?_ | refine J_seq ?_ | refine J_block ?_ | refine J_inBlock ?_ | refine rC ?_ | refine rR ?_ | refine rE ?_ | refine rG ?_ | refine FinQ.now ?_ | refine FinQ.end ?_)
  · have hr : enoughR n zone gaps = (false, fault n zone gaps) := by unfold enoughR; rw [if_pos h0]
    rw [hr]
    refine holds_of Tryd.func15 rfl rfl ?_
    refine J_run 200 ?_
    delta Tryd.f15
    simp only [encNet] at c ⊢
    iterate 12 (all_goals (try (first
      | (exfalso; omega)
      | (simp (maxSteps := 1000000) (disch := omega) only [go_sem])
      | ((with_reducible refine CallA.pure c ?_ ?_); (· simp only [go_sem]); rintro _ _ ⟨rfl, rfl⟩)
      | ((with_reducible first | refine gDt ?_ ?_ | refine gDf ?_ ?_ | refine gNt ?_ ?_ | refine gNf ?_ ?_ | refine cD ?_ ?_ | refine cN ?_ ?_ | refine cB ?_ ?_ | refine gB ?_ ?_) <;> intro h)
      | with_reducible first | refine And.intro ?_ ?_ | refine J_seq ?_ | refine J_block ?_ | refine J_inBlock ?_ | refine rC ?_ | refine rR ?_ | refine rE ?_ | refine rG ?_ | refine FinQ.now ?_ | refine FinQ.end ?_)))
end Go.Proofs.YtangkndckghblaaDoor.Abs
