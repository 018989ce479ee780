/- slices.IndexFunc and slices.DeleteFunc over numbers: what they compute. -/
import Derived.Test.YtangkndckghblaaDoorZG
namespace Go.Proofs.YtangkndckghblaaDoor.Abs
set_option linter.unusedSimpArgs false
set_option linter.unusedVariables false
set_option maxRecDepth 100000
open Go Go.RowKit

set_option maxHeartbeats 1000000 in
theorem indexFunc (ys : List Int) (fn : FuncId) (cap : List AV) (hcap : AV.immL cap = true) (pr : Int → Bool) (hl : ys.length ≤ 9223372036854775807)
    (hp : ∀ y, y ∈ ys → Fn1 Tryd.prog GT0 fn (.raw (.int .i64 y) :: cap) (.raw (.bool (pr y))) []) :
    Fn1 Tryd.prog GT0 70 [.lst 1 (ys.map encN), .clo (.func fn) [] cap] (.raw (.int .i64 (firstAt pr ys))) [] := by
  have hcapk := fun s => AV.keepsL_imm s cap hcap
  refine holds_of Tryd.func70 rfl rfl ?_
  refine J_run 200 ?_
  delta Tryd.f70
  repeat' (first
    | (simp (maxSteps := 1000000) (disch := omega) only [go_sem])
    | ((with_reducible first | refine gDt ?_ ?_ | refine gDf ?_ ?_ | refine gNt ?_ ?_ | refine gNf ?_ ?_ | refine cD ?_ ?_ | refine cN ?_ ?_ | refine cB ?_ ?_ | refine gB ?_ ?_) <;> intro h)
    | with_reducible first | refine And.intro ?_ ?_ | refine J_seq ?_ | refine J_block ?_ | refine J_inBlock ?_ | refine rC ?_ | refine rR ?_ | refine rE ?_ | refine rG ?_ | refine FinQ.now ?_ | refine FinQ.end ?_)
  refine J_for (5 :: upto 9 18) (fun i : Nat => [(8, .raw (.int .i64 i))]) (fun _ => []) (fun i => i ≤ ys.length ∧ ∀ j (hj : j < i) (hx : j < ys.length), pr ys[j] = false) (fun i => ys.length - i) 0 ⟨by omega, by omega⟩ (.le (by simp [go_sem, hcapk]) (by simp)) ?_
  rintro i ⟨hi, hpre⟩
  by_cases hlt : i < ys.length
  · have hpx := hp _ (List.getElem_mem hlt)
    refine J_run 200 ?_
    simp (disch := omega) only [go_sem, getD_N]
    refine CallA.pure hpx (by simp [go_sem, hcap]) ?_
    rintro _ _ ⟨rfl, rfl⟩
    repeat' (first
      | (simp (maxSteps := 1000000) (disch := omega) only [go_sem])
      | ((with_reducible first | refine gDt ?_ ?_ | refine gDf ?_ ?_ | refine gNt ?_ ?_ | refine gNf ?_ ?_ | refine cD ?_ ?_ | refine cN ?_ ?_ | refine cB ?_ ?_ | refine gB ?_ ?_) <;> intro h)
      | with_reducible first | refine And.intro ?_ ?_ | refine J_seq ?_ | refine J_block ?_ | refine J_inBlock ?_ | refine rC ?_ | refine rR ?_ | refine rE ?_ | refine rG ?_ | refine FinQ.now ?_ | refine FinQ.end ?_)
    · rw [firstAt_some hlt h fun j hj => hpre j hj (by omega)]
    · refine .mk (i + 1) ⟨hlt, fun j hj hx => ?_⟩ (by omega) (by simp [go_sem, hcapk]) (by simp)
      rcases Nat.lt_succ_iff_lt_or_eq.1 hj with h3 | rfl
      · exact hpre j h3 hx
      · exact h
  · refine J_run 200 ?_
    repeat' (first
      | (simp (maxSteps := 1000000) (disch := omega) only [go_sem])
      | ((with_reducible first | refine gDt ?_ ?_ | refine gDf ?_ ?_ | refine gNt ?_ ?_ | refine gNf ?_ ?_ | refine cD ?_ ?_ | refine cN ?_ ?_ | refine cB ?_ ?_ | refine gB ?_ ?_) <;> intro h)
      | with_reducible first | refine And.intro ?_ ?_ | refine J_seq ?_ | refine J_block ?_ | refine J_inBlock ?_ | refine rC ?_ | refine rR ?_ | refine rE ?_ | refine rG ?_ | refine FinQ.now ?_ | refine FinQ.end ?_)
    rw [firstAt_none fun y hy => ?_]
    obtain ⟨j, hj, rfl⟩ := List.getElem_of_mem hy
    exact hpre j (by omega) hj
end Go.Proofs.YtangkndckghblaaDoor.Abs
