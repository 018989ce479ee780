/- The example of chapter 15. -/
import Derived.Test.YtangkndckghblaaDoorZX
import Derived.Test.YtangkndckghblaaDoorZP
namespace Go.Proofs.YtangkndckghblaaDoor.Abs
set_option linter.unusedSimpArgs false
set_option linter.unusedVariables false
set_option maxRecDepth 100000
open Go Go.RowKit

def exNet : Net := ⟨[⟨⟨#[65]⟩, 0, 0⟩, ⟨⟨#[66]⟩, 0, 0⟩], [⟨⟨#[83]⟩, 5, 0, -1, 0⟩, ⟨⟨#[68]⟩, 3, 0, 1, 0⟩]⟩
theorem exNet_ok : exNet.ok := Net.chk_ok.1 (by decide +kernel)
theorem exNet_sized : exNet.sized := ⟨by decide +kernel, by decide +kernel, by decide +kernel, by decide +kernel⟩
theorem ex_enough1 : enoughR exNet [1] [1] = (true, 0) := by
  unfold enoughR
  rw [if_neg (by decide +kernel), enoughB_C exNet_ok (by decide +kernel) 2 (by decide +kernel)]
  decide +kernel
theorem ex_enough0 : enoughR exNet [0] [1] = (false, 0) := by
  unfold enoughR
  rw [if_neg (by decide +kernel), enoughB_C exNet_ok (by decide +kernel) 2 (by decide +kernel)]
  decide +kernel
theorem ex_near1 : nearestR exNet [1] = ([1], 0) := by
  rw [nearestR_C (by decide +kernel) 2 (by decide +kernel)]
  decide +kernel
theorem ex_near0 : nearestR exNet [0] = ([], 15) := by
  rw [nearestR_C (by decide +kernel) 2 (by decide +kernel)]
  decide +kernel
theorem awake15 : Fn1 Tryd.prog GT0 10 [] (.raw (.bool true)) [] := by
  have c1 := EnoughF exNet exNet_sized [1] [1] (by simp) (by simp)
  have c2 := EnoughF exNet exNet_sized [0] [1] (by simp) (by simp)
  have c3 := NearestF exNet exNet_sized [1] (by simp)
  have c4 := NearestF exNet exNet_sized [0] (by simp)
  have c5 := ints [1] [1] (by simp) (by simp)
  rw [ex_enough1] at c1
  rw [ex_enough0] at c2
  rw [ex_near1] at c3
  rw [ex_near0] at c4
  simp only [encNet, exNet, List.map_cons, List.map_nil, encNd, encDv, encN] at c1 c2 c3 c4 c5
  refine holds_of Tryd.func10 rfl rfl ?_
  refine J_run 200 ?_
  delta Tryd.f10
  repeat' (first
    | (simp (maxSteps := 1000000) (disch := omega) only [go_sem])
    | ((with_reducible refine CallA.give [0,1,3,4] ?_ ?_ c1 ?_); (· simp (disch := omega) only [go_sem]); (· simp (disch := omega) only [go_sem]); rintro _ _ ⟨rfl, rfl⟩)
    | ((with_reducible refine CallA.give [5,6] ?_ ?_ c2 ?_); (· simp (disch := omega) only [go_sem]); (· simp (disch := omega) only [go_sem]); rintro _ _ ⟨rfl, rfl⟩)
    | ((with_reducible refine CallA.give [7] ?_ ?_ c3 ?_); (· simp (disch := omega) only [go_sem]); (· simp (disch := omega) only [go_sem]); rintro _ _ ⟨rfl, rfl⟩)
    | ((with_reducible refine CallA.give [8] ?_ ?_ c4 ?_); (· simp (disch := omega) only [go_sem]); (· simp (disch := omega) only [go_sem]); rintro _ _ ⟨rfl, rfl⟩)
    | ((with_reducible refine CallA.give [9] ?_ ?_ c5 ?_); (· simp (disch := omega) only [go_sem]); (· simp (disch := omega) only [go_sem]); rintro _ _ ⟨rfl, rfl⟩)
    | ((with_reducible first | refine gDt ?_ ?_ | refine gDf ?_ ?_ | refine gNt ?_ ?_ | refine gNf ?_ ?_ | refine cD ?_ ?_ | refine cN ?_ ?_ | refine cB ?_ ?_ | refine gB ?_ ?_) <;> intro h)
    | with_reducible first | refine And.intro ?_ ?_ | refine J_seq ?_ | refine J_block ?_ | refine J_inBlock ?_ | refine rC ?_ | refine rR ?_ | refine rE ?_ | refine rG ?_ | refine FinQ.now ?_ | refine FinQ.end ?_)
end Go.Proofs.YtangkndckghblaaDoor.Abs
