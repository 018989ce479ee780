/- The example of chapter 35. -/
import Derived.Test.YtfkiomkfoabnhaaDoorBA
import Derived.Test.YtfkiomkfoabnhaaDoorZ4
namespace Go.Proofs.YtfkiomkfoabnhaaDoor.Abs
set_option linter.unusedSimpArgs false
set_option linter.unusedVariables false
set_option maxRecDepth 100000
open Go Go.RowKit

def aNet : Net := ⟨[⟨⟨#[65]⟩, 0, 0⟩, ⟨⟨#[66]⟩, 0, 0⟩], [⟨⟨#[88]⟩, 3, 0, 1, 2⟩]⟩
theorem aNet_ok : aNet.ok := Net.chk_ok.1 (by decide +kernel)
theorem a_near : nearestR aNet [0] = ([0], 0) := by
  rw [nearestR_C (by decide +kernel) 2 (by decide +kernel)]
  decide +kernel
def aCells (b : Bool) : List AV := [.raw (.slice none 0 0), .raw (.slice none 0 0), if b then .lst 3 [[.raw (.int .i64 0), .raw (.int .i64 1), .raw (.int .i64 3)]] else .raw (.slice none 0 0), .raw (.slice none 0 0), .raw (.slice none 0 0), .raw (.slice none 0 0), .raw (.slice none 0 0), .raw (.slice none 0 0)]
set_option maxHeartbeats 8000000 in
theorem groupedA : Fn1 Tryd.prog GT0 62 [.agg (encNet aNet), .raw (.int .i64 1), .lst 3 [[.raw (.int .i64 0), .raw (.int .i64 1), .raw (.int .i64 3)]]] (.agg (aCells true)) [] := by
  refine holds_of Tryd.func62 rfl rfl ?_
  refine J_run 200 ?_
  delta Tryd.f62
  simp only [encNet, aNet, List.map_cons, List.map_nil, encNd, encDv]
  iterate 5 (all_goals (try (first
    | (simp (maxSteps := 1000000) (disch := omega) only [go_sem])
    | ((with_reducible first | refine gDt ?_ ?_ | refine gDf ?_ ?_ | refine gNt ?_ ?_ | refine gNf ?_ ?_ | refine cD ?_ ?_ | refine cN ?_ ?_ | refine cB ?_ ?_ | refine gB ?_ ?_) <;> intro h)
    | with_reducible first | refine And.intro ?_ ?_ | refine J_seq ?_ | refine J_block ?_ | refine J_inBlock ?_ | refine rC ?_ | refine rR ?_ | refine rE ?_ | refine rG ?_ | refine FinQ.now ?_ | refine FinQ.end ?_)))
  refine J_for ([9, 10] ++ upto 14 34) (fun i : Nat => [(13, .raw (.int .i64 i))]) (fun i => [.box [.lst 3 [encNd ⟨⟨#[65]⟩, 0, 0⟩, encNd ⟨⟨#[66]⟩, 0, 0⟩], .lst 5 [encDv ⟨⟨#[88]⟩, 3, 0, 1, 2⟩]], .box (aCells false), .box (aCells (decide (1 ≤ i)))]) (fun i => i ≤ 1) (fun i => 1 - i) 0 (by omega) (.le (by simp [go_sem, aCells, encNd, encDv]) (by simp)) ?_
  intro i hi
  rcases (show i = 0 ∨ i = 1 by omega) with rfl | rfl
  · simp only [aCells, encNd, encDv]
    refine J_run 200 ?_
    iterate 12 (all_goals (try (first
      | ((with_reducible refine J_draw (id := 7) 200 [] plan62_7 (by kernel_rfl) (by kernel_rfl) ?_); delta plan62_7)
      | (simp (maxSteps := 1000000) (disch := omega) only [go_sem, Nat.reduceLT])
      | ((with_reducible first | refine gDt ?_ ?_ | refine gDf ?_ ?_ | refine gNt ?_ ?_ | refine gNf ?_ ?_ | refine cD ?_ ?_ | refine cN ?_ ?_ | refine cB ?_ ?_ | refine gB ?_ ?_ | refine stepGuard_dect ?_ ?_ | refine stepGuard_decf ?_ ?_ | refine stepGuard_ndect ?_ ?_ | refine stepGuard_ndecf ?_ ?_ | refine stepGuard_by ?_ ?_) <;> intro h)
      | with_reducible first | refine And.intro ?_ ?_ | refine J_seq ?_ | refine J_block ?_ | refine J_inBlock ?_ | refine rC ?_ | refine rR ?_ | refine rE ?_ | refine rG ?_ | refine FinQ.now ?_ | refine FinQ.end ?_)))
    refine ⟨1, by simp, by simp, SemLe.trans (SemLe.frz _ _ [5]) ?_⟩
    simp only [go_sem, List.take_succ_cons, List.take_zero]
    exact .le (by simp [go_sem]) (by simp)
  · simp only [aCells, encNd, encDv]
    refine J_run 200 ?_
    iterate 8 (all_goals (try (first
      | (simp (maxSteps := 1000000) (disch := omega) only [go_sem])
      | ((with_reducible first | refine gDt ?_ ?_ | refine gDf ?_ ?_ | refine gNt ?_ ?_ | refine gNf ?_ ?_ | refine cD ?_ ?_ | refine cN ?_ ?_ | refine cB ?_ ?_ | refine gB ?_ ?_) <;> intro h)
      | with_reducible first | refine And.intro ?_ ?_ | refine J_seq ?_ | refine J_block ?_ | refine J_inBlock ?_ | refine rC ?_ | refine rR ?_ | refine rE ?_ | refine rG ?_ | refine FinQ.now ?_ | refine FinQ.end ?_)))
set_option maxHeartbeats 8000000 in
theorem companiesA : Holds Tryd.prog GT0 63 [.ref 0 0] [.box (aCells true)] (fun r os => r = .lst 1 [[.raw (.int .i64 2)]] ∧ os = [.box (aCells true)]) := by
  refine holds_of Tryd.func63 rfl rfl ?_
  refine J_run 200 ?_
  delta Tryd.f63
  iterate 5 (all_goals (try (first
    | (simp (maxSteps := 1000000) (disch := omega) only [go_sem])
    | ((with_reducible first | refine gDt ?_ ?_ | refine gDf ?_ ?_ | refine gNt ?_ ?_ | refine gNf ?_ ?_ | refine cD ?_ ?_ | refine cN ?_ ?_ | refine cB ?_ ?_ | refine gB ?_ ?_) <;> intro h)
    | with_reducible first | refine And.intro ?_ ?_ | refine J_seq ?_ | refine J_block ?_ | refine J_inBlock ?_ | refine rC ?_ | refine rR ?_ | refine rE ?_ | refine rG ?_ | refine FinQ.now ?_ | refine FinQ.end ?_)))
  refine J_nilName 3 1 (by simp only [go_sem]) ?_
  simp only [go_sem]
  refine J_for ([4, 5] ++ upto 9 20) (fun c : Nat => [(8, .raw (.int .i64 c)), (3, .own 1 1 0 (if c ≤ 2 then 0 else 1))]) (fun c => [.box (aCells true), .arr 1 (if c ≤ 2 then [] else [[.raw (.int .i64 2)]])]) (fun c => c ≤ 8) (fun c => 8 - c) 0 (by omega) (.le (by simp [go_sem, aCells]) (by simp)) ?_
  intro c hc
  rcases (show c = 0 ∨ c = 1 ∨ c = 2 ∨ c = 3 ∨ c = 4 ∨ c = 5 ∨ c = 6 ∨ c = 7 ∨ c = 8 by omega) with rfl | rfl | rfl | rfl | rfl | rfl | rfl | rfl | rfl
  all_goals
    simp only [aCells]
    refine J_run 200 ?_
    iterate 10 (all_goals (try (first
      | ((with_reducible refine J_draw (id := 4) 200 [] plan63_4 (by kernel_rfl) (by kernel_rfl) ?_); delta plan63_4)
      | (simp (maxSteps := 1000000) (disch := omega) only [go_sem, Nat.reduceLT])
      | ((with_reducible first | refine gDt ?_ ?_ | refine gDf ?_ ?_ | refine gNt ?_ ?_ | refine gNf ?_ ?_ | refine cD ?_ ?_ | refine cN ?_ ?_ | refine cB ?_ ?_ | refine gB ?_ ?_ | refine stepGuard_dect ?_ ?_ | refine stepGuard_decf ?_ ?_ | refine stepGuard_ndect ?_ ?_ | refine stepGuard_ndecf ?_ ?_ | refine stepGuard_by ?_ ?_) <;> intro h)
      | with_reducible first | refine And.intro ?_ ?_ | refine J_seq ?_ | refine J_block ?_ | refine J_inBlock ?_ | refine rC ?_ | refine rR ?_ | refine rE ?_ | refine rG ?_)))
  all_goals first
    | (refine LoopEnd.mk 1 (by omega) (by omega) ?_ ?_; (· simp [go_sem, aCells]; done); (· simp))
    | (refine LoopEnd.mk 2 (by omega) (by omega) ?_ ?_; (· simp [go_sem, aCells]; done); (· simp))
    | (refine LoopEnd.mk 3 (by omega) (by omega) ?_ ?_; (· simp [go_sem, aCells]; done); (· simp))
    | (refine LoopEnd.mk 4 (by omega) (by omega) ?_ ?_; (· simp [go_sem, aCells]; done); (· simp))
    | (refine LoopEnd.mk 5 (by omega) (by omega) ?_ ?_; (· simp [go_sem, aCells]; done); (· simp))
    | (refine LoopEnd.mk 6 (by omega) (by omega) ?_ ?_; (· simp [go_sem, aCells]; done); (· simp))
    | (refine LoopEnd.mk 7 (by omega) (by omega) ?_ ?_; (· simp [go_sem, aCells]; done); (· simp))
    | (refine LoopEnd.mk 8 (by omega) (by omega) ?_ ?_; (· simp [go_sem, aCells]; done); (· simp))
    | (refine .frz [1] (.now ?_); simp [go_sem]; done)
set_option maxHeartbeats 8000000 in
theorem compsA : Fn1 Tryd.prog GT0 39 [.agg (encNet aNet), .raw (.int .i64 1), .lst 3 [[.raw (.int .i64 0), .raw (.int .i64 1), .raw (.int .i64 3)]]] (.tup [.lst 1 [[.raw (.int .i64 2)]], .raw (.int .i64 0)]) [] := by
  have cl := lockCheck aNet aNet_ok.sized [⟨0, 1, 3⟩] (by simp)
  rw [show lockChk aNet [⟨0, 1, 3⟩] = 0 by decide +kernel] at cl
  have cg := groupedA
  have cc := companiesA
  refine holds_of Tryd.func39 rfl rfl ?_
  refine J_run 200 ?_
  delta Tryd.f39
  simp only [encNet, aNet, List.map_cons, List.map_nil, encNd, encDv, encLk, aCells, if_true] at cl cg cc ⊢
  iterate 12 (all_goals (try (first
    | (simp (maxSteps := 1000000) (disch := omega) only [go_sem])
    | ((with_reducible refine CallA.pure cl ?_ ?_); (· simp (disch := omega) only [go_sem]); rintro _ _ ⟨rfl, rfl⟩)
    | ((with_reducible refine CallA.pure cg ?_ ?_); (· simp (disch := omega) only [go_sem]); rintro _ _ ⟨rfl, rfl⟩)
    | ((with_reducible refine CallA.mut [1] ?_ ?_ ?_ ?_ cc ?_); (· simp (disch := omega) only [go_sem]); (· simp (disch := omega) only [go_sem]); (· simp (disch := omega) only [go_sem]); (· simp (disch := omega) only [go_sem]); rintro _ _ ⟨rfl, rfl⟩)
    | ((with_reducible first | refine gDt ?_ ?_ | refine gDf ?_ ?_ | refine gNt ?_ ?_ | refine gNf ?_ ?_ | refine cD ?_ ?_ | refine cN ?_ ?_ | refine cB ?_ ?_ | refine gB ?_ ?_) <;> intro h)
    | with_reducible first | refine And.intro ?_ ?_ | refine J_seq ?_ | refine J_block ?_ | refine J_inBlock ?_ | refine rC ?_ | refine rR ?_ | refine rE ?_ | refine rG ?_ | refine FinQ.now ?_ | refine FinQ.end ?_)))
theorem awake35 : Fn1 Tryd.prog GT0 9 [] (.raw (.bool true)) [] := by
  have cp := boundPts aNet aNet_ok.sized 1 [0] (by simp) (by rw [a_near]) (by omega) (by rw [a_near]; decide +kernel) (by rw [a_near]; decide)
  rw [a_near, show (([0], 0) : List Int × Int).1.filter (fun x => ownB aNet 1 x == true) = [] by decide +kernel, show (([0], 0) : List Int × Int).1.filter (fun x => ownB aNet 1 x == false) = [0] by decide +kernel] at cp
  have cc := compsA
  refine holds_of Tryd.func9 rfl rfl ?_
  refine J_run 200 ?_
  delta Tryd.f9
  simp only [encNet, aNet, List.map_cons, List.map_nil, encNd, encDv, encN] at cp cc ⊢
  iterate 12 (all_goals (try (first
    | (simp (maxSteps := 1000000) (disch := omega) only [go_sem, Nat.reduceLT])
    | ((with_reducible refine CallA.give [0,1,3] ?_ ?_ cp ?_); (· simp (disch := omega) only [go_sem, Nat.reduceLT]); (· simp (disch := omega) only [go_sem, Nat.reduceLT]); rintro _ _ ⟨rfl, rfl⟩)
    | ((with_reducible refine CallA.give [4] ?_ ?_ cc ?_); (· simp (disch := omega) only [go_sem, Nat.reduceLT]); (· simp (disch := omega) only [go_sem, Nat.reduceLT]); rintro _ _ ⟨rfl, rfl⟩)
    | ((with_reducible first | refine gDt ?_ ?_ | refine gDf ?_ ?_ | refine gNt ?_ ?_ | refine gNf ?_ ?_ | refine cD ?_ ?_ | refine cN ?_ ?_ | refine cB ?_ ?_ | refine gB ?_ ?_) <;> intro h)
    | with_reducible first | refine And.intro ?_ ?_ | refine J_seq ?_ | refine J_block ?_ | refine J_inBlock ?_ | refine rC ?_ | refine rR ?_ | refine rE ?_ | refine rG ?_ | refine FinQ.now ?_ | refine FinQ.end ?_)))
end Go.Proofs.YtfkiomkfoabnhaaDoor.Abs
