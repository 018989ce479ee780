/- A list that is bent. -/
import Derived.Test.YthgcmeniecaemaaGreatDoorZ2
import Derived.Test.YthgcmeniecaemaaGreatDoorZ3
namespace Go.Proofs.YthgcmeniecaemaaGreatDoor.Abs
set_option linter.unusedSimpArgs false
set_option linter.unusedVariables false
set_option maxRecDepth 100000
open Go Go.RowKit

/-- A list that was drawn. -/
def DrawnList (most : Nat) (r : AV) (os : List Obj) : Prop := ∃ (w : List Int) (d : Dk), d.ok ∧ w.length ≤ most ∧ r = .lst 1 (w.map encN) ∧ os = [.box (encDk d)]
set_option maxHeartbeats 4000000 in
theorem bentD (d : Dk) (hd : d.ok) (l : List Int) (hl : l.length ≤ 1000) (vs : List Int) (hv : 1 ≤ vs.length) (hv2 : vs.length ≤ 1000) : Holds Tryz.prog GT0 14 [.ref 0 0, .lst 1 (l.map encN), .lst 1 (vs.map encN)] [.box (encDk d)] (DrawnList (l.length + 1)) := by
  have c5 := fun (d : Dk) (hd : d.ok) => one d hd 5 (by decide)
  have c4 := fun (d : Dk) (hd : d.ok) => one d hd 4 (by decide)
  have xv := fun (d : Dk) (hd : d.ok) => next d hd vs.length ⟨by omega, by omega⟩
  have xl := fun (d : Dk) (hd : d.ok) => next d hd l.length ⟨by omega, by omega⟩
  by_cases h0 : l = []
  · subst h0
    refine holds_of Tryz.func14 rfl rfl ?_
    refine J_run 200 ?_
    delta Tryz.f14
    iterate 30 (all_goals (try (first
      | (simp (maxSteps := 1000000) (disch := omega) only [go_sem, getD_N, List.length_nil, List.map_nil])
      | ((with_reducible refine CallA.mut [0] ?_ ?_ ?_ ?_ (xv _ (by assumption)) ?_); (· simp (disch := omega) only [go_sem, getD_N, List.length_nil, List.map_nil]); (· simp (disch := omega) only [go_sem, getD_N, List.length_nil, List.map_nil]); (· simp (disch := omega) only [go_sem, getD_N, List.length_nil, List.map_nil]); (· simp (disch := omega) only [go_sem, getD_N, List.length_nil, List.map_nil]); rintro _ _ ⟨x, d2, hd2, hx0, hx1, rfl, rfl⟩)
      | ((with_reducible first | refine gDt ?_ ?_ | refine gDf ?_ ?_ | refine gNt ?_ ?_ | refine gNf ?_ ?_ | refine cD ?_ ?_ | refine cN ?_ ?_ | refine cB ?_ ?_ | refine gB ?_ ?_) <;> intro h)
      | with_reducible first | refine And.intro ?_ ?_ | refine J_seq ?_ | refine J_block ?_ | refine J_inBlock ?_ | refine rC ?_ | refine rR ?_ | refine rE ?_ | refine rG ?_)))
    refine .frz [1] (.now ?_)
    simp (maxSteps := 1000000) (disch := omega) only [go_sem]
    exact ⟨[vs[x.toNat]'(by omega)], d2, hd2, by simp, by simp [encN], rfl⟩
  · have hl0 : 0 < l.length := List.length_pos_iff.2 h0
    refine holds_of Tryz.func14 rfl rfl ?_
    refine J_run 200 ?_
    delta Tryz.f14
    iterate 40 (all_goals (try (first
      | (simp (maxSteps := 1000000) (disch := omega) only [go_sem, getD_N])
      | ((with_reducible refine CallA.mut [0] ?_ ?_ ?_ ?_ (c5 _ (by assumption)) ?_); (· simp (disch := omega) only [go_sem, getD_N]); (· simp (disch := omega) only [go_sem, getD_N]); (· simp (disch := omega) only [go_sem, getD_N]); (· simp (disch := omega) only [go_sem, getD_N]); rintro _ _ ⟨b, d2, hd2, rfl, rfl⟩)
      | ((with_reducible refine CallA.mut [0] ?_ ?_ ?_ ?_ (c4 _ (by assumption)) ?_); (· simp (disch := omega) only [go_sem, getD_N]); (· simp (disch := omega) only [go_sem, getD_N]); (· simp (disch := omega) only [go_sem, getD_N]); (· simp (disch := omega) only [go_sem, getD_N]); rintro _ _ ⟨b2, d3, hd3, rfl, rfl⟩)
      | ((with_reducible refine CallA.mut [0] ?_ ?_ ?_ ?_ (xv _ (by assumption)) ?_); (· simp (disch := omega) only [go_sem, getD_N]); (· simp (disch := omega) only [go_sem, getD_N]); (· simp (disch := omega) only [go_sem, getD_N]); (· simp (disch := omega) only [go_sem, getD_N]); rintro _ _ ⟨x, d4, hd4, hx0, hx1, rfl, rfl⟩)
      | ((with_reducible refine CallA.mut [0] ?_ ?_ ?_ ?_ (xl _ (by assumption)) ?_); (· simp (disch := omega) only [go_sem, getD_N]); (· simp (disch := omega) only [go_sem, getD_N]); (· simp (disch := omega) only [go_sem, getD_N]); (· simp (disch := omega) only [go_sem, getD_N]); rintro _ _ ⟨y, d5, hd5, hy0, hy1, rfl, rfl⟩)
      | ((with_reducible first | refine gDt ?_ ?_ | refine gDf ?_ ?_ | refine gNt ?_ ?_ | refine gNf ?_ ?_ | refine cD ?_ ?_ | refine cN ?_ ?_ | refine cB ?_ ?_ | refine gB ?_ ?_) <;> intro h)
      | with_reducible first | refine And.intro ?_ ?_ | refine J_seq ?_ | refine J_block ?_ | refine J_inBlock ?_ | refine rC ?_ | refine rR ?_ | refine rE ?_ | refine rG ?_)))
    · refine .frz [1] (.now ?_)
      simp (maxSteps := 1000000) (disch := omega) only [go_sem]
      exact ⟨l ++ [vs[x.toNat]'(by omega)], d4, hd4, by simp, by rw [List.take_of_length_le (by simp)]; simp [encN], rfl⟩
    · refine .frz [1] (.now ?_)
      simp (maxSteps := 1000000) (disch := omega) only [go_sem]
      exact ⟨l.drop 1, d3, hd3, by simp; omega, by rw [List.take_of_length_le (by simp)]; simp, rfl⟩
    · refine .frz [1] (.now ?_)
      simp (maxSteps := 1000000) (disch := omega) only [go_sem]
      exact ⟨l.set y.toNat (vs[x.toNat]'(by omega)), d4, hd4, by simp, by rw [List.take_of_length_le (by simp), List.map_set]; rfl, rfl⟩
end Go.Proofs.YthgcmeniecaemaaGreatDoor.Abs
