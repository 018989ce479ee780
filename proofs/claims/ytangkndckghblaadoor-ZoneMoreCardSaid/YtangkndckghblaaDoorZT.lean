/- zone.Region: what it computes. -/
import Derived.Test.YtangkndckghblaaDoorZS
namespace Go.Proofs.YtangkndckghblaaDoor.Abs
set_option linter.unusedSimpArgs false
set_option linter.unusedVariables false
set_option maxRecDepth 100000
open Go Go.RowKit

def truesTo (l : List Bool) (i : Nat) : List Int := ((List.range i).filter fun i => l.getD i false).map Int.ofNat
theorem truesTo_next {l : List Bool} {i : Nat} : truesTo l (i + 1) = truesTo l i ++ (if l.getD i false then [(i : Int)] else []) := by
  unfold truesTo
  rw [List.range_succ, List.filter_append, List.map_append]
  congr 1
  simp only [List.filter_cons, List.filter_nil]
  cases l.getD i false <;> rfl
theorem truesTo_len {l : List Bool} {i : Nat} : (truesTo l i).length ≤ i := by
  unfold truesTo
  rw [List.length_map]
  exact Nat.le_trans (List.length_filter_le _ _) (by simp)
set_option maxHeartbeats 2000000 in
theorem RegionF (n : Net) (hs : n.sized) (zone gaps : List Int) (hzl : zone.length ≤ 1000000) (hgl : gaps.length ≤ 1000000) :
    Fn1 Tryd.prog GT0 16 [.agg (encNet n), .lst 1 (zone.map encN), .lst 1 (gaps.map encN)] (.tup [.lst 1 ((regionR n zone gaps).1.map encN), .raw (.int .i64 (regionR n zone gaps).2)]) [] := by
  have c := faultF n hs zone gaps hzl hgl
  by_cases h0 : fault n zone gaps = 0
  · obtain ⟨hn, hz0, hz⟩ := zoneChk_zero (fault_zone h0)
    have hnl := hn.nl
    have ce := regionF n hn zone gaps (fun x hx => rising_mem hz hx) hzl hgl
    have hr : regionR n zone gaps = (regL n zone gaps, 0) := by unfold regionR; rw [if_neg (by simp [h0])]
    have hL := regB_len (n := n) (zone := zone) (gaps := gaps)
    rw [h0] at c
    rw [hr]
    refine holds_of Tryd.func16 rfl rfl ?_
    refine J_run 200 ?_
    delta Tryd.f16
    simp only [encNet] at c ce ⊢
    repeat' (first
      | (simp (maxSteps := 1000000) (disch := omega) only [go_sem])
      | ((with_reducible refine CallA.pure c ?_ ?_); (· simp only [go_sem]); rintro _ _ ⟨rfl, rfl⟩)
      | ((with_reducible refine CallA.pure ce ?_ ?_); (· simp only [go_sem]); rintro _ _ ⟨rfl, rfl⟩)
      | ((with_reducible first | refine gDt ?_ ?_ | refine gDf ?_ ?_ | refine gNt ?_ ?_ | refine gNf ?_ ?_ | refine cD ?_ ?_ | refine cN ?_ ?_ | refine cB ?_ ?_ | refine gB ?_ ?_) <;> intro h)
      | with_reducible first | refine And.intro ?_ ?_ | refine J_seq ?_ | refine J_block ?_ | refine J_inBlock ?_ | refine rC ?_ | refine rR ?_ | refine rE ?_ | refine rG ?_ | refine FinQ.now ?_ | refine FinQ.end ?_)
    refine J_nilName 9 1 (by simp only [go_sem]) ?_
    simp only [go_sem]
    refine J_for ([10, 11] ++ upto 25 34) (fun i : Nat => [(24, .raw (.int .i64 i)), (9, .own 1 1 0 (truesTo (regB n zone gaps) i).length)]) (fun i => [.box [.lst 3 (n.nodes.map encNd), .lst 5 (n.devs.map encDv)], .arr 1 ((truesTo (regB n zone gaps) i).map encN)]) (fun i => i ≤ n.nodes.length) (fun i => n.nodes.length - i) 0 (by omega) (.le (by simp [go_sem, truesTo]) (by simp)) ?_
    intro i hi
    have htl := truesTo_len (l := regB n zone gaps) (i := i)
    by_cases hlt : i < n.nodes.length
    · have hg := getD_B (l := regB n zone gaps) (i := i) (by omega)
      have hgd : (regB n zone gaps).getD i false = (regB n zone gaps)[i] := by simp [List.getD_eq_getElem?_getD, show i < (regB n zone gaps).length by omega]
      have ht := truesTo_next (l := regB n zone gaps) (i := i)
      obtain ⟨o, ho⟩ : ∃ o, (regB n zone gaps)[i]'(by omega) = o := ⟨_, rfl⟩
      rw [hgd, ho] at ht
      rw [ho] at hg
      cases o with
      | true =>
        refine J_run 200 ?_
        iterate 14 (all_goals (try (first
          | (simp (maxSteps := 1000000) (disch := omega) only [go_sem, hg])
          | ((with_reducible first | refine gDt ?_ ?_ | refine gDf ?_ ?_ | refine gNt ?_ ?_ | refine gNf ?_ ?_ | refine cD ?_ ?_ | refine cN ?_ ?_ | refine cB ?_ ?_ | refine gB ?_ ?_) <;> intro h)
          | with_reducible first | refine And.intro ?_ ?_ | refine J_seq ?_ | refine J_block ?_ | refine J_inBlock ?_ | refine rC ?_ | refine rR ?_ | refine rE ?_ | refine rG ?_ | refine FinQ.now ?_ | refine FinQ.end ?_)))
        refine .mk (i + 1) hlt (by omega) ?_ ?_
        · rw [ht]; simp [go_sem, encN]
        · simp
      | false =>
        refine J_run 200 ?_
        iterate 14 (all_goals (try (first
          | (simp (maxSteps := 1000000) (disch := omega) only [go_sem, hg])
          | ((with_reducible first | refine gDt ?_ ?_ | refine gDf ?_ ?_ | refine gNt ?_ ?_ | refine gNf ?_ ?_ | refine cD ?_ ?_ | refine cN ?_ ?_ | refine cB ?_ ?_ | refine gB ?_ ?_) <;> intro h)
          | with_reducible first | refine And.intro ?_ ?_ | refine J_seq ?_ | refine J_block ?_ | refine J_inBlock ?_ | refine rC ?_ | refine rR ?_ | refine rE ?_ | refine rG ?_ | refine FinQ.now ?_ | refine FinQ.end ?_)))
        refine .mk (i + 1) hlt (by omega) ?_ ?_
        · rw [ht]; simp [go_sem, encN]
        · simp
    have hie : i = n.nodes.length := by omega
    subst hie
    refine J_run 200 ?_
    iterate 12 (all_goals (try (first
      | (simp (maxSteps := 1000000) (disch := omega) only [go_sem])
      | ((with_reducible first | refine gDt ?_ ?_ | refine gDf ?_ ?_ | refine gNt ?_ ?_ | refine gNf ?_ ?_ | refine cD ?_ ?_ | refine cN ?_ ?_ | refine cB ?_ ?_ | refine gB ?_ ?_) <;> intro h)
      | with_reducible first | refine And.intro ?_ ?_ | refine J_seq ?_ | refine J_block ?_ | refine J_inBlock ?_ | refine rC ?_ | refine rR ?_ | refine rE ?_ | refine rG ?_)))
    refine .frz [1] (.now ?_)
    simp only [go_sem]
    have e : regL n zone gaps = truesTo (regB n zone gaps) n.nodes.length := by unfold regL trues truesTo; rw [hL]
    rw [e, List.take_of_length_le (by simp)]
  · have hr : regionR n zone gaps = ([], fault n zone gaps) := by unfold regionR; rw [if_pos h0]
    rw [hr]
    refine holds_ofV Tryd.func16 rfl rfl ?_
    refine J_run 200 ?_
    delta Tryd.f16
    simp only [encNet] at c ⊢
    iterate 12 (all_goals (try (first
      | (exfalso; omega)
      | (simp (maxSteps := 1000000) (disch := omega) only [go_sem])
      | ((with_reducible refine CallA.pure c ?_ ?_); (· simp only [go_sem]); rintro _ _ ⟨rfl, rfl⟩)
      | ((with_reducible first | refine gDt ?_ ?_ | refine gDf ?_ ?_ | refine gNt ?_ ?_ | refine gNf ?_ ?_ | refine cD ?_ ?_ | refine cN ?_ ?_ | refine cB ?_ ?_ | refine gB ?_ ?_) <;> intro h)
      | with_reducible first | refine And.intro ?_ ?_ | refine J_seq ?_ | refine J_block ?_ | refine J_inBlock ?_ | refine rC ?_ | refine rR ?_ | refine rE ?_ | refine rG ?_ | refine FinQ.now ?_ | refine FinQ.end ?_)))
    exact ⟨_, .tup (.cons (.nilLst 1) (VLes.refl _)), rfl, rfl⟩
end Go.Proofs.YtangkndckghblaaDoor.Abs
