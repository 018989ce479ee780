/- zone.Nearest: what it computes. -/
import Derived.Test.YtangkndckghblaaDoorZW
namespace Go.Proofs.YtangkndckghblaaDoor.Abs
set_option linter.unusedSimpArgs false
set_option linter.unusedVariables false
set_option maxRecDepth 100000
open Go Go.RowKit

theorem flatN' (l m : List Int) : (Obj.arr 1 (l.map encN ++ m.map encN)).flat := by
  intro x hx
  rcases List.mem_append.1 hx with hx | hx <;> (obtain ⟨b, _, rfl⟩ := List.mem_map.1 hx; rfl)
theorem flatN0 (l : List Int) (k : Nat) : (Obj.arr 1 (l.map encN ++ List.replicate k (encN 0))).flat := by
  have := flatN' l (List.replicate k 0)
  rwa [List.map_replicate] at this
set_option maxHeartbeats 4000000 in
theorem NearestF (n : Net) (hs : n.sized) (zone : List Int) (hzl : zone.length ≤ 1000000) :
    Fn1 Tryd.prog GT0 14 [.agg (encNet n), .lst 1 (zone.map encN)] (.tup [.lst 1 ((nearestR n zone).1.map encN), .raw (.int .i64 (nearestR n zone).2)]) [] := by
  have c := checkZ n hs zone hzl
  by_cases h0 : zoneChk n zone = 0
  · obtain ⟨hn, hz0, hz⟩ := zoneChk_zero h0
    have hdl := hn.dl
    rw [h0] at c
    refine holds_ofV Tryd.func14 rfl rfl ?_
    refine J_run 200 ?_
    delta Tryd.f14
    simp only [encNet] at c ⊢
    iterate 8 (all_goals (try (first
      | (simp (maxSteps := 1000000) (disch := omega) only [go_sem])
      | ((with_reducible refine CallA.pure c ?_ ?_); (· simp (disch := omega) only [go_sem]); rintro _ _ ⟨rfl, rfl⟩)
      | ((with_reducible first | refine gDt ?_ ?_ | refine gDf ?_ ?_ | refine gNt ?_ ?_ | refine gNf ?_ ?_ | refine cD ?_ ?_ | refine cN ?_ ?_ | refine cB ?_ ?_ | refine gB ?_ ?_) <;> intro h)
      | with_reducible first | refine And.intro ?_ ?_ | refine J_seq ?_ | refine J_block ?_ | refine J_inBlock ?_ | refine rC ?_ | refine rR ?_ | refine rE ?_ | refine rG ?_ | refine FinQ.now ?_ | refine FinQ.end ?_)))
    refine J_nilName 7 1 (by simp only [go_sem]) ?_
    simp only [go_sem]
    refine J_for ([8, 9] ++ upto 23 39) (fun i : Nat => [(22, .raw (.int .i64 i)), (7, .own 1 1 0 (cutsTo n i).length)]) (fun i => [.box [.lst 3 (n.nodes.map encNd), .lst 5 (n.devs.map encDv)], .arr 1 ((cutsTo n i).map encN)]) (fun i => i ≤ n.devs.length) (fun i => n.devs.length - i) 0 (by omega) (.le (by simp [go_sem, cutsTo]) (by simp)) ?_
    intro i hi
    have htl := cutsTo_len (n := n) (i := i)
    by_cases hlt : i < n.devs.length
    · have hdv := getD_DvL hlt
      have ht := cutsTo_next (n := n) (i := i)
      have hic : isCut n i = decide (n.devs[i].kind = 3 ∨ n.devs[i].kind = 6) := by unfold isCut; rw [getD_get hlt]
      by_cases h3 : n.devs[i].kind = 3
      · rw [hic, decide_eq_true (.inl h3), if_pos rfl] at ht
        rw [h3] at hdv
        refine J_run 200 ?_
        iterate 14 (all_goals (try (first
          | (simp (maxSteps := 1000000) (disch := omega) only [go_sem, hdv])
          | ((with_reducible first | refine gDt ?_ ?_ | refine gDf ?_ ?_ | refine gNt ?_ ?_ | refine gNf ?_ ?_ | refine cD ?_ ?_ | refine cN ?_ ?_ | refine cB ?_ ?_ | refine gB ?_ ?_) <;> intro h)
          | with_reducible first | refine And.intro ?_ ?_ | refine J_seq ?_ | refine J_block ?_ | refine J_inBlock ?_ | refine rC ?_ | refine rR ?_ | refine rE ?_ | refine rG ?_ | refine FinQ.now ?_ | refine FinQ.end ?_)))
        refine .mk (i + 1) hlt (by omega) ?_ ?_
        · rw [ht]; simp [go_sem, encN]
        · simp
      by_cases h6 : n.devs[i].kind = 6
      · rw [hic, decide_eq_true (.inr h6), if_pos rfl] at ht
        rw [h6] at hdv
        refine J_run 200 ?_
        iterate 14 (all_goals (try (first
          | (simp (maxSteps := 1000000) (disch := omega) only [go_sem, hdv])
          | ((with_reducible first | refine gDt ?_ ?_ | refine gDf ?_ ?_ | refine gNt ?_ ?_ | refine gNf ?_ ?_ | refine cD ?_ ?_ | refine cN ?_ ?_ | refine cB ?_ ?_ | refine gB ?_ ?_) <;> intro h)
          | with_reducible first | refine And.intro ?_ ?_ | refine J_seq ?_ | refine J_block ?_ | refine J_inBlock ?_ | refine rC ?_ | refine rR ?_ | refine rE ?_ | refine rG ?_ | refine FinQ.now ?_ | refine FinQ.end ?_)))
        refine .mk (i + 1) hlt (by omega) ?_ ?_
        · rw [ht]; simp [go_sem, encN]
        · simp
      rw [hic, decide_eq_false (by omega), if_neg (by simp), List.append_nil] at ht
      refine J_run 200 ?_
      iterate 14 (all_goals (try (first
        | (simp (maxSteps := 1000000) (disch := omega) only [go_sem, hdv, h3, h6])
        | ((with_reducible first | refine gDt ?_ ?_ | refine gDf ?_ ?_ | refine gNt ?_ ?_ | refine gNf ?_ ?_ | refine cD ?_ ?_ | refine cN ?_ ?_ | refine cB ?_ ?_ | refine gB ?_ ?_) <;> intro h)
        | with_reducible first | refine And.intro ?_ ?_ | refine J_seq ?_ | refine J_block ?_ | refine J_inBlock ?_ | refine rC ?_ | refine rR ?_ | refine rE ?_ | refine rG ?_ | refine FinQ.now ?_ | refine FinQ.end ?_)))
      refine .mk (i + 1) hlt (by omega) ?_ ?_
      · rw [ht]; simp [go_sem, encN]
      · simp
    have hie : i = n.devs.length := by omega
    subst hie
    have hgl : (cuts n).length ≤ 1000000 := by rw [cuts_eq]; omega
    have ce := regionO n hn zone (cuts n) (fun x hx => rising_mem hz hx) hzl hgl
    rw [← cuts_eq] at *
    refine J_run 200 ?_
    iterate 8 (all_goals (try (first
      | (simp (maxSteps := 1000000) (disch := omega) only [go_sem])
      | ((with_reducible first | refine gDt ?_ ?_ | refine gDf ?_ ?_ | refine gNt ?_ ?_ | refine gNf ?_ ?_ | refine cD ?_ ?_ | refine cN ?_ ?_ | refine cB ?_ ?_ | refine gB ?_ ?_) <;> intro h)
      | with_reducible first | refine And.intro ?_ ?_ | refine J_seq ?_ | refine J_block ?_ | refine J_inBlock ?_ | refine rC ?_ | refine rR ?_ | refine rE ?_ | refine rG ?_ | refine FinQ.now ?_ | refine FinQ.end ?_)))
    simp only [encNet] at ce
    refine CallA.keep [1] ?_ ?_ ce ?_
    · simp only [go_sem]
      rw [List.take_of_length_le (by simp)]
    · simp only [go_sem]
    rintro _ _ ⟨rfl, rfl⟩
    refine ⟨⟨rfl, fun o ho => by rw [List.mem_singleton] at ho; subst ho; exact flatB _⟩, ?_⟩
    iterate 8 (all_goals (try (first
      | (simp (maxSteps := 1000000) (disch := omega) only [go_sem])
      | ((with_reducible first | refine gDt ?_ ?_ | refine gDf ?_ ?_ | refine gNt ?_ ?_ | refine gNf ?_ ?_ | refine cD ?_ ?_ | refine cN ?_ ?_ | refine cB ?_ ?_ | refine gB ?_ ?_) <;> intro h)
      | with_reducible first | refine And.intro ?_ ?_ | refine J_seq ?_ | refine J_block ?_ | refine J_inBlock ?_ | refine rC ?_ | refine rR ?_ | refine rE ?_ | refine rG ?_ | refine FinQ.now ?_ | refine FinQ.end ?_)))
    refine J_frz [2] ?_
    simp only [go_sem]
    rw [List.take_of_length_le (by simp [regB_len])]
    refine J_for ([11, 12] ++ upto 48 59) (fun i : Nat => [(47, .raw (.int .i64 i))]) (fun _ => [.box [.lst 3 (n.nodes.map encNd), .lst 5 (n.devs.map encDv)], .arr 1 ((cuts n).map encN), .dead, .box [.lst 1 ((regB n zone (cuts n)).map encB)]]) (fun i => i ≤ n.devs.length ∧ ∀ j (hj : j < n.devs.length), j < i → n.devs[j].kind = 5 → ¬ RG n zone (cuts n) n.devs[j].a.toNat) (fun i => n.devs.length - i) 0 ⟨by omega, fun j hj h => absurd h (by omega)⟩ (.le (by simp [go_sem]) (by simp)) ?_
    rintro i ⟨hi, hpre⟩
    by_cases hlt : i < n.devs.length
    · have hdv := getD_DvL hlt
      have ca := at_n n hn zone (cuts n) i hlt
      simp only [encDv] at ca
      by_cases h5 : n.devs[i].kind = 5
      · have h56 := at56 (zone := zone) (gaps := cuts n) hlt (.inl h5)
        rw [h5] at hdv ca
        cases hat : atB n zone (cuts n) i with
        | true =>
          rw [hat] at ca h56
          have hr : nearestR n zone = ([], 15) := by unfold nearestR; rw [if_neg (by simp [h0]), if_pos ⟨i, _, List.getElem?_eq_getElem hlt, h5, h56.1 rfl⟩]
          rw [hr]
          refine J_run 200 ?_
          iterate 14 (all_goals (try (first
            | (simp (maxSteps := 1000000) (disch := omega) only [go_sem, hdv])
            | ((with_reducible refine CallA.pure ca ?_ ?_); (· simp (disch := omega) only [go_sem, hdv]); rintro _ _ ⟨rfl, rfl⟩)
            | ((with_reducible first | refine gDt ?_ ?_ | refine gDf ?_ ?_ | refine gNt ?_ ?_ | refine gNf ?_ ?_ | refine cD ?_ ?_ | refine cN ?_ ?_ | refine cB ?_ ?_ | refine gB ?_ ?_) <;> intro h)
            | with_reducible first | refine And.intro ?_ ?_ | refine J_seq ?_ | refine J_block ?_ | refine J_inBlock ?_ | refine rC ?_ | refine rR ?_ | refine rE ?_ | refine rG ?_ | refine FinQ.now ?_ | refine FinQ.end ?_)))
          exact ⟨_, .tup (.cons (.nilLst 1) (VLes.refl _)), rfl, rfl⟩
        | false =>
          rw [hat] at ca h56
          refine J_run 200 ?_
          iterate 14 (all_goals (try (first
            | (simp (maxSteps := 1000000) (disch := omega) only [go_sem, hdv])
            | ((with_reducible refine CallA.pure ca ?_ ?_); (· simp (disch := omega) only [go_sem, hdv]); rintro _ _ ⟨rfl, rfl⟩)
            | ((with_reducible first | refine gDt ?_ ?_ | refine gDf ?_ ?_ | refine gNt ?_ ?_ | refine gNf ?_ ?_ | refine cD ?_ ?_ | refine cN ?_ ?_ | refine cB ?_ ?_ | refine gB ?_ ?_) <;> intro h)
            | with_reducible first | refine And.intro ?_ ?_ | refine J_seq ?_ | refine J_block ?_ | refine J_inBlock ?_ | refine rC ?_ | refine rR ?_ | refine rE ?_ | refine rG ?_ | refine FinQ.now ?_ | refine FinQ.end ?_)))
          refine .mk (i + 1) ⟨hlt, fun j hj hji hk hr => ?_⟩ (by omega) ?_ ?_
          · rcases Nat.lt_succ_iff_lt_or_eq.1 hji with h3 | rfl
            · exact hpre j hj h3 hk hr
            · exact absurd (h56.2 hr) (by simp)
          · simp [go_sem]
          · simp
      refine J_run 200 ?_
      iterate 14 (all_goals (try (first
        | (simp (maxSteps := 1000000) (disch := omega) only [go_sem, hdv, h5])
        | ((with_reducible refine CallA.pure ca ?_ ?_); (· simp (disch := omega) only [go_sem, hdv, h5]); rintro _ _ ⟨rfl, rfl⟩)
        | ((with_reducible first | refine gDt ?_ ?_ | refine gDf ?_ ?_ | refine gNt ?_ ?_ | refine gNf ?_ ?_ | refine cD ?_ ?_ | refine cN ?_ ?_ | refine cB ?_ ?_ | refine gB ?_ ?_) <;> intro h)
        | with_reducible first | refine And.intro ?_ ?_ | refine J_seq ?_ | refine J_block ?_ | refine J_inBlock ?_ | refine rC ?_ | refine rR ?_ | refine rE ?_ | refine rG ?_ | refine FinQ.now ?_ | refine FinQ.end ?_)))
      refine .mk (i + 1) ⟨hlt, fun j hj hji hk hr => ?_⟩ (by omega) ?_ ?_
      · rcases Nat.lt_succ_iff_lt_or_eq.1 hji with h3 | rfl
        · exact hpre j hj h3 hk hr
        · exact h5 hk
      · simp [go_sem]
      · simp
    have hr : nearestR n zone = ((cuts n).filter (atB n zone (cuts n)), 0) := by
      unfold nearestR
      rw [if_neg (by simp [h0]), if_neg]
      rintro ⟨j, d, h1, h2, h3⟩
      obtain ⟨hj, rfl⟩ := List.getElem?_eq_some_iff.1 h1
      exact hpre j hj (by omega) h2 h3
    rw [hr]
    have cd := deleteFunc (cuts n) 47 [.cptr [.lst 1 ((regB n zone (cuts n)).map encB)], .cptr (encNet n)] rfl (fun g => !atB n zone (cuts n) g) hgl (fun y hy => by
      obtain ⟨g, d, rfl, h1, _⟩ := mem_cuts.1 hy
      exact nearest1 n hn zone (cuts n) g (List.getElem?_eq_some_iff.1 h1).1)
    simp only [Bool.not_not, encNet] at cd
    refine J_run 200 ?_
    iterate 8 (all_goals (try (first
      | (simp (maxSteps := 1000000) (disch := omega) only [go_sem])
      | ((with_reducible first | refine gDt ?_ ?_ | refine gDf ?_ ?_ | refine gNt ?_ ?_ | refine gNf ?_ ?_ | refine cD ?_ ?_ | refine cN ?_ ?_ | refine cB ?_ ?_ | refine gB ?_ ?_) <;> intro h)
      | with_reducible first | refine And.intro ?_ ?_ | refine J_seq ?_ | refine J_block ?_ | refine J_inBlock ?_ | refine rC ?_ | refine rR ?_ | refine rE ?_ | refine rG ?_ | refine FinQ.now ?_ | refine FinQ.end ?_)))
    refine CallA.mutKeep [1] [0, 3] ?_ ?_ ?_ ?_ cd ?_
    · simp only [go_sem]
    · simp only [go_sem]
    · simp only [go_sem]
    · simp only [go_sem]
    rintro _ _ ⟨rfl, rfl⟩
    refine ⟨⟨rfl, fun o ho => by rw [List.mem_singleton] at ho; subst ho; exact flatN0 _ _⟩, ?_⟩
    iterate 8 (all_goals (try (first
      | (simp (maxSteps := 1000000) (disch := omega) only [go_sem])
      | ((with_reducible first | refine gDt ?_ ?_ | refine gDf ?_ ?_ | refine gNt ?_ ?_ | refine gNf ?_ ?_ | refine cD ?_ ?_ | refine cN ?_ ?_ | refine cB ?_ ?_ | refine gB ?_ ?_) <;> intro h)
      | with_reducible first | refine And.intro ?_ ?_ | refine J_seq ?_ | refine J_block ?_ | refine J_inBlock ?_ | refine rC ?_ | refine rR ?_ | refine rE ?_ | refine rG ?_)))
    refine .frz [1] (.now ?_)
    simp only [go_sem]
    rw [List.take_append_of_le_length (by simp), List.take_of_length_le (by simp)]
    exact ⟨_, VLe.refl _, rfl, rfl⟩
  · have hr : nearestR n zone = ([], zoneChk n zone) := by unfold nearestR; rw [if_pos h0]
    rw [hr]
    refine holds_ofV Tryd.func14 rfl rfl ?_
    refine J_run 200 ?_
    delta Tryd.f14
    simp only [encNet] at c ⊢
    iterate 12 (all_goals (try (first
      | (exfalso; omega)
      | (simp (maxSteps := 1000000) (disch := omega) only [go_sem])
      | ((with_reducible refine CallA.pure c ?_ ?_); (· simp (disch := omega) only [go_sem]); rintro _ _ ⟨rfl, rfl⟩)
      | ((with_reducible first | refine gDt ?_ ?_ | refine gDf ?_ ?_ | refine gNt ?_ ?_ | refine gNf ?_ ?_ | refine cD ?_ ?_ | refine cN ?_ ?_ | refine cB ?_ ?_ | refine gB ?_ ?_) <;> intro h)
      | with_reducible first | refine And.intro ?_ ?_ | refine J_seq ?_ | refine J_block ?_ | refine J_inBlock ?_ | refine rC ?_ | refine rR ?_ | refine rE ?_ | refine rG ?_ | refine FinQ.now ?_ | refine FinQ.end ?_)))
    exact ⟨_, .tup (.cons (.nilLst 1) (VLes.refl _)), rfl, rfl⟩
end Go.Proofs.YtangkndckghblaaDoor.Abs
