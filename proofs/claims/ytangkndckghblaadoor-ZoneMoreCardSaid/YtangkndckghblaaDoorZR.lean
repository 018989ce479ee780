/- zone.enough, zone.Enough: what they compute. -/
import Derived.Test.YtangkndckghblaaDoorZQ
namespace Go.Proofs.YtangkndckghblaaDoor.Abs
set_option linter.unusedSimpArgs false
set_option linter.unusedVariables false
set_option maxRecDepth 100000
open Go Go.RowKit

set_option maxHeartbeats 2000000 in
theorem enoughF (n : Net) (hn : n.ok) (zone gaps : List Int) (hz : ∀ x, x ∈ zone → 0 ≤ x ∧ x < n.nodes.length) (hzl : zone.length ≤ 1000000) (hgl : gaps.length ≤ 1000000) :
    Fn1 Tryd.prog GT0 49 [.agg (encNet n), .lst 1 (zone.map encN), .lst 1 (gaps.map encN)] (.raw (.bool (enoughB n zone gaps))) [] := by
  have c := regionF n hn zone gaps hz hzl hgl
  have hdl := hn.dl
  refine holds_of Tryd.func49 rfl rfl ?_
  refine J_run 200 ?_
  delta Tryd.f49
  simp only [encNet] at c ⊢
  repeat' (first
    | (simp (maxSteps := 1000000) (disch := omega) only [go_sem])
    | ((with_reducible refine CallA.pure c ?_ ?_); (· simp only [go_sem]); rintro _ _ ⟨rfl, rfl⟩)
    | ((with_reducible first | refine gDt ?_ ?_ | refine gDf ?_ ?_ | refine gNt ?_ ?_ | refine gNf ?_ ?_ | refine cD ?_ ?_ | refine cN ?_ ?_ | refine cB ?_ ?_ | refine gB ?_ ?_) <;> intro h)
    | with_reducible first | refine And.intro ?_ ?_ | refine J_seq ?_ | refine J_block ?_ | refine J_inBlock ?_ | refine rC ?_ | refine rR ?_ | refine rE ?_ | refine rG ?_ | refine FinQ.now ?_ | refine FinQ.end ?_)
  refine J_for ([8, 9, 10] ++ upto 19 43) (fun i : Nat => [(18, .raw (.int .i64 i))]) (fun _ => [.box [.lst 3 (n.nodes.map encNd), .lst 5 (n.devs.map encDv)]]) (fun i => i ≤ n.devs.length ∧ ∀ j (hj : j < n.devs.length), j < i → (n.devs[j].kind = 5 ∨ (n.devs[j].kind = 6 ∧ (j : Int) ∉ gaps)) → ¬ RG n zone gaps n.devs[j].a.toNat) (fun i => n.devs.length - i) 0 ⟨by omega, fun j hj h => absurd h (by omega)⟩ (.le (by simp [go_sem]) (by simp)) ?_
  rintro i ⟨hi, hpre⟩
  by_cases hlt : i < n.devs.length
  · have hdv := getD_DvL hlt
    have ca := at_n n hn zone gaps i hlt
    simp only [encDv] at ca
    have cc := contains gaps i (by omega)
    have nxt : ¬ ((n.devs[i].kind = 5 ∨ (n.devs[i].kind = 6 ∧ (i : Int) ∉ gaps)) ∧ RG n zone gaps n.devs[i].a.toNat) → ∀ j (hj : j < n.devs.length), j < i + 1 → (n.devs[j].kind = 5 ∨ (n.devs[j].kind = 6 ∧ (j : Int) ∉ gaps)) → ¬ RG n zone gaps n.devs[j].a.toNat := fun hx j hj hji hk hr => by
      rcases Nat.lt_succ_iff_lt_or_eq.1 hji with h3 | rfl
      · exact hpre j hj h3 hk hr
      · exact hx ⟨hk, hr⟩
    have bad : (n.devs[i].kind = 5 ∨ (n.devs[i].kind = 6 ∧ (i : Int) ∉ gaps)) → RG n zone gaps n.devs[i].a.toNat → enoughB n zone gaps = false := fun hk hr => by
      simp only [enoughB, decide_eq_false_iff_not]
      exact fun h => h i _ (List.getElem?_eq_getElem hlt) hk hr
    by_cases h5 : n.devs[i].kind = 5
    · have h56 := at56 (zone := zone) (gaps := gaps) hlt (.inl h5)
      rw [h5] at hdv ca
      cases hat : atB n zone gaps i with
      | true =>
        rw [hat] at ca h56
        rw [bad (.inl h5) (h56.1 rfl)]
        refine J_run 200 ?_
        iterate 14 (all_goals (try (first
          | (simp (maxSteps := 1000000) (disch := omega) only [go_sem, hdv])
          | ((with_reducible refine CallA.pure ca ?_ ?_); (· simp only [go_sem]); rintro _ _ ⟨rfl, rfl⟩)
          | ((with_reducible first | refine gDt ?_ ?_ | refine gDf ?_ ?_ | refine gNt ?_ ?_ | refine gNf ?_ ?_ | refine cD ?_ ?_ | refine cN ?_ ?_ | refine cB ?_ ?_ | refine gB ?_ ?_) <;> intro h)
          | with_reducible first | refine And.intro ?_ ?_ | refine J_seq ?_ | refine J_block ?_ | refine J_inBlock ?_ | refine rC ?_ | refine rR ?_ | refine rE ?_ | refine rG ?_ | refine FinQ.now ?_ | refine FinQ.end ?_)))
      | false =>
        rw [hat] at ca h56
        refine J_run 200 ?_
        iterate 14 (all_goals (try (first
          | (simp (maxSteps := 1000000) (disch := omega) only [go_sem, hdv])
          | ((with_reducible refine CallA.pure ca ?_ ?_); (· simp only [go_sem]); rintro _ _ ⟨rfl, rfl⟩)
          | ((with_reducible first | refine gDt ?_ ?_ | refine gDf ?_ ?_ | refine gNt ?_ ?_ | refine gNf ?_ ?_ | refine cD ?_ ?_ | refine cN ?_ ?_ | refine cB ?_ ?_ | refine gB ?_ ?_) <;> intro h)
          | with_reducible first | refine And.intro ?_ ?_ | refine J_seq ?_ | refine J_block ?_ | refine J_inBlock ?_ | refine rC ?_ | refine rR ?_ | refine rE ?_ | refine rG ?_ | refine FinQ.now ?_ | refine FinQ.end ?_)))
        refine .mk (i + 1) ⟨hlt, nxt fun h => absurd (h56.2 h.2) (by simp)⟩ (by omega) ?_ ?_
        · simp [go_sem]
        · simp
    by_cases h6 : n.devs[i].kind = 6
    · have h56 := at56 (zone := zone) (gaps := gaps) hlt (.inr h6)
      rw [h6] at hdv ca
      by_cases hm : (i : Int) ∈ gaps
      · rw [decide_eq_true hm] at cc
        refine J_run 200 ?_
        iterate 14 (all_goals (try (first
          | (simp (maxSteps := 1000000) (disch := omega) only [go_sem, hdv])
          | ((with_reducible refine CallA.pure ca ?_ ?_); (· simp only [go_sem]); rintro _ _ ⟨rfl, rfl⟩)
          | ((with_reducible refine CallA.pure cc ?_ ?_); (· simp only [go_sem]); rintro _ _ ⟨rfl, rfl⟩)
          | ((with_reducible first | refine gDt ?_ ?_ | refine gDf ?_ ?_ | refine gNt ?_ ?_ | refine gNf ?_ ?_ | refine cD ?_ ?_ | refine cN ?_ ?_ | refine cB ?_ ?_ | refine gB ?_ ?_) <;> intro h)
          | with_reducible first | refine And.intro ?_ ?_ | refine J_seq ?_ | refine J_block ?_ | refine J_inBlock ?_ | refine rC ?_ | refine rR ?_ | refine rE ?_ | refine rG ?_ | refine FinQ.now ?_ | refine FinQ.end ?_)))
        refine .mk (i + 1) ⟨hlt, nxt fun h => h.1.elim h5 fun h => h.2 hm⟩ (by omega) ?_ ?_
        · simp [go_sem]
        · simp
      · rw [decide_eq_false hm] at cc
        cases hat : atB n zone gaps i with
        | true =>
          rw [hat] at ca h56
          rw [bad (.inr ⟨h6, hm⟩) (h56.1 rfl)]
          refine J_run 200 ?_
          iterate 14 (all_goals (try (first
            | (simp (maxSteps := 1000000) (disch := omega) only [go_sem, hdv])
            | ((with_reducible refine CallA.pure ca ?_ ?_); (· simp only [go_sem]); rintro _ _ ⟨rfl, rfl⟩)
            | ((with_reducible refine CallA.pure cc ?_ ?_); (· simp only [go_sem]); rintro _ _ ⟨rfl, rfl⟩)
            | ((with_reducible first | refine gDt ?_ ?_ | refine gDf ?_ ?_ | refine gNt ?_ ?_ | refine gNf ?_ ?_ | refine cD ?_ ?_ | refine cN ?_ ?_ | refine cB ?_ ?_ | refine gB ?_ ?_) <;> intro h)
            | with_reducible first | refine And.intro ?_ ?_ | refine J_seq ?_ | refine J_block ?_ | refine J_inBlock ?_ | refine rC ?_ | refine rR ?_ | refine rE ?_ | refine rG ?_ | refine FinQ.now ?_ | refine FinQ.end ?_)))
        | false =>
          rw [hat] at ca h56
          refine J_run 200 ?_
          iterate 14 (all_goals (try (first
            | (simp (maxSteps := 1000000) (disch := omega) only [go_sem, hdv])
            | ((with_reducible refine CallA.pure ca ?_ ?_); (· simp only [go_sem]); rintro _ _ ⟨rfl, rfl⟩)
            | ((with_reducible refine CallA.pure cc ?_ ?_); (· simp only [go_sem]); rintro _ _ ⟨rfl, rfl⟩)
            | ((with_reducible first | refine gDt ?_ ?_ | refine gDf ?_ ?_ | refine gNt ?_ ?_ | refine gNf ?_ ?_ | refine cD ?_ ?_ | refine cN ?_ ?_ | refine cB ?_ ?_ | refine gB ?_ ?_) <;> intro h)
            | with_reducible first | refine And.intro ?_ ?_ | refine J_seq ?_ | refine J_block ?_ | refine J_inBlock ?_ | refine rC ?_ | refine rR ?_ | refine rE ?_ | refine rG ?_ | refine FinQ.now ?_ | refine FinQ.end ?_)))
          refine .mk (i + 1) ⟨hlt, nxt fun h => absurd (h56.2 h.2) (by simp)⟩ (by omega) ?_ ?_
          · simp [go_sem]
          · simp
    refine J_run 200 ?_
    iterate 14 (all_goals (try (first
      | (simp (maxSteps := 1000000) (disch := omega) only [go_sem, hdv, h5, h6])
      | ((with_reducible refine CallA.pure ca ?_ ?_); (· simp only [go_sem]); rintro _ _ ⟨rfl, rfl⟩)
      | ((with_reducible refine CallA.pure cc ?_ ?_); (· simp only [go_sem]); rintro _ _ ⟨rfl, rfl⟩)
      | ((with_reducible first | refine gDt ?_ ?_ | refine gDf ?_ ?_ | refine gNt ?_ ?_ | refine gNf ?_ ?_ | refine cD ?_ ?_ | refine cN ?_ ?_ | refine cB ?_ ?_ | refine gB ?_ ?_) <;> intro h)
      | with_reducible first | refine And.intro ?_ ?_ | refine J_seq ?_ | refine J_block ?_ | refine J_inBlock ?_ | refine rC ?_ | refine rR ?_ | refine rE ?_ | refine rG ?_ | refine FinQ.now ?_ | refine FinQ.end ?_)))
    refine .mk (i + 1) ⟨hlt, nxt fun h => h.1.elim h5 fun h => h6 h.1⟩ (by omega) ?_ ?_
    · simp [go_sem]
    · simp
  · refine J_run 200 ?_
    repeat' (first
      | (simp (maxSteps := 1000000) (disch := omega) only [go_sem])
      | ((with_reducible first | refine gDt ?_ ?_ | refine gDf ?_ ?_ | refine gNt ?_ ?_ | refine gNf ?_ ?_ | refine cD ?_ ?_ | refine cN ?_ ?_ | refine cB ?_ ?_ | refine gB ?_ ?_) <;> intro h)
      | with_reducible first | refine And.intro ?_ ?_ | refine J_seq ?_ | refine J_block ?_ | refine J_inBlock ?_ | refine rC ?_ | refine rR ?_ | refine rE ?_ | refine rG ?_ | refine FinQ.now ?_ | refine FinQ.end ?_)
    have he : enoughB n zone gaps = true := by
      simp only [enoughB, decide_eq_true_eq]
      intro j d hd hk
      obtain ⟨hj, rfl⟩ := List.getElem?_eq_some_iff.1 hd
      exact hpre j hj (by omega) hk
    rw [he]
end Go.Proofs.YtangkndckghblaaDoor.Abs
