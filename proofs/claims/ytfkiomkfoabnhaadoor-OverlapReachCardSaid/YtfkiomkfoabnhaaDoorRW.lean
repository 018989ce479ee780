/- References: regions, isolation, points, nearest gaps. -/
import Derived.Test.YtfkiomkfoabnhaaDoorRV
import Derived.Test.YtfkiomkfoabnhaaDoorR4
import Derived.Test.YtfkiomkfoabnhaaDoorR2
import Derived.Test.YtfkiomkfoabnhaaDoorZ4
namespace Go.Proofs.YtfkiomkfoabnhaaDoor.Abs
set_option linter.unusedSimpArgs false
set_option linter.unusedVariables false
set_option maxRecDepth 100000
open Go Go.RowKit

set_option maxHeartbeats 8000000 in
theorem rFault15 (n : Net) (hs : n.sized) (zone gaps : List Int) (hzl : zone.length ≤ 1000000) (hgl : gaps.length ≤ 1000000) :
    Fn1 Tryd.prog GT0 83 [.agg (encNet n), .lst 1 (zone.map encN), .lst 1 (gaps.map encN)] (.raw (.int .i64 (fault n zone gaps))) [] := by
  have c := rZone n hs zone hzl
  have h1 := hs.dl
  by_cases h0 : zoneChk n zone = 0
  · have hn := (zoneChk_zero h0).1
    have hdl := hn.dl
    have hf : fault n zone gaps = firstE (gErr n gaps) gaps.length := by unfold fault; rw [if_neg (by simp [h0])]
    rw [h0] at c
    rw [hf]
    refine holds_of Tryd.func83 rfl rfl ?_
    refine J_run 200 ?_
    delta Tryd.f83
    simp only [encNet] at c ⊢
    iterate 14 (all_goals (try (first
      | (simp (maxSteps := 1000000) (disch := omega) only [go_sem])
      | ((with_reducible refine CallA.pure c ?_ ?_); (· simp (disch := omega) only [go_sem]); rintro _ _ ⟨rfl, rfl⟩)
      | ((with_reducible first | refine gDt ?_ ?_ | refine gDf ?_ ?_ | refine gNt ?_ ?_ | refine gNf ?_ ?_ | refine cD ?_ ?_ | refine cN ?_ ?_ | refine cB ?_ ?_ | refine gB ?_ ?_) <;> intro h)
      | with_reducible first | refine And.intro ?_ ?_ | refine J_seq ?_ | refine J_block ?_ | refine J_inBlock ?_ | refine rC ?_ | refine rR ?_ | refine rE ?_ | refine rG ?_ | refine FinQ.now ?_ | refine FinQ.end ?_)))
    refine J_for (upto 15 63) (fun i : Nat => [(8, .raw (.int .i64 i))]) (fun _ => [.box [.lst 3 (n.nodes.map encNd), .lst 5 (n.devs.map encDv)]]) (fun i => i ≤ gaps.length ∧ ∀ j, j < i → gErr n gaps j = 0) (fun i => gaps.length - i) 0 ⟨by omega, by omega⟩ (.le (by simp [go_sem]) (by simp)) ?_
    rintro i ⟨hi, hpre⟩
    by_cases hlt : i < gaps.length
    · have hgi : gaps.getD i 0 = gaps[i] := by simp [List.getD_eq_getElem?_getD, hlt]
      have hgn := getD_N hlt
      by_cases hc : gaps[i] < 0 ∨ (n.devs.length : Int) ≤ gaps[i]
      · have hg8 : gErr n gaps i = 8 := by unfold gErr; rw [if_pos (by rw [hgi]; omega)]
        refine J_run 200 ?_
        iterate 20 (all_goals (try (first
          | (exfalso; omega)
          | ((with_reducible refine J_draw (id := 7) 200 [] plan83_7 (by kernel_rfl) (by kernel_rfl) ?_); delta plan83_7)
          | (simp (maxSteps := 1000000) (disch := omega) only [go_sem, hgn])
          | ((with_reducible first | refine gDt ?_ ?_ | refine gDf ?_ ?_ | refine gNt ?_ ?_ | refine gNf ?_ ?_ | refine cD ?_ ?_ | refine cN ?_ ?_ | refine cB ?_ ?_ | refine gB ?_ ?_ | refine stepGuard_dect ?_ ?_ | refine stepGuard_decf ?_ ?_ | refine stepGuard_ndect ?_ ?_ | refine stepGuard_ndecf ?_ ?_ | refine stepGuard_by ?_ ?_) <;> intro h)
          | with_reducible first | refine And.intro ?_ ?_ | refine J_seq ?_ | refine J_block ?_ | refine J_inBlock ?_ | refine rC ?_ | refine rR ?_ | refine rE ?_ | refine rG ?_ | refine FinQ.now ?_ | refine FinQ.end ?_)))
        all_goals (rw [firstE_hit hlt hpre (by omega), hg8])
      · have hgd := getD_DvL (l := n.devs) (i := gaps[i].toNat) (by omega)
        have cg := refGap (n.devs[gaps[i].toNat]'(by omega)).kind
        by_cases hi0 : 0 < i
        · have hgp := getD_N (l := gaps) (i := i - 1) (by omega)
          have hi1 : ((i : Int) - 1).toNat = i - 1 := by omega
          have hgq : gaps.getD (i - 1) 0 = gaps[i - 1] := getD_get (by omega)
          by_cases hle : gaps[i] ≤ gaps[i - 1]
          · have hg8 : gErr n gaps i = 8 := by unfold gErr; rw [if_pos (by rw [hgi, hgq]; exact .inr (.inr ⟨hi0, hle⟩))]
            refine J_run 200 ?_
            iterate 24 (all_goals (try (first
              | (exfalso; omega)
              | ((with_reducible refine J_draw (id := 7) 200 [] plan83_7 (by kernel_rfl) (by kernel_rfl) ?_); delta plan83_7)
              | (simp (maxSteps := 1000000) (disch := omega) only [go_sem, hgn, hi1, hgp])
              | ((with_reducible first | refine gDt ?_ ?_ | refine gDf ?_ ?_ | refine gNt ?_ ?_ | refine gNf ?_ ?_ | refine cD ?_ ?_ | refine cN ?_ ?_ | refine cB ?_ ?_ | refine gB ?_ ?_ | refine stepGuard_dect ?_ ?_ | refine stepGuard_decf ?_ ?_ | refine stepGuard_ndect ?_ ?_ | refine stepGuard_ndecf ?_ ?_ | refine stepGuard_by ?_ ?_) <;> intro h)
              | with_reducible first | refine And.intro ?_ ?_ | refine J_seq ?_ | refine J_block ?_ | refine J_inBlock ?_ | refine rC ?_ | refine rR ?_ | refine rE ?_ | refine rG ?_ | refine FinQ.now ?_ | refine FinQ.end ?_)))
            all_goals (rw [firstE_hit hlt hpre (by omega), hg8])
          · have hgv : gErr n gaps i = if gapK (n.devs[gaps[i].toNat]'(by omega)).kind = false then 6 else 0 := by
              unfold gErr
              rw [hgi, hgq, if_neg (by omega), getD_get]
            obtain ⟨b, hb⟩ : ∃ b, gapK (n.devs[gaps[i].toNat]'(by omega)).kind = b := ⟨_, rfl⟩
            rw [hb] at cg hgv
            cases b with
            | false =>
              refine J_run 200 ?_
              iterate 24 (all_goals (try (first
                | (exfalso; omega)
                | ((with_reducible refine J_draw (id := 7) 200 [] plan83_7 (by kernel_rfl) (by kernel_rfl) ?_); delta plan83_7)
                | ((with_reducible refine J_draw (id := 9) 200 [] plan83_9 (by kernel_rfl) (by kernel_rfl) ?_); delta plan83_9)
                | (simp (maxSteps := 1000000) (disch := omega) only [go_sem, hgn, hi1, hgp, hgd])
                | ((with_reducible refine CallA.pure cg ?_ ?_); (· simp (disch := omega) only [go_sem, hgn, hi1, hgp, hgd]); rintro _ _ ⟨rfl, rfl⟩)
                | ((with_reducible first | refine gDt ?_ ?_ | refine gDf ?_ ?_ | refine gNt ?_ ?_ | refine gNf ?_ ?_ | refine cD ?_ ?_ | refine cN ?_ ?_ | refine cB ?_ ?_ | refine gB ?_ ?_ | refine stepGuard_dect ?_ ?_ | refine stepGuard_decf ?_ ?_ | refine stepGuard_ndect ?_ ?_ | refine stepGuard_ndecf ?_ ?_ | refine stepGuard_by ?_ ?_) <;> intro h)
                | with_reducible first | refine And.intro ?_ ?_ | refine J_seq ?_ | refine J_block ?_ | refine J_inBlock ?_ | refine rC ?_ | refine rR ?_ | refine rE ?_ | refine rG ?_ | refine FinQ.now ?_ | refine FinQ.end ?_)))
              all_goals (rw [firstE_hit hlt hpre (by rw [hgv]; simp), hgv]; simp)
            | true =>
              refine J_run 200 ?_
              iterate 24 (all_goals (try (first
                | (exfalso; omega)
                | ((with_reducible refine J_draw (id := 7) 200 [] plan83_7 (by kernel_rfl) (by kernel_rfl) ?_); delta plan83_7)
                | ((with_reducible refine J_draw (id := 9) 200 [] plan83_9 (by kernel_rfl) (by kernel_rfl) ?_); delta plan83_9)
                | (simp (maxSteps := 1000000) (disch := omega) only [go_sem, hgn, hi1, hgp, hgd])
                | ((with_reducible refine CallA.pure cg ?_ ?_); (· simp (disch := omega) only [go_sem, hgn, hi1, hgp, hgd]); rintro _ _ ⟨rfl, rfl⟩)
                | ((with_reducible first | refine gDt ?_ ?_ | refine gDf ?_ ?_ | refine gNt ?_ ?_ | refine gNf ?_ ?_ | refine cD ?_ ?_ | refine cN ?_ ?_ | refine cB ?_ ?_ | refine gB ?_ ?_ | refine stepGuard_dect ?_ ?_ | refine stepGuard_decf ?_ ?_ | refine stepGuard_ndect ?_ ?_ | refine stepGuard_ndecf ?_ ?_ | refine stepGuard_by ?_ ?_) <;> intro h)
                | with_reducible first | refine And.intro ?_ ?_ | refine J_seq ?_ | refine J_block ?_ | refine J_inBlock ?_ | refine rC ?_ | refine rR ?_ | refine rE ?_ | refine rG ?_ | refine FinQ.now ?_ | refine FinQ.end ?_)))
              all_goals
                refine .mk (i + 1) ⟨hlt, fun j hj => ?_⟩ (by omega) (by simp [go_sem]) (by simp)
                rcases Nat.lt_succ_iff_lt_or_eq.1 hj with h3 | rfl
                · exact hpre j h3
                · simpa using hgv
        · have hgv : gErr n gaps i = if gapK (n.devs[gaps[i].toNat]'(by omega)).kind = false then 6 else 0 := by
            unfold gErr
            rw [hgi, if_neg (by omega), getD_get]
          have hgp := hgn
          have hi1 : ((i : Int) - 1).toNat = i - 1 := by omega
          obtain ⟨b, hb⟩ : ∃ b, gapK (n.devs[gaps[i].toNat]'(by omega)).kind = b := ⟨_, rfl⟩
          rw [hb] at cg hgv
          cases b with
          | false =>
            refine J_run 200 ?_
            iterate 24 (all_goals (try (first
              | (exfalso; omega)
              | ((with_reducible refine J_draw (id := 7) 200 [] plan83_7 (by kernel_rfl) (by kernel_rfl) ?_); delta plan83_7)
              | ((with_reducible refine J_draw (id := 9) 200 [] plan83_9 (by kernel_rfl) (by kernel_rfl) ?_); delta plan83_9)
              | (simp (maxSteps := 1000000) (disch := omega) only [go_sem, hgn, hi1, hgp, hgd])
              | ((with_reducible refine CallA.pure cg ?_ ?_); (· simp (disch := omega) only [go_sem, hgn, hi1, hgp, hgd]); rintro _ _ ⟨rfl, rfl⟩)
              | ((with_reducible first | refine gDt ?_ ?_ | refine gDf ?_ ?_ | refine gNt ?_ ?_ | refine gNf ?_ ?_ | refine cD ?_ ?_ | refine cN ?_ ?_ | refine cB ?_ ?_ | refine gB ?_ ?_ | refine stepGuard_dect ?_ ?_ | refine stepGuard_decf ?_ ?_ | refine stepGuard_ndect ?_ ?_ | refine stepGuard_ndecf ?_ ?_ | refine stepGuard_by ?_ ?_) <;> intro h)
              | with_reducible first | refine And.intro ?_ ?_ | refine J_seq ?_ | refine J_block ?_ | refine J_inBlock ?_ | refine rC ?_ | refine rR ?_ | refine rE ?_ | refine rG ?_ | refine FinQ.now ?_ | refine FinQ.end ?_)))
            all_goals (rw [firstE_hit hlt hpre (by rw [hgv]; simp), hgv]; simp)
          | true =>
            refine J_run 200 ?_
            iterate 24 (all_goals (try (first
              | (exfalso; omega)
              | ((with_reducible refine J_draw (id := 7) 200 [] plan83_7 (by kernel_rfl) (by kernel_rfl) ?_); delta plan83_7)
              | ((with_reducible refine J_draw (id := 9) 200 [] plan83_9 (by kernel_rfl) (by kernel_rfl) ?_); delta plan83_9)
              | (simp (maxSteps := 1000000) (disch := omega) only [go_sem, hgn, hi1, hgp, hgd])
              | ((with_reducible refine CallA.pure cg ?_ ?_); (· simp (disch := omega) only [go_sem, hgn, hi1, hgp, hgd]); rintro _ _ ⟨rfl, rfl⟩)
              | ((with_reducible first | refine gDt ?_ ?_ | refine gDf ?_ ?_ | refine gNt ?_ ?_ | refine gNf ?_ ?_ | refine cD ?_ ?_ | refine cN ?_ ?_ | refine cB ?_ ?_ | refine gB ?_ ?_ | refine stepGuard_dect ?_ ?_ | refine stepGuard_decf ?_ ?_ | refine stepGuard_ndect ?_ ?_ | refine stepGuard_ndecf ?_ ?_ | refine stepGuard_by ?_ ?_) <;> intro h)
              | with_reducible first | refine And.intro ?_ ?_ | refine J_seq ?_ | refine J_block ?_ | refine J_inBlock ?_ | refine rC ?_ | refine rR ?_ | refine rE ?_ | refine rG ?_ | refine FinQ.now ?_ | refine FinQ.end ?_)))
            all_goals
              refine .mk (i + 1) ⟨hlt, fun j hj => ?_⟩ (by omega) (by simp [go_sem]) (by simp)
              rcases Nat.lt_succ_iff_lt_or_eq.1 hj with h3 | rfl
              · exact hpre j h3
              · simpa using hgv
    · refine J_run 200 ?_
      iterate 12 (all_goals (try (first
        | (simp (maxSteps := 1000000) (disch := omega) only [go_sem])
        | ((with_reducible first | refine gDt ?_ ?_ | refine gDf ?_ ?_ | refine gNt ?_ ?_ | refine gNf ?_ ?_ | refine cD ?_ ?_ | refine cN ?_ ?_ | refine cB ?_ ?_ | refine gB ?_ ?_) <;> intro h)
        | with_reducible first | refine And.intro ?_ ?_ | refine J_seq ?_ | refine J_block ?_ | refine J_inBlock ?_ | refine rC ?_ | refine rR ?_ | refine rE ?_ | refine rG ?_ | refine FinQ.now ?_ | refine FinQ.end ?_)))
      rw [firstE_none fun j hj => hpre j (by omega)]
  · have hf : fault n zone gaps = zoneChk n zone := by unfold fault; rw [if_pos h0]
    rw [hf]
    refine holds_of Tryd.func83 rfl rfl ?_
    refine J_run 200 ?_
    delta Tryd.f83
    simp only [encNet] at c ⊢
    iterate 12 (all_goals (try (first
      | (simp (maxSteps := 1000000) (disch := omega) only [go_sem, h0, ne_eq, not_false_eq_true, decide_true])
      | ((with_reducible refine CallA.pure c ?_ ?_); (· simp (disch := omega) only [go_sem, h0, ne_eq, not_false_eq_true, decide_true]); rintro _ _ ⟨rfl, rfl⟩)
      | ((with_reducible first | refine gDt ?_ ?_ | refine gDf ?_ ?_ | refine gNt ?_ ?_ | refine gNf ?_ ?_ | refine cD ?_ ?_ | refine cN ?_ ?_ | refine cB ?_ ?_ | refine gB ?_ ?_) <;> intro h)
      | with_reducible first | refine And.intro ?_ ?_ | refine J_seq ?_ | refine J_block ?_ | refine J_inBlock ?_ | refine rC ?_ | refine rR ?_ | refine rE ?_ | refine rG ?_ | refine FinQ.now ?_ | refine FinQ.end ?_)))
theorem rRegion (n : Net) (hs : n.sized) (zone gaps : List Int) (hzl : zone.length ≤ 1000000) (hgl : gaps.length ≤ 1000000) :
    Fn1 Tryd.prog GT0 60 [.agg (encNet n), .lst 1 (zone.map encN), .lst 1 (gaps.map encN)] (.tup [.lst 1 ((regionR n zone gaps).1.map encN), .raw (.int .i64 (regionR n zone gaps).2)]) [] := by
  have c := rFault15 n hs zone gaps hzl hgl
  by_cases h0 : fault n zone gaps = 0
  · obtain ⟨hn, hz0, hz⟩ := zoneChk_zero (fault_zone h0)
    have ce := rReach n hn zone gaps (fun x hx => rising_mem hz hx) hzl hgl
    have hr : regionR n zone gaps = (regL n zone gaps, 0) := by unfold regionR; rw [if_neg (by simp [h0])]
    rw [h0] at c
    rw [hr]
    refine holds_of Tryd.func60 rfl rfl ?_
    refine J_run 200 ?_
    delta Tryd.f60
    simp only [encNet] at c ce ⊢
    iterate 16 (all_goals (try (first
      | (simp (maxSteps := 1000000) (disch := omega) only [go_sem])
      | ((with_reducible refine CallA.pure c ?_ ?_); (· simp (disch := omega) only [go_sem]); rintro _ _ ⟨rfl, rfl⟩)
      | ((with_reducible refine CallA.pure ce ?_ ?_); (· simp (disch := omega) only [go_sem]); rintro _ _ ⟨rfl, rfl⟩)
      | ((with_reducible first | refine gDt ?_ ?_ | refine gDf ?_ ?_ | refine gNt ?_ ?_ | refine gNf ?_ ?_ | refine cD ?_ ?_ | refine cN ?_ ?_ | refine cB ?_ ?_ | refine gB ?_ ?_) <;> intro h)
      | with_reducible first | refine And.intro ?_ ?_ | refine J_seq ?_ | refine J_block ?_ | refine J_inBlock ?_ | refine rC ?_ | refine rR ?_ | refine rE ?_ | refine rG ?_ | refine FinQ.now ?_ | refine FinQ.end ?_)))
  · have hr : regionR n zone gaps = ([], fault n zone gaps) := by unfold regionR; rw [if_pos h0]
    rw [hr]
    refine holds_ofV Tryd.func60 rfl rfl ?_
    refine J_run 200 ?_
    delta Tryd.f60
    simp only [encNet] at c ⊢
    iterate 12 (all_goals (try (first
      | (simp (maxSteps := 1000000) (disch := omega) only [go_sem, h0, ne_eq, not_false_eq_true, decide_true])
      | ((with_reducible refine CallA.pure c ?_ ?_); (· simp (disch := omega) only [go_sem, h0, ne_eq, not_false_eq_true, decide_true]); rintro _ _ ⟨rfl, rfl⟩)
      | ((with_reducible first | refine gDt ?_ ?_ | refine gDf ?_ ?_ | refine gNt ?_ ?_ | refine gNf ?_ ?_ | refine cD ?_ ?_ | refine cN ?_ ?_ | refine cB ?_ ?_ | refine gB ?_ ?_) <;> intro h)
      | with_reducible first | refine And.intro ?_ ?_ | refine J_seq ?_ | refine J_block ?_ | refine J_inBlock ?_ | refine rC ?_ | refine rR ?_ | refine rE ?_ | refine rG ?_ | refine FinQ.now ?_ | refine FinQ.end ?_)))
    exact ⟨_, .tup (.cons (.nilLst 1) (VLes.refl _)), rfl, rfl⟩
theorem regLen {n : Net} {z g : List Int} : (regL n z g).length ≤ n.nodes.length := by
  unfold regL trues
  rw [List.length_map, regB_len]
  exact Nat.le_trans (List.length_filter_le _ _) (by simp)
theorem enoughB_not {n : Net} {zone gaps : List Int} {i : Nat} (hi : i < n.devs.length) (hk : n.devs[i].kind = 5 ∨ (n.devs[i].kind = 6 ∧ (i : Int) ∉ gaps)) (hr : RG n zone gaps n.devs[i].a.toNat) : enoughB n zone gaps = false := by
  rw [enoughB, decide_eq_false_iff_not]
  exact fun h => h i _ (List.getElem?_eq_getElem hi) hk hr
set_option maxHeartbeats 8000000 in
theorem rEnough (n : Net) (hs : n.sized) (zone gaps : List Int) (hzl : zone.length ≤ 1000000) (hgl : gaps.length ≤ 1000000) :
    Fn1 Tryd.prog GT0 42 [.agg (encNet n), .lst 1 (zone.map encN), .lst 1 (gaps.map encN)] (.tup [.raw (.bool (enoughR n zone gaps).1), .raw (.int .i64 (enoughR n zone gaps).2)]) [] := by
  have c := rRegion n hs zone gaps hzl hgl
  by_cases h0 : fault n zone gaps = 0
  · obtain ⟨hn, hz0, hz⟩ := zoneChk_zero (fault_zone h0)
    have hnl := hn.nl
    have hdl := hn.dl
    have hr : regionR n zone gaps = (regL n zone gaps, 0) := by unfold regionR; rw [if_neg (by simp [h0])]
    have he : enoughR n zone gaps = (enoughB n zone gaps, 0) := by unfold enoughR; rw [if_neg (by simp [h0])]
    have hrl := regLen (n := n) (z := zone) (g := gaps)
    rw [hr] at c
    rw [he]
    refine holds_of Tryd.func42 rfl rfl ?_
    refine J_run 200 ?_
    delta Tryd.f42
    simp only [encNet] at c ⊢
    iterate 16 (all_goals (try (first
      | (simp (maxSteps := 1000000) (disch := omega) only [go_sem])
      | ((with_reducible refine CallA.pure c ?_ ?_); (· simp (disch := omega) only [go_sem]); rintro _ _ ⟨rfl, rfl⟩)
      | ((with_reducible first | refine gDt ?_ ?_ | refine gDf ?_ ?_ | refine gNt ?_ ?_ | refine gNf ?_ ?_ | refine cD ?_ ?_ | refine cN ?_ ?_ | refine cB ?_ ?_ | refine gB ?_ ?_) <;> intro h)
      | with_reducible first | refine And.intro ?_ ?_ | refine J_seq ?_ | refine J_block ?_ | refine J_inBlock ?_ | refine rC ?_ | refine rR ?_ | refine rE ?_ | refine rG ?_ | refine FinQ.now ?_ | refine FinQ.end ?_)))
    refine J_for ([11] ++ upto 22 54) (fun i : Nat => [(10, .raw (.int .i64 i))]) (fun _ => [.box (encNet n)]) (fun i => i ≤ n.devs.length ∧ ∀ j (hj : j < n.devs.length), j < i → (n.devs[j].kind = 5 ∨ (n.devs[j].kind = 6 ∧ (j : Int) ∉ gaps)) → ¬ RG n zone gaps n.devs[j].a.toNat) (fun i => n.devs.length - i) 0 ⟨by omega, fun j _ hj => absurd hj (by omega)⟩ (.le (by simp [go_sem, encNet]) (by simp)) ?_
    rintro i ⟨hi, hpre⟩
    simp only [encNet]
    by_cases hlt : i < n.devs.length
    · have hdv := getD_Dv hlt
      have hok := hn.dev' hlt
      have ha0 := hok.a0
      have ch := has (regL n zone gaps) n.devs[i].a (by omega)
      have cb := has gaps i (by omega)
      have hm := regL_mem hn (gaps := gaps) hz (x := n.devs[i].a)
      have go : (¬ ((n.devs[i].kind = 5 ∨ (n.devs[i].kind = 6 ∧ (i : Int) ∉ gaps)) ∧ RG n zone gaps n.devs[i].a.toNat)) → ∀ j (hj : j < n.devs.length), j < i + 1 → (n.devs[j].kind = 5 ∨ (n.devs[j].kind = 6 ∧ (j : Int) ∉ gaps)) → ¬ RG n zone gaps n.devs[j].a.toNat := fun hx j hj hji h1 h2 => by
        rcases Nat.lt_succ_iff_lt_or_eq.1 hji with h3 | rfl
        · exact hpre j hj h3 h1 h2
        · exact hx ⟨h1, h2⟩
      by_cases hr2 : RG n zone gaps n.devs[i].a.toNat
      · rw [decide_eq_true (hm.2 ⟨ha0, hr2⟩)] at ch
        by_cases h5 : n.devs[i].kind = 5
        · have hef := enoughB_not hlt (.inl h5) hr2
          refine J_run 200 ?_
          iterate 20 (all_goals (try (first
            | (simp (maxSteps := 1000000) (disch := omega) only [go_sem, hdv, h5, decide_true])
            | ((with_reducible refine CallA.pure ch ?_ ?_); (· simp (disch := omega) only [go_sem, hdv, h5, decide_true]); rintro _ _ ⟨rfl, rfl⟩)
            | ((with_reducible first | refine gDt ?_ ?_ | refine gDf ?_ ?_ | refine gNt ?_ ?_ | refine gNf ?_ ?_ | refine cD ?_ ?_ | refine cN ?_ ?_ | refine cB ?_ ?_ | refine gB ?_ ?_) <;> intro h)
            | with_reducible first | refine And.intro ?_ ?_ | refine J_seq ?_ | refine J_block ?_ | refine J_inBlock ?_ | refine rC ?_ | refine rR ?_ | refine rE ?_ | refine rG ?_ | refine FinQ.now ?_ | refine FinQ.end ?_)))
          all_goals rw [hef]
        · by_cases h6 : n.devs[i].kind = 6
          · by_cases hb : (i : Int) ∈ gaps
            · rw [decide_eq_true hb] at cb
              refine J_run 200 ?_
              iterate 20 (all_goals (try (first
                | (simp (maxSteps := 1000000) (disch := omega) only [go_sem, hdv, h6])
                | ((with_reducible refine CallA.pure ch ?_ ?_); (· simp (disch := omega) only [go_sem, hdv, h6]); rintro _ _ ⟨rfl, rfl⟩)
                | ((with_reducible refine CallA.pure cb ?_ ?_); (· simp (disch := omega) only [go_sem, hdv, h6]); rintro _ _ ⟨rfl, rfl⟩)
                | ((with_reducible first | refine gDt ?_ ?_ | refine gDf ?_ ?_ | refine gNt ?_ ?_ | refine gNf ?_ ?_ | refine cD ?_ ?_ | refine cN ?_ ?_ | refine cB ?_ ?_ | refine gB ?_ ?_) <;> intro h)
                | with_reducible first | refine And.intro ?_ ?_ | refine J_seq ?_ | refine J_block ?_ | refine J_inBlock ?_ | refine rC ?_ | refine rR ?_ | refine rE ?_ | refine rG ?_ | refine FinQ.now ?_ | refine FinQ.end ?_)))
              refine .mk (i + 1) ⟨hlt, go (fun h => h.1.elim (fun h => h5 h) fun h => h.2 hb)⟩ (by omega) ?_ ?_
              · simp [go_sem, encNet]
              · simp
            · rw [decide_eq_false hb] at cb
              have hef := enoughB_not hlt (.inr ⟨h6, hb⟩) hr2
              refine J_run 200 ?_
              iterate 20 (all_goals (try (first
                | (simp (maxSteps := 1000000) (disch := omega) only [go_sem, hdv, h6])
                | ((with_reducible refine CallA.pure ch ?_ ?_); (· simp (disch := omega) only [go_sem, hdv, h6]); rintro _ _ ⟨rfl, rfl⟩)
                | ((with_reducible refine CallA.pure cb ?_ ?_); (· simp (disch := omega) only [go_sem, hdv, h6]); rintro _ _ ⟨rfl, rfl⟩)
                | ((with_reducible first | refine gDt ?_ ?_ | refine gDf ?_ ?_ | refine gNt ?_ ?_ | refine gNf ?_ ?_ | refine cD ?_ ?_ | refine cN ?_ ?_ | refine cB ?_ ?_ | refine gB ?_ ?_) <;> intro h)
                | with_reducible first | refine And.intro ?_ ?_ | refine J_seq ?_ | refine J_block ?_ | refine J_inBlock ?_ | refine rC ?_ | refine rR ?_ | refine rE ?_ | refine rG ?_ | refine FinQ.now ?_ | refine FinQ.end ?_)))
              all_goals rw [hef]
          · refine J_run 200 ?_
            iterate 20 (all_goals (try (first
              | (simp (maxSteps := 1000000) (disch := omega) only [go_sem, hdv, h5, h6, decide_false])
              | ((with_reducible refine CallA.pure ch ?_ ?_); (· simp (disch := omega) only [go_sem, hdv, h5, h6, decide_false]); rintro _ _ ⟨rfl, rfl⟩)
              | ((with_reducible first | refine gDt ?_ ?_ | refine gDf ?_ ?_ | refine gNt ?_ ?_ | refine gNf ?_ ?_ | refine cD ?_ ?_ | refine cN ?_ ?_ | refine cB ?_ ?_ | refine gB ?_ ?_) <;> intro h)
              | with_reducible first | refine And.intro ?_ ?_ | refine J_seq ?_ | refine J_block ?_ | refine J_inBlock ?_ | refine rC ?_ | refine rR ?_ | refine rE ?_ | refine rG ?_ | refine FinQ.now ?_ | refine FinQ.end ?_)))
            refine .mk (i + 1) ⟨hlt, go (fun h => h.1.elim h5 fun h => h6 h.1)⟩ (by omega) ?_ ?_
            · simp [go_sem, encNet]
            · simp
      · rw [decide_eq_false (fun h => hr2 (hm.1 h).2)] at ch
        refine J_run 200 ?_
        iterate 20 (all_goals (try (first
          | (simp (maxSteps := 1000000) (disch := omega) only [go_sem, hdv])
          | ((with_reducible refine CallA.pure ch ?_ ?_); (· simp (disch := omega) only [go_sem, hdv]); rintro _ _ ⟨rfl, rfl⟩)
          | ((with_reducible first | refine gDt ?_ ?_ | refine gDf ?_ ?_ | refine gNt ?_ ?_ | refine gNf ?_ ?_ | refine cD ?_ ?_ | refine cN ?_ ?_ | refine cB ?_ ?_ | refine gB ?_ ?_) <;> intro h)
          | with_reducible first | refine And.intro ?_ ?_ | refine J_seq ?_ | refine J_block ?_ | refine J_inBlock ?_ | refine rC ?_ | refine rR ?_ | refine rE ?_ | refine rG ?_ | refine FinQ.now ?_ | refine FinQ.end ?_)))
        refine .mk (i + 1) ⟨hlt, go (fun h => hr2 h.2)⟩ (by omega) ?_ ?_
        · simp [go_sem, encNet]
        · simp
    · have het : enoughB n zone gaps = true := by
        simp only [enoughB, decide_eq_true_eq]
        intro j d hd hk
        obtain ⟨hj, rfl⟩ := List.getElem?_eq_some_iff.1 hd
        exact hpre j hj (by omega) hk
      rw [het]
      refine J_run 200 ?_
      iterate 12 (all_goals (try (first
        | (simp (maxSteps := 1000000) (disch := omega) only [go_sem])
        | ((with_reducible first | refine gDt ?_ ?_ | refine gDf ?_ ?_ | refine gNt ?_ ?_ | refine gNf ?_ ?_ | refine cD ?_ ?_ | refine cN ?_ ?_ | refine cB ?_ ?_ | refine gB ?_ ?_) <;> intro h)
        | with_reducible first | refine And.intro ?_ ?_ | refine J_seq ?_ | refine J_block ?_ | refine J_inBlock ?_ | refine rC ?_ | refine rR ?_ | refine rE ?_ | refine rG ?_ | refine FinQ.now ?_ | refine FinQ.end ?_)))
  · have hr : regionR n zone gaps = ([], fault n zone gaps) := by unfold regionR; rw [if_pos h0]
    have he : enoughR n zone gaps = (false, fault n zone gaps) := by unfold enoughR; rw [if_pos h0]
    rw [hr] at c
    rw [he]
    refine holds_of Tryd.func42 rfl rfl ?_
    refine J_run 200 ?_
    delta Tryd.f42
    simp only [encNet] at c ⊢
    iterate 12 (all_goals (try (first
      | (simp (maxSteps := 1000000) (disch := omega) only [go_sem, h0, ne_eq, not_false_eq_true, decide_true])
      | ((with_reducible refine CallA.pure c ?_ ?_); (· simp (disch := omega) only [go_sem, h0, ne_eq, not_false_eq_true, decide_true]); rintro _ _ ⟨rfl, rfl⟩)
      | ((with_reducible first | refine gDt ?_ ?_ | refine gDf ?_ ?_ | refine gNt ?_ ?_ | refine gNf ?_ ?_ | refine cD ?_ ?_ | refine cN ?_ ?_ | refine cB ?_ ?_ | refine gB ?_ ?_) <;> intro h)
      | with_reducible first | refine And.intro ?_ ?_ | refine J_seq ?_ | refine J_block ?_ | refine J_inBlock ?_ | refine rC ?_ | refine rR ?_ | refine rE ?_ | refine rG ?_ | refine FinQ.now ?_ | refine FinQ.end ?_)))
end Go.Proofs.YtfkiomkfoabnhaaDoor.Abs
