/- ZonePoints, walked: it returns true. -/
import Derived.Test.YtangkndckghblaaDoorZPA
import Derived.Test.YtangkndckghblaaDoorR4
import Derived.Test.YtangkndckghblaaDoorZMore
namespace Go.Proofs.YtangkndckghblaaDoor.Abs
set_option linter.unusedSimpArgs false
set_option linter.unusedVariables false
set_option maxRecDepth 100000
open Go Go.RowKit

/-- A list of gaps, so far. -/
structure GL (n : Net) (i : Nat) (gl : List Int) : Prop where
  up : rising gl i = true
  gap : ∀ g, g ∈ gl → gapK (n.devs.getD g.toNat ⟨⟨#[]⟩, 0, 0, 0, 0⟩).kind = true
theorem GL.skip {n : Net} {i : Nat} {gl : List Int} (h : GL n i gl) : GL n (i + 1) gl := ⟨rising_mono h.up (by omega), h.gap⟩
theorem GL.push {n : Net} {i : Nat} {gl : List Int} (h : GL n i gl) (hi : i < n.devs.length) (hg : gapK n.devs[i].kind = true) : GL n (i + 1) (gl ++ [(i : Int)]) :=
  ⟨rising_snoc h.up (by omega) (by omega), fun g hm => by
    rcases List.mem_append.1 hm with hm | hm
    · exact h.gap g hm
    · rw [List.mem_singleton] at hm; subst hm; rw [Int.toNat_natCast, getD_get hi]; exact hg⟩
set_option maxHeartbeats 8000000 in
theorem zonePoints (l : List Int) (hl : NumsOk l) : Fn1 Tryd.prog GT0 8 [.lst 1 (l.map encN)] (.raw (.bool true)) [] := by
  have ca := awake15
  have cf := few l hl.len
  by_cases h400 : l.length ≤ 400
  · have cn := newDeck l
    rw [decide_eq_true h400] at cf
    have cw := networkD _ hl.deck 7 12 (by omega) (by omega)
    refine holds_of Tryd.func8 rfl rfl ?_
    refine J_run 200 ?_
    delta Tryd.f8
    iterate 6 (all_goals (try (first
      | (simp (maxSteps := 1000000) (disch := omega) only [go_sem])
      | ((with_reducible refine CallA.pure cf ?_ ?_); (· simp (disch := omega) only [go_sem]); rintro _ _ ⟨rfl, rfl⟩)
      | ((with_reducible refine CallA.pure cn ?_ ?_); (· simp (disch := omega) only [go_sem]); rintro _ _ ⟨rfl, rfl⟩)
      | ((with_reducible first | refine gDt ?_ ?_ | refine gDf ?_ ?_ | refine gNt ?_ ?_ | refine gNf ?_ ?_ | refine cD ?_ ?_ | refine cN ?_ ?_ | refine cB ?_ ?_ | refine gB ?_ ?_) <;> intro h)
      | with_reducible first | refine And.intro ?_ ?_ | refine J_seq ?_ | refine J_block ?_ | refine J_inBlock ?_ | refine rC ?_ | refine rR ?_ | refine rE ?_ | refine rG ?_ | refine FinQ.now ?_ | refine FinQ.end ?_)))
    refine CallA.mut [0] ?_ ?_ ?_ ?_ cw ?_
    · simp only [go_sem]
    · simp only [go_sem]
    · simp only [go_sem]
    · simp only [go_sem]
    rintro _ _ ⟨n, k, d1, hd1, hM, hk2, hk7, hdl, hd1', rfl, rfl⟩
    have hnl := hM.nl
    have hno := hM.ok (by omega) (by omega)
    simp only [encNet]
    iterate 6 (all_goals (try (first
      | (simp (maxSteps := 1000000) (disch := omega) only [go_sem])
      | ((with_reducible first | refine gDt ?_ ?_ | refine gDf ?_ ?_ | refine gNt ?_ ?_ | refine gNf ?_ ?_ | refine cD ?_ ?_ | refine cN ?_ ?_ | refine cB ?_ ?_ | refine gB ?_ ?_) <;> intro h)
      | with_reducible first | refine And.intro ?_ ?_ | refine J_seq ?_ | refine J_block ?_ | refine J_inBlock ?_ | refine rC ?_ | refine rR ?_ | refine rE ?_ | refine rG ?_ | refine FinQ.now ?_ | refine FinQ.end ?_)))
    refine J_sem (SemLe.nilName 5 3 (by simp only [go_sem])) ?_
    simp only [go_sem]
    refine J_for ([6, 7] ++ upto 38 56) (fun x : Nat × List Int × Dk => [(37, .raw (.int .i64 x.1)), (5, .own 2 3 0 x.2.1.length)]) (fun x => [.box (encDk x.2.2), .box (encNet n), .arr 3 ((x.2.1.map ownLk).map encLk)]) (fun x => x.1 ≤ n.devs.length ∧ GL n x.1 x.2.1 ∧ x.2.2.ok) (fun x => n.devs.length - x.1) (0, [], d1) ⟨by simp only; omega, ⟨rfl, fun _ h => (by cases h)⟩, hd1⟩ (.le (by simp [go_sem, encNet]) (by simp)) ?_
    rintro ⟨i, gl, d3⟩ ⟨hi, hG, hd3⟩
    have hlg := rising_len (by omega) hG.up
    simp only [encNet] at hi hlg hG hd3 ⊢
    by_cases hlt : i < n.devs.length
    · have hdv := getD_DvL hlt
      have cg := refGap n.devs[i].kind
      obtain ⟨gk, hgk⟩ : ∃ o, gapK n.devs[i].kind = o := ⟨_, rfl⟩
      rw [hgk] at cg
      cases gk with
      | false =>
        refine J_run 200 ?_
        iterate 14 (all_goals (try (first
          | (simp (maxSteps := 1000000) (disch := omega) only [go_sem, hdv])
          | ((with_reducible refine CallA.pure cg ?_ ?_); (· simp (disch := omega) only [go_sem, hdv]); rintro _ _ ⟨rfl, rfl⟩)
          | ((with_reducible first | refine gDt ?_ ?_ | refine gDf ?_ ?_ | refine gNt ?_ ?_ | refine gNf ?_ ?_ | refine cD ?_ ?_ | refine cN ?_ ?_ | refine cB ?_ ?_ | refine gB ?_ ?_) <;> intro h)
          | with_reducible first | refine And.intro ?_ ?_ | refine J_seq ?_ | refine J_block ?_ | refine J_inBlock ?_ | refine rC ?_ | refine rR ?_ | refine rE ?_ | refine rG ?_ | refine FinQ.now ?_ | refine FinQ.end ?_)))
        refine .mk (i + 1, gl, d3) ⟨by simp only; omega, hG.skip, hd3⟩ (by simp only; omega) ?_ ?_
        · simp [go_sem, encNet]
        · simp
      | true =>
        have co := fun (d : Dk) (hd : d.ok) => one d hd 4 (by decide)
        refine J_run 200 ?_
        iterate 20 (all_goals (try (first
          | (simp (maxSteps := 1000000) (disch := omega) only [go_sem, hdv])
          | ((with_reducible refine CallA.pure cg ?_ ?_); (· simp (disch := omega) only [go_sem, hdv]); rintro _ _ ⟨rfl, rfl⟩)
          | ((with_reducible refine CallA.mut [0] ?_ ?_ ?_ ?_ (co _ (by assumption)) ?_); (· simp (disch := omega) only [go_sem, hdv]); (· simp (disch := omega) only [go_sem, hdv]); (· simp (disch := omega) only [go_sem, hdv]); (· simp (disch := omega) only [go_sem, hdv]); rintro _ _ ⟨(_|_), d4, hd4, rfl, rfl⟩)
          | ((with_reducible first | refine gDt ?_ ?_ | refine gDf ?_ ?_ | refine gNt ?_ ?_ | refine gNf ?_ ?_ | refine cD ?_ ?_ | refine cN ?_ ?_ | refine cB ?_ ?_ | refine gB ?_ ?_) <;> intro h)
          | with_reducible first | refine And.intro ?_ ?_ | refine J_seq ?_ | refine J_block ?_ | refine J_inBlock ?_ | refine rC ?_ | refine rR ?_ | refine rE ?_ | refine rG ?_ | refine FinQ.now ?_ | refine FinQ.end ?_)))
        all_goals first
          | (refine LoopEnd.mk (i + 1, gl ++ [(i : Int)], d4) ⟨by simp only; omega, hG.push hlt hgk, hd4⟩ (by simp only; omega) ?_ ?_; (· simp [go_sem, encNet, encLk, ownLk]; done); (· simp))
          | (refine LoopEnd.mk (i + 1, gl, d4) ⟨by simp only; omega, hG.skip, hd4⟩ (by simp only; omega) ?_ ?_; (· simp [go_sem, encNet]; done); (· simp))
    have hie : i = n.devs.length := by omega
    subst hie
    have hGg : Gaps n gl := ⟨hG.up, hG.gap⟩
    have cz := zoneD d3 hd3 n (by omega) (by omega)
    simp only [encNet] at cz
    refine J_run 200 ?_
    iterate 8 (all_goals (try (first
      | (simp (maxSteps := 1000000) (disch := omega) only [go_sem])
      | ((with_reducible first | refine gDt ?_ ?_ | refine gDf ?_ ?_ | refine gNt ?_ ?_ | refine gNf ?_ ?_ | refine cD ?_ ?_ | refine cN ?_ ?_ | refine cB ?_ ?_ | refine gB ?_ ?_) <;> intro h)
      | with_reducible first | refine And.intro ?_ ?_ | refine J_seq ?_ | refine J_block ?_ | refine J_inBlock ?_ | refine rC ?_ | refine rR ?_ | refine rE ?_ | refine rG ?_ | refine FinQ.now ?_ | refine FinQ.end ?_)))
    refine CallA.mut [0] ?_ ?_ ?_ ?_ cz ?_
    · simp only [go_sem]
    · simp only [go_sem]
    · simp only [go_sem]
    · simp only [go_sem]
    rintro _ _ ⟨z, d2, hd2, hz0, hz, rfl, rfl⟩
    have hzl := rising_len (by omega) hz
    have hn : zoneChk n z = 0 := zoneChk_ok hno hz0 hz
    have hLk := locks_iff.2 (own_locks hno hGg)
    have hgo := own_gaps hGg
    have hle : lockedE n (gl.map ownLk) z = 0 := by unfold lockedE; rw [if_neg (by simp [hLk]), hn]
    have cI := isolatedF n hno.sized (gl.map ownLk) (by simp; omega) z (by omega)
    have cP := pointsF n hno.sized (gl.map ownLk) (by simp; omega) z (by omega)
    have eI : isolatedR n (gl.map ownLk) z = (enoughB n z gl, 0) := by unfold isolatedR; rw [if_neg (by simp [hle]), hgo]
    have eP : pointsR n (gl.map ownLk) z = (gl.filter (atB n z gl), 0) := by unfold pointsR; rw [if_neg (by simp [hle]), hgo]
    obtain ⟨pts, hpts⟩ : ∃ p, gl.filter (atB n z gl) = p := ⟨_, rfl⟩
    have hPg : Gaps n pts := by rw [← hpts]; exact hGg.filter _
    have hpl : pts.length ≤ gl.length := by rw [← hpts]; exact List.length_filter_le _ _
    have hne : enoughB n z pts = enoughB n z gl := by rw [← hpts]; exact near_enough
    have cE := EnoughF n hno.sized z pts (by omega) (by omega)
    have cR := RegionF n hno.sized z pts (by omega) (by omega)
    rw [eI] at cI
    rw [eP, hpts] at cP
    rw [enoughR_ok hn hPg, hne] at cE
    rw [regionR_ok hn hPg] at cR
    obtain ⟨b, hb⟩ : ∃ b, enoughB n z gl = b := ⟨_, rfl⟩
    rw [hb] at cI cE hne
    simp only [encNet] at cI cP cE cR
    have tk : List.take gl.length (List.map encLk (List.map ownLk gl)) = List.map encLk (List.map ownLk gl) := List.take_of_length_le (by simp)
    iterate 14 (all_goals (try (first
      | (simp (maxSteps := 1000000) (disch := omega) only [go_sem, tk])
      | ((with_reducible refine CallA.give [2] ?_ ?_ cI ?_); (· simp (disch := omega) only [go_sem, tk]); (· simp (disch := omega) only [go_sem, tk]); rintro _ _ ⟨rfl, rfl⟩)
      | ((with_reducible refine CallA.pure cP ?_ ?_); (· simp (disch := omega) only [go_sem, tk]); rintro _ _ ⟨rfl, rfl⟩)
      | ((with_reducible refine CallA.pure cE ?_ ?_); (· simp (disch := omega) only [go_sem, tk]); rintro _ _ ⟨rfl, rfl⟩)
      | ((with_reducible first | refine gDt ?_ ?_ | refine gDf ?_ ?_ | refine gNt ?_ ?_ | refine gNf ?_ ?_ | refine cD ?_ ?_ | refine cN ?_ ?_ | refine cB ?_ ?_ | refine gB ?_ ?_) <;> intro h)
      | with_reducible first | refine And.intro ?_ ?_ | refine J_seq ?_ | refine J_block ?_ | refine J_inBlock ?_ | refine rC ?_ | refine rR ?_ | refine rE ?_ | refine FinQ.now ?_ | refine FinQ.end ?_)))
    refine J_mergeN 2 (upto 81 95) (fun _ : Unit => []) (fun _ => [.box (encDk d2), .box (encNet n)]) (fun _ => True) ?_ ?_
    · simp only [go_sem]
      refine J_reg 200 ?_
      cases b
      all_goals
        iterate 16 (all_goals (try (first
          | (simp (maxSteps := 1000000) (disch := omega) only [go_sem])
          | ((with_reducible first | refine gDt ?_ ?_ | refine gDf ?_ ?_ | refine gNt ?_ ?_ | refine gNf ?_ ?_ | refine cD ?_ ?_ | refine cN ?_ ?_ | refine cB ?_ ?_ | refine gB ?_ ?_) <;> intro h)
          | with_reducible first | refine And.intro ?_ ?_ | refine J_seq ?_ | refine J_block ?_ | refine J_inBlock ?_ | refine rC ?_ | refine rR ?_ | refine rE ?_ | refine rG ?_ | refine FinQ.now ?_ | refine FinQ.end ?_)))
        refine .mk () trivial ?_ ?_
        · simp [go_sem, encNet]
        · simp
    rintro _ _
    simp only [go_sem, encNet]
    refine J_run 200 ?_
    iterate 6 (all_goals (try (first
      | (simp (maxSteps := 1000000) (disch := omega) only [go_sem])
      | ((with_reducible first | refine gDt ?_ ?_ | refine gDf ?_ ?_ | refine gNt ?_ ?_ | refine gNf ?_ ?_ | refine cD ?_ ?_ | refine cN ?_ ?_ | refine cB ?_ ?_ | refine gB ?_ ?_) <;> intro h)
      | with_reducible first | refine And.intro ?_ ?_ | refine J_seq ?_ | refine J_block ?_ | refine J_inBlock ?_ | refine rC ?_ | refine rR ?_ | refine rE ?_ | refine rG ?_ | refine FinQ.now ?_ | refine FinQ.end ?_)))
    refine J_for ([16, 17, 18, 19] ++ upto 20 25 ++ upto 99 161) (fun i : Nat => [(98, .raw (.int .i64 i))]) (fun _ => [.box (encDk d2), .box (encNet n)]) (fun i => i ≤ pts.length) (fun i => pts.length - i) 0 (by omega) (.le (by simp [go_sem, encNet]) (by simp)) ?_
    intro i hi
    simp only [encNet]
    by_cases hlt : i < pts.length
    · have hgi := getD_N hlt
      refine J_run 200 ?_
      iterate 10 (all_goals (try (first
        | (simp (maxSteps := 1000000) (disch := omega) only [go_sem, hgi])
        | ((with_reducible first | refine gDt ?_ ?_ | refine gDf ?_ ?_ | refine gNt ?_ ?_ | refine gNf ?_ ?_ | refine cD ?_ ?_ | refine cN ?_ ?_ | refine cB ?_ ?_ | refine gB ?_ ?_) <;> intro h)
        | with_reducible first | refine And.intro ?_ ?_ | refine J_seq ?_ | refine J_block ?_ | refine J_inBlock ?_ | refine rC ?_ | refine rR ?_ | refine rE ?_ | refine rG ?_ | refine FinQ.now ?_ | refine FinQ.end ?_)))
      refine J_nilName 17 1 (by simp only [go_sem]) ?_
      simp only [go_sem]
      refine J_for ([19] ++ upto 105 115) (fun j : Nat => [(104, .raw (.int .i64 j)), (17, .own 2 1 0 (lessTo pts pts[i] j).length)]) (fun j => [.box (encDk d2), .box (encNet n), .arr 1 ((lessTo pts pts[i] j).map encN)]) (fun j => j ≤ pts.length) (fun j => pts.length - j) 0 (by omega) (.le (by simp [go_sem, encNet, lessTo]) (by simp)) ?_
      intro j hj
      simp only [encNet]
      have hll := lessTo_len (pts := pts) (p := pts[i]) (j := j)
      by_cases hjt : j < pts.length
      · have hgj := getD_N hjt
        have hnx := lessTo_next (p := pts[i]) hjt
        by_cases hpe : pts[j] = pts[i]
        · rw [if_neg (by simp [hpe]), List.append_nil] at hnx
          refine J_run 200 ?_
          iterate 14 (all_goals (try (first
            | (simp (maxSteps := 1000000) (disch := omega) only [go_sem, hgj, hpe, ne_eq, not_true_eq_false, decide_false])
            | ((with_reducible first | refine gDt ?_ ?_ | refine gDf ?_ ?_ | refine gNt ?_ ?_ | refine gNf ?_ ?_ | refine cD ?_ ?_ | refine cN ?_ ?_ | refine cB ?_ ?_ | refine gB ?_ ?_) <;> intro h)
            | with_reducible first | refine And.intro ?_ ?_ | refine J_seq ?_ | refine J_block ?_ | refine J_inBlock ?_ | refine rC ?_ | refine rR ?_ | refine rE ?_ | refine rG ?_ | refine FinQ.now ?_ | refine FinQ.end ?_)))
          refine .mk (j + 1) hjt (by omega) ?_ ?_
          · rw [hnx]; simp [go_sem, encNet]
          · simp
        · rw [if_pos hpe] at hnx
          refine J_run 200 ?_
          iterate 14 (all_goals (try (first
            | (simp (maxSteps := 1000000) (disch := omega) only [go_sem, hgj, hpe, ne_eq, not_false_eq_true, decide_true])
            | ((with_reducible first | refine gDt ?_ ?_ | refine gDf ?_ ?_ | refine gNt ?_ ?_ | refine gNf ?_ ?_ | refine cD ?_ ?_ | refine cN ?_ ?_ | refine cB ?_ ?_ | refine gB ?_ ?_) <;> intro h)
            | with_reducible first | refine And.intro ?_ ?_ | refine J_seq ?_ | refine J_block ?_ | refine J_inBlock ?_ | refine rC ?_ | refine rR ?_ | refine rE ?_ | refine rG ?_ | refine FinQ.now ?_ | refine FinQ.end ?_)))
          refine .mk (j + 1) hjt (by omega) ?_ ?_
          · rw [hnx]; simp [go_sem, encNet, encN]
          · simp
      have hje : j = pts.length := by omega
      subst hje
      obtain ⟨less, hless⟩ : ∃ p, lessTo pts pts[i] pts.length = p := ⟨_, rfl⟩
      have hle2 : less = pts.filter (fun x => decide (x ≠ pts[i])) := by rw [← hless]; unfold lessTo; rw [List.take_length]
      have hLg : Gaps n less := by rw [hle2]; exact hPg.filter _
      have hsub : ∀ g, g ∈ less → g ∈ pts := fun g hg => by rw [hle2] at hg; exact (List.mem_filter.1 hg).1
      rw [hless] at hll ⊢
      have cE2 := EnoughF n hno.sized z less (by omega) (by omega)
      have cR2 := RegionF n hno.sized z less (by omega) (by omega)
      have hlen := regL_len_mono hno (z := z) (g := pts) (g' := less) fun v hv => RG.mono (fun _ h => h) hsub hv
      rw [enoughR_ok hn hLg] at cE2
      rw [regionR_ok hn hLg] at cR2
      have hab : enoughB n z less = false ∨ (enoughB n z less = true ∧ b = true) := by
        cases h : enoughB n z less with
        | false => exact .inl rfl
        | true => exact .inr ⟨rfl, by rw [← hne]; exact more_enough hsub h⟩
      simp only [encNet] at cE2 cR2
      have hnlt : ¬ (((regL n z less).length : Int) < (regL n z pts).length) := by omega
      rcases hab with ha | ⟨ha, rfl⟩
      all_goals
        rw [ha] at cE2
        refine J_run 200 ?_
        iterate 24 (all_goals (try (first
          | (simp (maxSteps := 1000000) (disch := omega) only [go_sem, take_lm, hnlt, decide_false])
          | ((with_reducible refine CallA.give [2] ?_ ?_ cE2 ?_); (· simp (disch := omega) only [go_sem, take_lm, hnlt, decide_false]); (· simp (disch := omega) only [go_sem, take_lm, hnlt, decide_false]); rintro _ _ ⟨rfl, rfl⟩)
          | ((with_reducible refine CallA.pure cR2 ?_ ?_); (· simp (disch := omega) only [go_sem, take_lm, hnlt, decide_false]); rintro _ _ ⟨rfl, rfl⟩)
          | ((with_reducible refine CallA.pure cR ?_ ?_); (· simp (disch := omega) only [go_sem, take_lm, hnlt, decide_false]); rintro _ _ ⟨rfl, rfl⟩)
          | ((with_reducible first | refine gDt ?_ ?_ | refine gDf ?_ ?_ | refine gNt ?_ ?_ | refine gNf ?_ ?_ | refine cD ?_ ?_ | refine cN ?_ ?_ | refine cB ?_ ?_ | refine gB ?_ ?_) <;> intro h)
          | with_reducible first | refine And.intro ?_ ?_ | refine J_seq ?_ | refine J_block ?_ | refine J_inBlock ?_ | refine rC ?_ | refine rR ?_ | refine rE ?_ | refine rG ?_ | refine FinQ.now ?_ | refine FinQ.end ?_)))
        all_goals
          refine .mk (i + 1) hlt (by omega) ?_ ?_
          · simp [go_sem, encNet]
          · simp
    · refine J_run 200 ?_
      iterate 12 (all_goals (try (first
        | (simp (maxSteps := 1000000) (disch := omega) only [go_sem])
        | ((with_reducible refine CallA.pure ca ?_ ?_); (· simp (disch := omega) only [go_sem]); rintro _ _ ⟨rfl, rfl⟩)
        | ((with_reducible first | refine gDt ?_ ?_ | refine gDf ?_ ?_ | refine gNt ?_ ?_ | refine gNf ?_ ?_ | refine cD ?_ ?_ | refine cN ?_ ?_ | refine cB ?_ ?_ | refine gB ?_ ?_) <;> intro h)
        | with_reducible first | refine And.intro ?_ ?_ | refine J_seq ?_ | refine J_block ?_ | refine J_inBlock ?_ | refine rC ?_ | refine rR ?_ | refine rE ?_ | refine rG ?_ | refine FinQ.now ?_ | refine FinQ.end ?_)))
  · rw [decide_eq_false h400] at cf
    refine holds_of Tryd.func8 rfl rfl ?_
    refine J_run 200 ?_
    delta Tryd.f8
    repeat' (first
      | (simp (maxSteps := 1000000) (disch := omega) only [go_sem])
      | ((with_reducible refine CallA.pure ca ?_ ?_); (· simp (disch := omega) only [go_sem]); rintro _ _ ⟨rfl, rfl⟩)
      | ((with_reducible refine CallA.pure cf ?_ ?_); (· simp (disch := omega) only [go_sem]); rintro _ _ ⟨rfl, rfl⟩)
      | ((with_reducible first | refine gDt ?_ ?_ | refine gDf ?_ ?_ | refine gNt ?_ ?_ | refine gNf ?_ ?_ | refine cD ?_ ?_ | refine cN ?_ ?_ | refine cB ?_ ?_ | refine gB ?_ ?_) <;> intro h)
      | with_reducible first | refine And.intro ?_ ?_ | refine J_seq ?_ | refine J_block ?_ | refine J_inBlock ?_ | refine rC ?_ | refine rR ?_ | refine rE ?_ | refine rG ?_ | refine FinQ.now ?_ | refine FinQ.end ?_)
theorem zonePoints_av (x : (Sh.slice (.int .i64)).Den) (o : (Sh.slice (.int .i64)).Ok x) : Fn1 Tryd.prog GT0 8 [(Sh.slice (.int .i64)).av x] (.raw (.bool true)) [] := zonePoints x (nums_ok o)
end Go.Proofs.YtangkndckghblaaDoor.Abs
