/- Lists of documents: their check, in the program and in the reference. -/
import Derived.Test.YtmfgaefefgnhbaaGreatDoorDB
namespace Go.Proofs.YtmfgaefefgnhbaaGreatDoor.Abs
set_option linter.unusedSimpArgs false
set_option linter.unusedVariables false
set_option maxRecDepth 100000
open Go Go.RowKit

theorem getD_Doc {l : List Doc} {i : Nat} (h : i < l.length) : (l.map encDoc).getD i [] = encDoc l[i] := getD_map h
theorem allChk_hit {n : Net} {l : List Doc} (h0 : n.chk = 0) (h24 : ¬ 24 < l.length) {i : Nat} (hi : i < l.length) (hpre : ∀ j, j < i → aErr n l j = 0) {e : Int} (he : aErr n l i = e) (hne : e ≠ 0) : allChk n l = e := by
  unfold allChk
  rw [if_neg (by simp [h0]), if_neg h24, firstE_hit hi hpre (by omega), he]
theorem aErr_at {n : Net} {l : List Doc} {i : Nat} (hi : i < l.length) : aErr n l i = if docChk n l[i] ≠ 0 then docChk n l[i] else if 0 < i ∧ l[i].num ≤ (l[i - 1]'(by omega)).num then 14 else 0 := by
  unfold aErr
  rw [getD_get hi, getD_get (show i - 1 < l.length by omega)]
set_option maxHeartbeats 16000000 in
theorem docAll (n : Net) (hs : n.sized) (l : List Doc) (hl : l.length ≤ 1000000) (hx : ∀ x, x ∈ l → x.sized) : Fn1 Tryz.prog GT0 43 [.agg (encNet n), .lst 12 (l.map encDoc)] (.raw (.int .i64 (allChk n l))) [] := by
  have c0 := netCheck n hs
  have CHK := docCheck
  by_cases h0 : n.chk = 0
  · rw [h0] at c0
    by_cases h24 : 24 < l.length
    · have e : allChk n l = 1 := by unfold allChk; rw [if_neg (by simp [h0]), if_pos h24]
      rw [e]
      refine holds_of Tryz.func43 rfl rfl ?_
      refine J_run 200 ?_
      delta Tryz.f43
      simp only [encNet] at c0 ⊢
      iterate 12 (all_goals (try (first
        | (simp (maxSteps := 1000000) (disch := omega) only [go_sem])
        | ((with_reducible refine CallA.pure c0 ?_ ?_); (· simp (disch := omega) only [go_sem]); rintro _ _ ⟨rfl, rfl⟩)
        | ((with_reducible first | refine gDt ?_ ?_ | refine gDf ?_ ?_ | refine gNt ?_ ?_ | refine gNf ?_ ?_ | refine cD ?_ ?_ | refine cN ?_ ?_ | refine cB ?_ ?_ | refine gB ?_ ?_) <;> intro h)
        | with_reducible first | refine And.intro ?_ ?_ | refine J_seq ?_ | refine J_block ?_ | refine J_inBlock ?_ | refine rC ?_ | refine rR ?_ | refine rE ?_ | refine rG ?_ | refine FinQ.now ?_ | refine FinQ.end ?_)))
    · refine holds_of Tryz.func43 rfl rfl ?_
      refine J_run 200 ?_
      delta Tryz.f43
      simp only [encNet] at c0 ⊢
      iterate 12 (all_goals (try (first
        | (simp (maxSteps := 1000000) (disch := omega) only [go_sem])
        | ((with_reducible refine CallA.pure c0 ?_ ?_); (· simp (disch := omega) only [go_sem]); rintro _ _ ⟨rfl, rfl⟩)
        | ((with_reducible first | refine gDt ?_ ?_ | refine gDf ?_ ?_ | refine gNt ?_ ?_ | refine gNf ?_ ?_ | refine cD ?_ ?_ | refine cN ?_ ?_ | refine cB ?_ ?_ | refine gB ?_ ?_) <;> intro h)
        | with_reducible first | refine And.intro ?_ ?_ | refine J_seq ?_ | refine J_block ?_ | refine J_inBlock ?_ | refine rC ?_ | refine rR ?_ | refine rE ?_ | refine rG ?_ | refine FinQ.now ?_ | refine FinQ.end ?_)))
      refine J_for ([6, 7, 8] ++ upto 20 44) (fun i : Nat => [(19, .raw (.int .i64 i))]) (fun i => [.box (encNet n)]) (fun i => i ≤ l.length ∧ ∀ j, j < i → aErr n l j = 0) (fun i => l.length - i) 0 ⟨by omega, by omega⟩ (.le (by simp [go_sem, encNet]) (by simp)) ?_
      rintro i ⟨hi, hpre⟩
      by_cases hlt : i < l.length
      · have hne := fun e => allChk_hit (e := e) h0 h24 hlt hpre
        rw [aErr_at hlt] at hne
        have hend : docChk n l[i] = 0 → ¬ (0 < i ∧ l[i].num ≤ (l[i - 1]'(by omega)).num) → ∀ j, j < i + 1 → aErr n l j = 0 := fun hd h j hj => by
          rcases Nat.lt_succ_iff_lt_or_eq.1 hj with h3 | rfl
          · exact hpre j h3
          · rw [aErr_at hlt, if_neg (by simp [hd]), if_neg h]
        have cd := CHK n hs l[i] (hx _ (List.getElem_mem hlt))
        have hg := getD_Doc hlt
        have hg' := getD_Doc (l := l) (i := i - 1) (by omega)
        have e1 : ((i : Int) - 1).toNat = i - 1 := by omega
        by_cases hf : docChk n l[i] = 0
        · rw [hf] at cd hne
          simp only [ne_eq, not_true_eq_false, if_false] at hne
          by_cases hi0 : i = 0
          · have hend := hend hf (by omega)
            simp only [encNet, encDoc] at cd hg hg' ⊢
            refine J_run 200 ?_
            iterate 16 (all_goals (try (first
              | ((with_reducible refine J_draw (id := 12) 200 [] plan43_12 (by kernel_rfl) (by kernel_rfl) ?_); delta plan43_12)
              | (simp (maxSteps := 1000000) (disch := omega) only [go_sem, hg, hg', e1])
              | ((with_reducible refine CallA.pure cd ?_ ?_); (· simp (disch := omega) only [go_sem, hg, hg', e1]); rintro _ _ ⟨rfl, rfl⟩)
              | ((with_reducible first | refine gDt ?_ ?_ | refine gDf ?_ ?_ | refine gNt ?_ ?_ | refine gNf ?_ ?_ | refine cD ?_ ?_ | refine cN ?_ ?_ | refine cB ?_ ?_ | refine gB ?_ ?_ | refine stepGuard_dect ?_ ?_ | refine stepGuard_decf ?_ ?_ | refine stepGuard_ndect ?_ ?_ | refine stepGuard_ndecf ?_ ?_ | refine stepGuard_by ?_ ?_) <;> intro h)
              | with_reducible first | refine And.intro ?_ ?_ | refine J_seq ?_ | refine J_block ?_ | refine J_inBlock ?_ | refine rC ?_ | refine rR ?_ | refine rE ?_ | refine rG ?_ | refine FinQ.now ?_ | refine FinQ.end ?_)))
            refine .mk (i + 1) ⟨hlt, hend⟩ (by omega) (by simp [go_sem]) (by simp)
          · by_cases hle : l[i].num ≤ (l[i - 1]'(by omega)).num
            · have e14 := hne 14 (if_pos ⟨by omega, hle⟩) (by decide)
              rw [e14]
              simp only [encNet, encDoc] at cd hg hg' ⊢
              refine J_run 200 ?_
              iterate 16 (all_goals (try (first
                | ((with_reducible refine J_draw (id := 12) 200 [] plan43_12 (by kernel_rfl) (by kernel_rfl) ?_); delta plan43_12)
                | (simp (maxSteps := 1000000) (disch := omega) only [go_sem, hg, hg', e1])
                | ((with_reducible refine CallA.pure cd ?_ ?_); (· simp (disch := omega) only [go_sem, hg, hg', e1]); rintro _ _ ⟨rfl, rfl⟩)
                | ((with_reducible first | refine gDt ?_ ?_ | refine gDf ?_ ?_ | refine gNt ?_ ?_ | refine gNf ?_ ?_ | refine cD ?_ ?_ | refine cN ?_ ?_ | refine cB ?_ ?_ | refine gB ?_ ?_ | refine stepGuard_dect ?_ ?_ | refine stepGuard_decf ?_ ?_ | refine stepGuard_ndect ?_ ?_ | refine stepGuard_ndecf ?_ ?_ | refine stepGuard_by ?_ ?_) <;> intro h)
                | with_reducible first | refine And.intro ?_ ?_ | refine J_seq ?_ | refine J_block ?_ | refine J_inBlock ?_ | refine rC ?_ | refine rR ?_ | refine rE ?_ | refine rG ?_ | refine FinQ.now ?_ | refine FinQ.end ?_)))
            · have hend := hend hf (by omega)
              simp only [encNet, encDoc] at cd hg hg' ⊢
              refine J_run 200 ?_
              iterate 16 (all_goals (try (first
                | ((with_reducible refine J_draw (id := 12) 200 [] plan43_12 (by kernel_rfl) (by kernel_rfl) ?_); delta plan43_12)
                | (simp (maxSteps := 1000000) (disch := omega) only [go_sem, hg, hg', e1])
                | ((with_reducible refine CallA.pure cd ?_ ?_); (· simp (disch := omega) only [go_sem, hg, hg', e1]); rintro _ _ ⟨rfl, rfl⟩)
                | ((with_reducible first | refine gDt ?_ ?_ | refine gDf ?_ ?_ | refine gNt ?_ ?_ | refine gNf ?_ ?_ | refine cD ?_ ?_ | refine cN ?_ ?_ | refine cB ?_ ?_ | refine gB ?_ ?_ | refine stepGuard_dect ?_ ?_ | refine stepGuard_decf ?_ ?_ | refine stepGuard_ndect ?_ ?_ | refine stepGuard_ndecf ?_ ?_ | refine stepGuard_by ?_ ?_) <;> intro h)
                | with_reducible first | refine And.intro ?_ ?_ | refine J_seq ?_ | refine J_block ?_ | refine J_inBlock ?_ | refine rC ?_ | refine rR ?_ | refine rE ?_ | refine rG ?_ | refine FinQ.now ?_ | refine FinQ.end ?_)))
              refine .mk (i + 1) ⟨hlt, hend⟩ (by omega) (by simp [go_sem]) (by simp)
        · rw [hne _ (if_pos hf) hf]
          simp only [encNet, encDoc] at cd hg hg' ⊢
          refine J_run 200 ?_
          iterate 16 (all_goals (try (first
            | ((with_reducible refine J_draw (id := 12) 200 [] plan43_12 (by kernel_rfl) (by kernel_rfl) ?_); delta plan43_12)
            | (simp (maxSteps := 1000000) (disch := omega) only [go_sem, hg, hg', e1])
            | ((with_reducible refine CallA.pure cd ?_ ?_); (· simp (disch := omega) only [go_sem, hg, hg', e1]); rintro _ _ ⟨rfl, rfl⟩)
            | ((with_reducible first | refine gDt ?_ ?_ | refine gDf ?_ ?_ | refine gNt ?_ ?_ | refine gNf ?_ ?_ | refine cD ?_ ?_ | refine cN ?_ ?_ | refine cB ?_ ?_ | refine gB ?_ ?_ | refine stepGuard_dect ?_ ?_ | refine stepGuard_decf ?_ ?_ | refine stepGuard_ndect ?_ ?_ | refine stepGuard_ndecf ?_ ?_ | refine stepGuard_by ?_ ?_) <;> intro h)
            | with_reducible first | refine And.intro ?_ ?_ | refine J_seq ?_ | refine J_block ?_ | refine J_inBlock ?_ | refine rC ?_ | refine rR ?_ | refine rE ?_ | refine rG ?_ | refine FinQ.now ?_ | refine FinQ.end ?_)))
      · have e : allChk n l = 0 := by
          unfold allChk
          rw [if_neg (by simp [h0]), if_neg h24]
          exact firstE_none fun j hj => hpre j (by omega)
        simp only [encNet]
        rw [e]
        refine J_run 200 ?_
        iterate 10 (all_goals (try (first
          | (simp (maxSteps := 1000000) (disch := omega) only [go_sem])
          | ((with_reducible first | refine gDt ?_ ?_ | refine gDf ?_ ?_ | refine gNt ?_ ?_ | refine gNf ?_ ?_ | refine cD ?_ ?_ | refine cN ?_ ?_ | refine cB ?_ ?_ | refine gB ?_ ?_) <;> intro h)
          | with_reducible first | refine And.intro ?_ ?_ | refine J_seq ?_ | refine J_block ?_ | refine J_inBlock ?_ | refine rC ?_ | refine rR ?_ | refine rE ?_ | refine rG ?_ | refine FinQ.now ?_ | refine FinQ.end ?_)))
  · have e : allChk n l = n.chk := by unfold allChk; rw [if_pos h0]
    rw [e]
    refine holds_of Tryz.func43 rfl rfl ?_
    refine J_run 200 ?_
    delta Tryz.f43
    simp only [encNet] at c0 ⊢
    iterate 12 (all_goals (try (first
      | (simp (maxSteps := 1000000) (disch := omega) only [go_sem])
      | ((with_reducible refine CallA.pure c0 ?_ ?_); (· simp (disch := omega) only [go_sem]); rintro _ _ ⟨rfl, rfl⟩)
      | ((with_reducible first | refine gDt ?_ ?_ | refine gDf ?_ ?_ | refine gNt ?_ ?_ | refine gNf ?_ ?_ | refine cD ?_ ?_ | refine cN ?_ ?_ | refine cB ?_ ?_ | refine gB ?_ ?_) <;> intro h)
      | with_reducible first | refine And.intro ?_ ?_ | refine J_seq ?_ | refine J_block ?_ | refine J_inBlock ?_ | refine rC ?_ | refine rR ?_ | refine rE ?_ | refine rG ?_ | refine FinQ.now ?_ | refine FinQ.end ?_)))
end Go.Proofs.YtmfgaefefgnhbaaGreatDoor.Abs
