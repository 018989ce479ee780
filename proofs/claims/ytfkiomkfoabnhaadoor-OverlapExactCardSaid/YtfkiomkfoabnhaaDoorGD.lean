/- Overlap: whether no two documents of a list exclude each other. -/
import Derived.Test.YtfkiomkfoabnhaaDoorGC
namespace Go.Proofs.YtfkiomkfoabnhaaDoor.Abs
set_option linter.unusedSimpArgs false
set_option linter.unusedVariables false
set_option maxRecDepth 100000
open Go Go.RowKit

theorem clearTo_next {n : Net} {l : List Doc} {i : Nat} : clearTo n l (i + 1) = (clearTo n l i && !(activeB (l.getD i .zero) && decide (clashL n (l.drop (i + 1)) (l.getD i .zero) ≠ []))) := by
  unfold clearTo
  rw [List.range_succ, List.all_append]
  simp
theorem clearTo_le {n : Net} {l : List Doc} {i j : Nat} (hij : i ≤ j) (h : clearTo n l i = false) : clearTo n l j = false := by
  induction j with
  | zero => have : i = 0 := by omega
            subst this; exact h
  | succ j ih =>
    by_cases hj : i = j + 1
    · subst hj; exact h
    · rw [clearTo_next, ih (by omega)]; rfl
theorem clearR_err {n : Net} {l : List Doc} (h : allChk n l ≠ 0) : clearR n l = (false, allChk n l) := if_pos h
theorem clearR_ok {n : Net} {l : List Doc} (h : allChk n l = 0) : clearR n l = (clearTo n l l.length, 0) := if_neg (by simp [h])
set_option maxHeartbeats 16000000 in
theorem ovClear (n : Net) (hs : n.sized) (l : List Doc) (hl : l.length ≤ 1000000) (hx : ∀ x, x ∈ l → x.sized) : Fn1 Tryd.prog GT0 35 [.agg (encNet n), .lst 12 (l.map encDoc)] (.tup [.raw (.bool (clearR n l).1), .raw (.int .i64 (clearR n l).2)]) [] := by
  have c0 := docAll n hs l hl hx
  by_cases h0 : allChk n l = 0
  · rw [h0] at c0
    rw [clearR_ok h0]
    obtain ⟨hno, hl24, _⟩ := allChk_zero h0
    show Fn1 _ _ _ _ (.tup [.raw (.bool (clearTo n l l.length)), .raw (.int .i64 0)]) []
    refine holds_of Tryd.func35 rfl rfl ?_
    refine J_run 200 ?_
    delta Tryd.f35
    simp only [encNet] at c0 ⊢
    repeat' (first
      | (simp (maxSteps := 1000000) (disch := omega) only [go_sem])
      | ((with_reducible refine CallA.pure c0 ?_ ?_); (· simp (disch := omega) only [go_sem]); rintro _ _ ⟨rfl, rfl⟩)
      | ((with_reducible first | refine gDt ?_ ?_ | refine gDf ?_ ?_ | refine gNt ?_ ?_ | refine gNf ?_ ?_ | refine cD ?_ ?_ | refine cN ?_ ?_ | refine cB ?_ ?_ | refine gB ?_ ?_) <;> intro h)
      | with_reducible first | refine And.intro ?_ ?_ | refine J_seq ?_ | refine J_block ?_ | refine J_inBlock ?_ | refine rC ?_ | refine rR ?_ | refine rE ?_ | refine rG ?_ | refine FinQ.now ?_ | refine FinQ.end ?_)
    refine J_for ([7, 8, 9, 10] ++ upto 20 46) (fun i : Nat => [(19, .raw (.int .i64 i))]) (fun i => [.box (encNet n)]) (fun i => i ≤ l.length ∧ clearTo n l i = true) (fun i => l.length - i) 0 ⟨by omega, rfl⟩ (.le (by simp [go_sem, encNet]) (by simp)) ?_
    rintro i ⟨hi, hct⟩
    simp only [encNet]
    by_cases hlt : i < l.length
    · have hxi := hx _ (List.getElem_mem hlt)
      have hci := allChk_mem h0 (List.getElem_mem hlt)
      have hg := getD_Doc hlt
      have ht := clearTo_next (n := n) (l := l) (i := i)
      have hdr : (l.drop (i + 1)).length ≤ 1000000 := by rw [List.length_drop]; omega
      have cc := ovClashes n hs (l.drop (i + 1)) hdr (fun x hx' => hx x (List.mem_of_mem_drop hx')) l[i] hxi
      rw [clashE_ok (allChk_drop h0 _) hci] at cc
      have hcl := clashL_len (n := n) (d := l[i]) (l := l.drop (i + 1))
      rw [getD_get hlt, hct] at ht
      have ca := activeF l[i]
      obtain ⟨C, hC⟩ : ∃ C, clashL n (l.drop (i + 1)) l[i] = C := ⟨_, rfl⟩
      obtain ⟨A, hA⟩ : ∃ b, activeB l[i] = b := ⟨_, rfl⟩
      rw [hA] at ca ht
      rw [hC] at cc ht hcl
      simp only [encNet, encDoc, List.map_drop] at ca cc hg
      cases A
      · simp only [Bool.false_and, Bool.not_false, Bool.and_true] at ht
        refine J_run 200 ?_
        repeat' (first
          | (simp (maxSteps := 1000000) (disch := omega) only [go_sem, hg, Nat.reduceLT])
          | ((with_reducible refine CallA.pure ca ?_ ?_); (· simp (disch := omega) only [go_sem, hg, Nat.reduceLT]); rintro _ _ ⟨rfl, rfl⟩)
          | ((with_reducible first | refine gDt ?_ ?_ | refine gDf ?_ ?_ | refine gNt ?_ ?_ | refine gNf ?_ ?_ | refine cD ?_ ?_ | refine cN ?_ ?_ | refine cB ?_ ?_ | refine gB ?_ ?_) <;> intro h)
          | with_reducible first | refine And.intro ?_ ?_ | refine J_seq ?_ | refine J_block ?_ | refine J_inBlock ?_ | refine rC ?_ | refine rR ?_ | refine rE ?_ | refine rG ?_ | refine FinQ.now ?_ | refine FinQ.end ?_)
        refine .mk (i + 1) ⟨hlt, ht⟩ (by omega) ?_ ?_
        · simp [go_sem, encNet]
        · simp
      · simp only [Bool.true_and] at ht
        by_cases hn : C = []
        · subst hn
          simp only [ne_eq, not_true_eq_false, decide_false, Bool.not_false] at ht
          simp only [List.map_nil] at cc
          refine J_run 200 ?_
          repeat' (first
            | ((with_reducible refine J_draw (id := 8) 200 [] plan35_8 (by kernel_rfl) (by kernel_rfl) ?_); delta plan35_8)
            | (simp (maxSteps := 1000000) (disch := omega) only [go_sem, hg, take_lm, Nat.reduceLT])
            | ((with_reducible refine CallA.pure ca ?_ ?_); (· simp (disch := omega) only [go_sem, hg, take_lm, Nat.reduceLT]); rintro _ _ ⟨rfl, rfl⟩)
            | ((with_reducible refine CallA.pure cc ?_ ?_); (· simp (disch := omega) only [go_sem, hg, take_lm, Nat.reduceLT]); rintro _ _ ⟨rfl, rfl⟩)
            | ((with_reducible first | refine gDt ?_ ?_ | refine gDf ?_ ?_ | refine gNt ?_ ?_ | refine gNf ?_ ?_ | refine cD ?_ ?_ | refine cN ?_ ?_ | refine cB ?_ ?_ | refine gB ?_ ?_ | refine stepGuard_dect ?_ ?_ | refine stepGuard_decf ?_ ?_ | refine stepGuard_ndect ?_ ?_ | refine stepGuard_ndecf ?_ ?_ | refine stepGuard_by ?_ ?_) <;> intro h)
            | with_reducible first | refine And.intro ?_ ?_ | refine J_seq ?_ | refine J_block ?_ | refine J_inBlock ?_ | refine rC ?_ | refine rR ?_ | refine rE ?_ | refine rG ?_ | refine FinQ.now ?_ | refine FinQ.end ?_)
          refine .mk (i + 1) ⟨hlt, ht⟩ (by omega) ?_ ?_
          · simp [go_sem, encNet]
          · simp
        · have hp : 0 < C.length := List.length_pos_iff.2 hn
          simp only [ne_eq, hn, not_false_eq_true, decide_true, Bool.not_true, Bool.and_false] at ht
          have hfin := clearTo_le (show i + 1 ≤ l.length by omega) ht
          rw [hfin]
          refine J_run 200 ?_
          repeat' (first
            | ((with_reducible refine J_draw (id := 8) 200 [] plan35_8 (by kernel_rfl) (by kernel_rfl) ?_); delta plan35_8)
            | (simp (maxSteps := 1000000) (disch := omega) only [go_sem, hg, take_lm, Nat.reduceLT])
            | ((with_reducible refine CallA.pure ca ?_ ?_); (· simp (disch := omega) only [go_sem, hg, take_lm, Nat.reduceLT]); rintro _ _ ⟨rfl, rfl⟩)
            | ((with_reducible refine CallA.pure cc ?_ ?_); (· simp (disch := omega) only [go_sem, hg, take_lm, Nat.reduceLT]); rintro _ _ ⟨rfl, rfl⟩)
            | ((with_reducible first | refine gDt ?_ ?_ | refine gDf ?_ ?_ | refine gNt ?_ ?_ | refine gNf ?_ ?_ | refine cD ?_ ?_ | refine cN ?_ ?_ | refine cB ?_ ?_ | refine gB ?_ ?_ | refine stepGuard_dect ?_ ?_ | refine stepGuard_decf ?_ ?_ | refine stepGuard_ndect ?_ ?_ | refine stepGuard_ndecf ?_ ?_ | refine stepGuard_by ?_ ?_) <;> intro h)
            | with_reducible first | refine And.intro ?_ ?_ | refine J_seq ?_ | refine J_block ?_ | refine J_inBlock ?_ | refine rC ?_ | refine rR ?_ | refine rE ?_ | refine rG ?_ | refine FinQ.now ?_ | refine FinQ.end ?_)
    · have hie : i = l.length := by omega
      subst hie
      rw [hct]
      refine J_run 200 ?_
      repeat' (first
        | (simp (maxSteps := 1000000) (disch := omega) only [go_sem])
        | ((with_reducible first | refine gDt ?_ ?_ | refine gDf ?_ ?_ | refine gNt ?_ ?_ | refine gNf ?_ ?_ | refine cD ?_ ?_ | refine cN ?_ ?_ | refine cB ?_ ?_ | refine gB ?_ ?_) <;> intro h)
        | with_reducible first | refine And.intro ?_ ?_ | refine J_seq ?_ | refine J_block ?_ | refine J_inBlock ?_ | refine rC ?_ | refine rR ?_ | refine rE ?_ | refine rG ?_ | refine FinQ.now ?_ | refine FinQ.end ?_)
  · rw [clearR_err h0]
    refine holds_of Tryd.func35 rfl rfl ?_
    refine J_run 200 ?_
    delta Tryd.f35
    simp only [encNet] at c0 ⊢
    iterate 12 (all_goals (try (first
      | (simp (maxSteps := 1000000) (disch := omega) only [go_sem, h0])
      | ((with_reducible refine CallA.pure c0 ?_ ?_); (· simp (disch := omega) only [go_sem, h0]); rintro _ _ ⟨rfl, rfl⟩)
      | ((with_reducible first | refine gDt ?_ ?_ | refine gDf ?_ ?_ | refine gNt ?_ ?_ | refine gNf ?_ ?_ | refine cD ?_ ?_ | refine cN ?_ ?_ | refine cB ?_ ?_ | refine gB ?_ ?_) <;> intro h)
      | with_reducible first | refine And.intro ?_ ?_ | refine J_seq ?_ | refine J_block ?_ | refine J_inBlock ?_ | refine rC ?_ | refine rR ?_ | refine rE ?_ | refine rG ?_ | refine FinQ.now ?_ | refine FinQ.end ?_)))
end Go.Proofs.YtfkiomkfoabnhaaDoor.Abs
