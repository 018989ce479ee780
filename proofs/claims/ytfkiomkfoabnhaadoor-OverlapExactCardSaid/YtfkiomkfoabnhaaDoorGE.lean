/- Overlap: the same in the reference, pair by pair. -/
import Derived.Test.YtfkiomkfoabnhaaDoorGD
namespace Go.Proofs.YtfkiomkfoabnhaaDoor.Abs
set_option linter.unusedSimpArgs false
set_option linter.unusedVariables false
set_option maxRecDepth 100000
open Go Go.RowKit

/-- Whether two active documents exclude each other. -/
noncomputable def pairB (n : Net) (a b : Doc) : Bool := meetB n a b && testB a b && activeB a && activeB b
theorem clear_iff {n : Net} {l : List Doc} (h : allChk n l = 0) : clearTo n l l.length = true ↔ ∀ (i k : Nat) (hk : k < i) (hi : i < l.length), pairB n l[i] (l[k]'(by omega)) = false := by
  unfold clearTo
  rw [List.all_eq_true]
  constructor
  · intro hall i k hk hi
    have h1 := hall k (List.mem_range.2 (by omega))
    rw [getD_get (show k < l.length by omega)] at h1
    cases hp : pairB n l[i] (l[k]'(by omega)) with
    | false => rfl
    | true =>
      exfalso
      unfold pairB at hp
      simp only [Bool.and_eq_true] at hp
      obtain ⟨⟨⟨p1, p2⟩, p3⟩, p4⟩ := hp
      rw [p4] at h1
      simp only [Bool.true_and, Bool.not_eq_true', decide_eq_false_iff_not, ne_eq, Decidable.not_not] at h1
      have hin : l[i] ∈ l.drop (k + 1) := List.mem_drop_iff_getElem.2 ⟨i - (k + 1), by omega, by congr 1; omega⟩
      have hne : l[i].num ≠ (l[k]'(by omega)).num := by have := allChk_lt h hk hi; omega
      have hmem : l[i].num ∈ clashL n (l.drop (k + 1)) (l[k]'(by omega)) := by
        unfold clashL
        refine List.mem_map.2 ⟨l[i], List.mem_filter.2 ⟨hin, ?_⟩, rfl⟩
        unfold clashB
        rw [p3, decide_eq_true hne, meetB_comm, p1, testB_comm, p2]; rfl
      rw [h1] at hmem
      cases hmem
  · intro hp k hk
    have hk := List.mem_range.1 hk
    rw [getD_get hk]
    cases hA : activeB l[k] with
    | false => rfl
    | true =>
      simp only [Bool.true_and, Bool.not_eq_true', decide_eq_false_iff_not, ne_eq, Decidable.not_not]
      unfold clashL
      rw [List.map_eq_nil_iff, List.filter_eq_nil_iff]
      intro x hx hc
      obtain ⟨j, hj, rfl⟩ := List.mem_drop_iff_getElem.1 hx
      unfold clashB at hc
      simp only [Bool.and_eq_true] at hc
      obtain ⟨⟨c1, _⟩, c2, c3⟩ := hc
      have := hp (k + 1 + j) k (by omega) (by omega)
      unfold pairB at this
      rw [meetB_comm, c2, testB_comm, c3, c1, hA] at this
      cases this
set_option maxHeartbeats 16000000 in
theorem rClear (n : Net) (hs : n.sized) (l : List Doc) (hl : l.length ≤ 1000000) (hx : ∀ x, x ∈ l → x.sized) : Fn1 Tryd.prog GT0 36 [.agg (encNet n), .lst 12 (l.map encDoc)] (.tup [.raw (.bool (clearR n l).1), .raw (.int .i64 (clearR n l).2)]) [] := by
  have c0 := rDocAll n hs l hl hx
  by_cases h0 : allChk n l = 0
  · rw [h0] at c0
    rw [clearR_ok h0]
    obtain ⟨hno, hl24, _⟩ := allChk_zero h0
    have hci := clear_iff h0
    show Fn1 _ _ _ _ (.tup [.raw (.bool (clearTo n l l.length)), .raw (.int .i64 0)]) []
    obtain ⟨b, hb⟩ : ∃ b, clearTo n l l.length = b := ⟨_, rfl⟩
    rw [hb] at hci ⊢
    refine holds_of Tryd.func36 rfl rfl ?_
    refine J_run 200 ?_
    delta Tryd.f36
    simp only [encNet] at c0 ⊢
    repeat' (first
      | (simp (maxSteps := 1000000) (disch := omega) only [go_sem])
      | ((with_reducible refine CallA.pure c0 ?_ ?_); (· simp (disch := omega) only [go_sem]); rintro _ _ ⟨rfl, rfl⟩)
      | ((with_reducible first | refine gDt ?_ ?_ | refine gDf ?_ ?_ | refine gNt ?_ ?_ | refine gNf ?_ ?_ | refine cD ?_ ?_ | refine cN ?_ ?_ | refine cB ?_ ?_ | refine gB ?_ ?_) <;> intro h)
      | with_reducible first | refine And.intro ?_ ?_ | refine J_seq ?_ | refine J_block ?_ | refine J_inBlock ?_ | refine rC ?_ | refine rR ?_ | refine rE ?_ | refine rG ?_ | refine FinQ.now ?_ | refine FinQ.end ?_)
    refine J_for ([8, 9, 10] ++ upto 17 56) (fun i : Nat => [(7, .raw (.int .i64 i))]) (fun i => [.box (encNet n)]) (fun i => i ≤ l.length ∧ ∀ (j k : Nat) (hk : k < j) (hj : j < l.length), j < i → pairB n l[j] (l[k]'(by omega)) = false) (fun i => l.length - i) 0 ⟨by omega, by omega⟩ (.le (by simp [go_sem, encNet]) (by simp)) ?_
    rintro i ⟨hi, hpre⟩
    simp only [encNet]
    by_cases hlt : i < l.length
    · have hg := getD_Doc hlt
      refine J_run 200 ?_
      repeat' (first
        | (simp (maxSteps := 1000000) (disch := omega) only [go_sem])
        | ((with_reducible first | refine gDt ?_ ?_ | refine gDf ?_ ?_ | refine gNt ?_ ?_ | refine gNf ?_ ?_ | refine cD ?_ ?_ | refine cN ?_ ?_ | refine cB ?_ ?_ | refine gB ?_ ?_) <;> intro h)
        | with_reducible first | refine And.intro ?_ ?_ | refine J_seq ?_ | refine J_block ?_ | refine J_inBlock ?_ | refine rC ?_ | refine rR ?_ | refine rE ?_ | refine rG ?_ | refine FinQ.now ?_ | refine FinQ.end ?_)
      refine J_for ([9, 10] ++ upto 23 56) (fun k : Nat => [(8, .raw (.int .i64 k))]) (fun i => [.box (encNet n)]) (fun k => k ≤ i ∧ ∀ (q : Nat) (hq : q < i), q < k → pairB n l[i] (l[q]'(by omega)) = false) (fun k => i - k) 0 ⟨by omega, by omega⟩ (.le (by simp [go_sem, encNet]) (by simp)) ?_
      rintro k ⟨hk, hpk⟩
      simp only [encNet]
      by_cases hkt : k < i
      · have hxi := hx _ (List.getElem_mem hlt)
        have hxk := hx _ (List.getElem_mem (show k < l.length by omega))
        have hdi := allChk_mem h0 (List.getElem_mem hlt)
        have hdk := allChk_mem h0 (List.getElem_mem (show k < l.length by omega))
        have hg' := getD_Doc (l := l) (i := k) (by omega)
        have ce := rExcl n hs l[i] (l[k]'(by omega)) hxi hxk
        rw [exclR_ok hdi hdk] at ce
        have a1 := rActiveF l[i]
        have a2 := rActiveF (l[k]'(by omega))
        have hpb : pairB n l[i] (l[k]'(by omega)) = ((meetB n l[i] (l[k]'(by omega)) && testB l[i] (l[k]'(by omega))) && activeB l[i] && activeB (l[k]'(by omega))) := rfl
        obtain ⟨E, hE⟩ : ∃ E, (meetB n l[i] (l[k]'(by omega)) && testB l[i] (l[k]'(by omega))) = E := ⟨_, rfl⟩
        obtain ⟨A, hA⟩ : ∃ E, activeB l[i] = E := ⟨_, rfl⟩
        obtain ⟨B, hB⟩ : ∃ E, activeB (l[k]'(by omega)) = E := ⟨_, rfl⟩
        rw [hE] at ce hpb
        rw [hA] at a1 hpb
        rw [hB] at a2 hpb
        simp only [encNet, encDoc] at ce a1 a2 hg hg'
        cases E
        · refine J_run 200 ?_
          repeat' (first
            | ((with_reducible refine J_draw (id := 10) 200 [] plan36_10 (by kernel_rfl) (by kernel_rfl) ?_); delta plan36_10)
            | (simp (maxSteps := 1000000) (disch := omega) only [go_sem, hg, hg'])
            | ((with_reducible refine CallA.pure ce ?_ ?_); (· simp (disch := omega) only [go_sem, hg, hg']); rintro _ _ ⟨rfl, rfl⟩)
            | ((with_reducible refine CallA.pure a1 ?_ ?_); (· simp (disch := omega) only [go_sem, hg, hg']); rintro _ _ ⟨rfl, rfl⟩)
            | ((with_reducible refine CallA.pure a2 ?_ ?_); (· simp (disch := omega) only [go_sem, hg, hg']); rintro _ _ ⟨rfl, rfl⟩)
            | ((with_reducible first | refine gDt ?_ ?_ | refine gDf ?_ ?_ | refine gNt ?_ ?_ | refine gNf ?_ ?_ | refine cD ?_ ?_ | refine cN ?_ ?_ | refine cB ?_ ?_ | refine gB ?_ ?_ | refine stepGuard_dect ?_ ?_ | refine stepGuard_decf ?_ ?_ | refine stepGuard_ndect ?_ ?_ | refine stepGuard_ndecf ?_ ?_ | refine stepGuard_by ?_ ?_) <;> intro h)
            | with_reducible first | refine And.intro ?_ ?_ | refine J_seq ?_ | refine J_block ?_ | refine J_inBlock ?_ | refine rC ?_ | refine rR ?_ | refine rE ?_ | refine rG ?_ | refine FinQ.now ?_ | refine FinQ.end ?_)
          refine .mk (k + 1) ⟨hkt, fun q hq hqk => ?_⟩ (by omega) ?_ ?_
          · rcases Nat.lt_succ_iff_lt_or_eq.1 hqk with h3 | rfl
            · exact hpk q hq h3
            · exact hpb
          · simp [go_sem, encNet]
          · simp
        cases A
        · refine J_run 200 ?_
          repeat' (first
            | ((with_reducible refine J_draw (id := 10) 200 [] plan36_10 (by kernel_rfl) (by kernel_rfl) ?_); delta plan36_10)
            | (simp (maxSteps := 1000000) (disch := omega) only [go_sem, hg, hg'])
            | ((with_reducible refine CallA.pure ce ?_ ?_); (· simp (disch := omega) only [go_sem, hg, hg']); rintro _ _ ⟨rfl, rfl⟩)
            | ((with_reducible refine CallA.pure a1 ?_ ?_); (· simp (disch := omega) only [go_sem, hg, hg']); rintro _ _ ⟨rfl, rfl⟩)
            | ((with_reducible refine CallA.pure a2 ?_ ?_); (· simp (disch := omega) only [go_sem, hg, hg']); rintro _ _ ⟨rfl, rfl⟩)
            | ((with_reducible first | refine gDt ?_ ?_ | refine gDf ?_ ?_ | refine gNt ?_ ?_ | refine gNf ?_ ?_ | refine cD ?_ ?_ | refine cN ?_ ?_ | refine cB ?_ ?_ | refine gB ?_ ?_ | refine stepGuard_dect ?_ ?_ | refine stepGuard_decf ?_ ?_ | refine stepGuard_ndect ?_ ?_ | refine stepGuard_ndecf ?_ ?_ | refine stepGuard_by ?_ ?_) <;> intro h)
            | with_reducible first | refine And.intro ?_ ?_ | refine J_seq ?_ | refine J_block ?_ | refine J_inBlock ?_ | refine rC ?_ | refine rR ?_ | refine rE ?_ | refine rG ?_ | refine FinQ.now ?_ | refine FinQ.end ?_)
          refine .mk (k + 1) ⟨hkt, fun q hq hqk => ?_⟩ (by omega) ?_ ?_
          · rcases Nat.lt_succ_iff_lt_or_eq.1 hqk with h3 | rfl
            · exact hpk q hq h3
            · exact hpb
          · simp [go_sem, encNet]
          · simp
        cases B
        · refine J_run 200 ?_
          repeat' (first
            | ((with_reducible refine J_draw (id := 10) 200 [] plan36_10 (by kernel_rfl) (by kernel_rfl) ?_); delta plan36_10)
            | (simp (maxSteps := 1000000) (disch := omega) only [go_sem, hg, hg'])
            | ((with_reducible refine CallA.pure ce ?_ ?_); (· simp (disch := omega) only [go_sem, hg, hg']); rintro _ _ ⟨rfl, rfl⟩)
            | ((with_reducible refine CallA.pure a1 ?_ ?_); (· simp (disch := omega) only [go_sem, hg, hg']); rintro _ _ ⟨rfl, rfl⟩)
            | ((with_reducible refine CallA.pure a2 ?_ ?_); (· simp (disch := omega) only [go_sem, hg, hg']); rintro _ _ ⟨rfl, rfl⟩)
            | ((with_reducible first | refine gDt ?_ ?_ | refine gDf ?_ ?_ | refine gNt ?_ ?_ | refine gNf ?_ ?_ | refine cD ?_ ?_ | refine cN ?_ ?_ | refine cB ?_ ?_ | refine gB ?_ ?_ | refine stepGuard_dect ?_ ?_ | refine stepGuard_decf ?_ ?_ | refine stepGuard_ndect ?_ ?_ | refine stepGuard_ndecf ?_ ?_ | refine stepGuard_by ?_ ?_) <;> intro h)
            | with_reducible first | refine And.intro ?_ ?_ | refine J_seq ?_ | refine J_block ?_ | refine J_inBlock ?_ | refine rC ?_ | refine rR ?_ | refine rE ?_ | refine rG ?_ | refine FinQ.now ?_ | refine FinQ.end ?_)
          refine .mk (k + 1) ⟨hkt, fun q hq hqk => ?_⟩ (by omega) ?_ ?_
          · rcases Nat.lt_succ_iff_lt_or_eq.1 hqk with h3 | rfl
            · exact hpk q hq h3
            · exact hpb
          · simp [go_sem, encNet]
          · simp
        · have hbf : b = false := by
            cases b with
            | false => rfl
            | true =>
              have := hci.1 rfl i k hkt hlt
              rw [hpb] at this
              cases this
          rw [hbf]
          refine J_run 200 ?_
          repeat' (first
            | ((with_reducible refine J_draw (id := 10) 200 [] plan36_10 (by kernel_rfl) (by kernel_rfl) ?_); delta plan36_10)
            | (simp (maxSteps := 1000000) (disch := omega) only [go_sem, hg, hg'])
            | ((with_reducible refine CallA.pure ce ?_ ?_); (· simp (disch := omega) only [go_sem, hg, hg']); rintro _ _ ⟨rfl, rfl⟩)
            | ((with_reducible refine CallA.pure a1 ?_ ?_); (· simp (disch := omega) only [go_sem, hg, hg']); rintro _ _ ⟨rfl, rfl⟩)
            | ((with_reducible refine CallA.pure a2 ?_ ?_); (· simp (disch := omega) only [go_sem, hg, hg']); rintro _ _ ⟨rfl, rfl⟩)
            | ((with_reducible first | refine gDt ?_ ?_ | refine gDf ?_ ?_ | refine gNt ?_ ?_ | refine gNf ?_ ?_ | refine cD ?_ ?_ | refine cN ?_ ?_ | refine cB ?_ ?_ | refine gB ?_ ?_ | refine stepGuard_dect ?_ ?_ | refine stepGuard_decf ?_ ?_ | refine stepGuard_ndect ?_ ?_ | refine stepGuard_ndecf ?_ ?_ | refine stepGuard_by ?_ ?_) <;> intro h)
            | with_reducible first | refine And.intro ?_ ?_ | refine J_seq ?_ | refine J_block ?_ | refine J_inBlock ?_ | refine rC ?_ | refine rR ?_ | refine rE ?_ | refine rG ?_ | refine FinQ.now ?_ | refine FinQ.end ?_)
      · refine J_run 200 ?_
        repeat' (first
          | (simp (maxSteps := 1000000) (disch := omega) only [go_sem])
          | ((with_reducible first | refine gDt ?_ ?_ | refine gDf ?_ ?_ | refine gNt ?_ ?_ | refine gNf ?_ ?_ | refine cD ?_ ?_ | refine cN ?_ ?_ | refine cB ?_ ?_ | refine gB ?_ ?_) <;> intro h)
          | with_reducible first | refine And.intro ?_ ?_ | refine J_seq ?_ | refine J_block ?_ | refine J_inBlock ?_ | refine rC ?_ | refine rR ?_ | refine rE ?_ | refine rG ?_ | refine FinQ.now ?_ | refine FinQ.end ?_)
        refine .mk (i + 1) ⟨hlt, fun j q hq hj hji => ?_⟩ (by omega) ?_ ?_
        · rcases Nat.lt_succ_iff_lt_or_eq.1 hji with h3 | rfl
          · exact hpre j q hq hj h3
          · exact hpk q hq (by omega)
        · simp [go_sem, encNet]
        · simp
    · have hbt : b = true := hci.2 fun j k hk hj => hpre j k hk hj (by omega)
      rw [hbt]
      refine J_run 200 ?_
      repeat' (first
        | (simp (maxSteps := 1000000) (disch := omega) only [go_sem])
        | ((with_reducible first | refine gDt ?_ ?_ | refine gDf ?_ ?_ | refine gNt ?_ ?_ | refine gNf ?_ ?_ | refine cD ?_ ?_ | refine cN ?_ ?_ | refine cB ?_ ?_ | refine gB ?_ ?_) <;> intro h)
        | with_reducible first | refine And.intro ?_ ?_ | refine J_seq ?_ | refine J_block ?_ | refine J_inBlock ?_ | refine rC ?_ | refine rR ?_ | refine rE ?_ | refine rG ?_ | refine FinQ.now ?_ | refine FinQ.end ?_)
  · rw [clearR_err h0]
    refine holds_of Tryd.func36 rfl rfl ?_
    refine J_run 200 ?_
    delta Tryd.f36
    simp only [encNet] at c0 ⊢
    iterate 12 (all_goals (try (first
      | (simp (maxSteps := 1000000) (disch := omega) only [go_sem, h0])
      | ((with_reducible refine CallA.pure c0 ?_ ?_); (· simp (disch := omega) only [go_sem, h0]); rintro _ _ ⟨rfl, rfl⟩)
      | ((with_reducible first | refine gDt ?_ ?_ | refine gDf ?_ ?_ | refine gNt ?_ ?_ | refine gNf ?_ ?_ | refine cD ?_ ?_ | refine cN ?_ ?_ | refine cB ?_ ?_ | refine gB ?_ ?_) <;> intro h)
      | with_reducible first | refine And.intro ?_ ?_ | refine J_seq ?_ | refine J_block ?_ | refine J_inBlock ?_ | refine rC ?_ | refine rR ?_ | refine rE ?_ | refine rG ?_ | refine FinQ.now ?_ | refine FinQ.end ?_)))
end Go.Proofs.YtfkiomkfoabnhaaDoor.Abs
