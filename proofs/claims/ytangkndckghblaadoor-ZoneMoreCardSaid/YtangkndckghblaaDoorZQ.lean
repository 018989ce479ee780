/- zone.check, zone.enough, zone.Enough, zone.Region: what they compute. -/
import Derived.Test.YtangkndckghblaaDoorZO
namespace Go.Proofs.YtangkndckghblaaDoor.Abs
set_option linter.unusedSimpArgs false
set_option linter.unusedVariables false
set_option maxRecDepth 100000
open Go Go.RowKit

theorem gErr_inv {n : Net} {gaps : List Int} {j : Nat} (h : gErr n gaps j = 0) : 0 ≤ gaps.getD j 0 ∧ gaps.getD j 0 < n.devs.length ∧ (0 < j → gaps.getD (j - 1) 0 < gaps.getD j 0) ∧ gapK (n.devs.getD (gaps.getD j 0).toNat ⟨⟨#[]⟩, 0, 0, 0, 0⟩).kind = true := by
  unfold gErr at h
  split at h
  · cases h
  · rename_i h1
    split at h
    · cases h
    · rename_i h2
      exact ⟨by omega, by omega, fun h => by omega, by simpa using h2⟩
theorem rising_take {n : Net} {gaps : List Int} {i : Nat} (hi : i < gaps.length) (hpre : ∀ j, j < i → gErr n gaps j = 0) :
    rising (gaps.take (i + 1)) n.devs.length = true ↔ ¬ (gaps[i] < 0 ∨ (n.devs.length : Int) ≤ gaps[i] ∨ (0 < i ∧ gaps[i] ≤ gaps.getD (i - 1) 0)) := by
  have hgi : gaps.getD i 0 = gaps[i] := by simp [List.getD_eq_getElem?_getD, hi]
  have hl : (gaps.take (i + 1)).length = i + 1 := by simp; omega
  have hgt : ∀ j, j < i + 1 → (gaps.take (i + 1)).getD j 0 = gaps.getD j 0 := fun j hj => by
    simp [List.getD_eq_getElem?_getD, List.getElem?_take, hj]
  have hge : ∀ j (hj : j < (gaps.take (i + 1)).length), (gaps.take (i + 1))[j] = gaps.getD j 0 := fun j hj => by
    rw [List.getElem_take]; simp [List.getD_eq_getElem?_getD, show j < gaps.length by omega]
  unfold rising
  rw [risingFrom_iff]
  constructor
  · intro h
    have h1 := h i (by omega)
    rw [hge i (by omega), hgi] at h1
    rcases i with _ | i
    · simp at h1; omega
    · rw [if_neg (by omega), Nat.add_sub_cancel, hgt i (by omega)] at h1
      have h2 := gErr_inv (hpre i (by omega))
      simp only [Nat.add_sub_cancel]
      omega
  · intro h j hj
    rw [hge j hj]
    have hji : j < i + 1 := by omega
    by_cases e : j = i
    · subst e
      rw [hgi]
      rcases j with _ | j
      · simp; omega
      · rw [if_neg (by omega), Nat.add_sub_cancel, hgt j (by omega)]
        simp only [Nat.add_sub_cancel] at h
        omega
    · have h2 := gErr_inv (hpre j (by omega))
      rcases j with _ | j
      · simp at h2 ⊢; omega
      · rw [if_neg (by omega), Nat.add_sub_cancel, hgt j (by omega)]
        have := h2.2.2.1 (by omega)
        simp only [Nat.add_sub_cancel] at this
        omega
set_option maxHeartbeats 2000000 in
theorem faultF (n : Net) (hs : n.sized) (zone gaps : List Int) (hzl : zone.length ≤ 1000000) (hgl : gaps.length ≤ 1000000) :
    Fn1 Tryd.prog GT0 48 [.agg (encNet n), .lst 1 (zone.map encN), .lst 1 (gaps.map encN)] (.raw (.int .i64 (fault n zone gaps))) [] := by
  have c := checkZ n hs zone hzl
  have h1 := hs.dl
  by_cases h0 : zoneChk n zone = 0
  · have hn := (zoneChk_zero h0).1
    have hdl := hn.dl
    have hf : fault n zone gaps = firstE (gErr n gaps) gaps.length := by unfold fault; rw [if_neg (by simp [h0])]
    rw [h0] at c
    rw [hf]
    refine holds_of Tryd.func48 rfl rfl ?_
    refine J_run 200 ?_
    delta Tryd.f48
    simp only [encNet] at c ⊢
    repeat' (first
      | (simp (maxSteps := 1000000) (disch := omega) only [go_sem])
      | ((with_reducible refine CallA.pure c ?_ ?_); (· simp only [go_sem]); rintro _ _ ⟨rfl, rfl⟩)
      | ((with_reducible first | refine gDt ?_ ?_ | refine gDf ?_ ?_ | refine gNt ?_ ?_ | refine gNf ?_ ?_ | refine cD ?_ ?_ | refine cN ?_ ?_ | refine cB ?_ ?_ | refine gB ?_ ?_) <;> intro h)
      | with_reducible first | refine And.intro ?_ ?_ | refine J_seq ?_ | refine J_block ?_ | refine J_inBlock ?_ | refine rC ?_ | refine rR ?_ | refine rE ?_ | refine rG ?_ | refine FinQ.now ?_ | refine FinQ.end ?_)
    refine J_for ([8, 9] ++ upto 19 42) (fun i : Nat => [(18, .raw (.int .i64 i))]) (fun _ => [.box [.lst 3 (n.nodes.map encNd), .lst 5 (n.devs.map encDv)]]) (fun i => i ≤ gaps.length ∧ ∀ j, j < i → gErr n gaps j = 0) (fun i => gaps.length - i) 0 ⟨by omega, by omega⟩ (.le (by simp [go_sem]) (by simp)) ?_
    rintro i ⟨hi, hpre⟩
    by_cases hlt : i < gaps.length
    · have cr := risingF (gaps.take (i + 1)) n.devs.length (by simp; omega)
      simp only [List.map_take] at cr
      have hrt := rising_take (n := n) hlt hpre
      have hgi : gaps.getD i 0 = gaps[i] := by simp [List.getD_eq_getElem?_getD, hlt]
      have hgn := getD_N hlt
      by_cases hc : gaps[i] < 0 ∨ (n.devs.length : Int) ≤ gaps[i] ∨ (0 < i ∧ gaps[i] ≤ gaps.getD (i - 1) 0)
      · have hr : rising (gaps.take (i + 1)) n.devs.length = false := by
          cases h : rising (gaps.take (i + 1)) n.devs.length with
          | false => rfl
          | true => exact absurd hc (hrt.1 h)
        rw [hr] at cr
        refine J_run 200 ?_
        repeat' (first
          | ((with_reducible refine J_draw (id := 7) 200 [] plan48_7 (by kernel_rfl) (by kernel_rfl) ?_); delta plan48_7)
          | (simp (maxSteps := 1000000) (disch := omega) only [go_sem, hgn])
          | ((with_reducible refine CallA.pure cr ?_ ?_); (· simp only [go_sem]); rintro _ _ ⟨rfl, rfl⟩)
          | ((with_reducible first | refine gDt ?_ ?_ | refine gDf ?_ ?_ | refine gNt ?_ ?_ | refine gNf ?_ ?_ | refine cD ?_ ?_ | refine cN ?_ ?_ | refine cB ?_ ?_ | refine gB ?_ ?_) <;> intro h)
          | with_reducible first | refine And.intro ?_ ?_ | refine J_seq ?_ | refine J_block ?_ | refine J_inBlock ?_ | refine rC ?_ | refine rR ?_ | refine rE ?_ | refine rG ?_ | refine FinQ.now ?_ | refine FinQ.end ?_)
        have hg8 : gErr n gaps i = 8 := by unfold gErr; rw [if_pos (by rw [hgi]; exact hc)]
        rw [firstE_hit hlt hpre (by omega), hg8]
      · rw [hrt.2 hc] at cr
        have hgd := getD_DvL (l := n.devs) (i := gaps[i].toNat) (by omega)
        have cg := gap (n.devs[gaps[i].toNat]'(by omega)).kind
        have hgv : gErr n gaps i = if gapK (n.devs[gaps[i].toNat]'(by omega)).kind = false then 6 else 0 := by
          unfold gErr
          rw [hgi, if_neg hc, getD_get]
        refine J_run 200 ?_
        repeat' (first
          | ((with_reducible refine J_draw (id := 7) 200 [] plan48_7 (by kernel_rfl) (by kernel_rfl) ?_); delta plan48_7)
          | (simp (maxSteps := 1000000) (disch := omega) only [go_sem, hgn, hgd])
          | ((with_reducible refine CallA.pure cr ?_ ?_); (· simp only [go_sem]); rintro _ _ ⟨rfl, rfl⟩)
          | ((with_reducible refine CallA.pure cg ?_ ?_); (· simp only [go_sem]); rintro _ _ ⟨rfl, rfl⟩)
          | ((with_reducible first | refine gDt ?_ ?_ | refine gDf ?_ ?_ | refine gNt ?_ ?_ | refine gNf ?_ ?_ | refine cD ?_ ?_ | refine cN ?_ ?_ | refine cB ?_ ?_ | refine gB ?_ ?_) <;> intro h)
          | with_reducible first | refine And.intro ?_ ?_ | refine J_seq ?_ | refine J_block ?_ | refine J_inBlock ?_ | refine rC ?_ | refine rR ?_ | refine rE ?_ | refine rG ?_ | refine FinQ.now ?_ | refine FinQ.end ?_)
        · have hk : gapK (n.devs[gaps[i].toNat]'(by omega)).kind = false := by simpa using h
          rw [if_pos hk] at hgv
          rw [firstE_hit hlt hpre (by omega), hgv]
        · have hk : ¬ gapK (n.devs[gaps[i].toNat]'(by omega)).kind = false := by simpa using h
          rw [if_neg hk] at hgv
          refine .mk (i + 1) ⟨hlt, fun j hj => ?_⟩ (by omega) (by simp [go_sem]) (by simp)
          rcases Nat.lt_succ_iff_lt_or_eq.1 hj with h3 | rfl
          · exact hpre j h3
          · exact hgv
    · refine J_run 200 ?_
      repeat' (first
        | (simp (maxSteps := 1000000) (disch := omega) only [go_sem])
        | ((with_reducible first | refine gDt ?_ ?_ | refine gDf ?_ ?_ | refine gNt ?_ ?_ | refine gNf ?_ ?_ | refine cD ?_ ?_ | refine cN ?_ ?_ | refine cB ?_ ?_ | refine gB ?_ ?_) <;> intro h)
        | with_reducible first | refine And.intro ?_ ?_ | refine J_seq ?_ | refine J_block ?_ | refine J_inBlock ?_ | refine rC ?_ | refine rR ?_ | refine rE ?_ | refine rG ?_ | refine FinQ.now ?_ | refine FinQ.end ?_)
      rw [firstE_none fun j hj => hpre j (by omega)]
  · have hf : fault n zone gaps = zoneChk n zone := by unfold fault; rw [if_pos h0]
    rw [hf]
    refine holds_of Tryd.func48 rfl rfl ?_
    refine J_run 200 ?_
    delta Tryd.f48
    simp only [encNet] at c ⊢
    repeat' (first
      | (exfalso; omega)
      | (simp (maxSteps := 1000000) (disch := omega) only [go_sem])
      | ((with_reducible refine CallA.pure c ?_ ?_); (· simp only [go_sem]); rintro _ _ ⟨rfl, rfl⟩)
      | ((with_reducible first | refine gDt ?_ ?_ | refine gDf ?_ ?_ | refine gNt ?_ ?_ | refine gNf ?_ ?_ | refine cD ?_ ?_ | refine cN ?_ ?_ | refine cB ?_ ?_ | refine gB ?_ ?_) <;> intro h)
      | with_reducible first | refine And.intro ?_ ?_ | refine J_seq ?_ | refine J_block ?_ | refine J_inBlock ?_ | refine rC ?_ | refine rR ?_ | refine rE ?_ | refine rG ?_ | refine FinQ.now ?_ | refine FinQ.end ?_)
theorem at56 {n : Net} {zone gaps : List Int} {i : Nat} (hi : i < n.devs.length) (hk : n.devs[i].kind = 5 ∨ n.devs[i].kind = 6) : atB n zone gaps i = true ↔ RG n zone gaps n.devs[i].a.toNat := by
  simp only [atB, decide_eq_true_eq, Int.toNat_natCast, List.getElem?_eq_getElem hi, Option.some.injEq]
  constructor
  · rintro ⟨d, rfl, h | ⟨h, _⟩⟩
    · exact h
    · simp only [joinsK, decide_eq_true_eq] at h; omega
  · exact fun h => ⟨_, rfl, .inl h⟩
end Go.Proofs.YtangkndckghblaaDoor.Abs
