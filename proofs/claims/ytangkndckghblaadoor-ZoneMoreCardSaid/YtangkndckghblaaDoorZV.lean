/- slices.DeleteFunc over numbers: what it computes. -/
import Derived.Test.YtangkndckghblaaDoorZM
import Derived.Test.YtangkndckghblaaDoorZO
namespace Go.Proofs.YtangkndckghblaaDoor.Abs
set_option linter.unusedSimpArgs false
set_option linter.unusedVariables false
set_option maxRecDepth 100000
open Go Go.RowKit

/-- What is kept of the first j. -/
def kept (pr : Int → Bool) (ys : List Int) (j : Nat) : List Int := (ys.take j).filter fun y => !pr y
theorem kept_next {pr : Int → Bool} {ys : List Int} {j : Nat} (hj : j < ys.length) : kept pr ys (j + 1) = kept pr ys j ++ (if pr ys[j] then [] else [ys[j]]) := by
  unfold kept
  rw [List.take_succ_eq_append_getElem hj, List.filter_append]
  congr 1
  cases h : pr ys[j] <;> simp [h]
theorem kept_len {pr : Int → Bool} {ys : List Int} {j : Nat} : (kept pr ys j).length ≤ j := by
  unfold kept
  exact Nat.le_trans (List.length_filter_le _ _) (by simp; omega)
theorem set_encN {l : List Int} {k : Nat} {x : Int} (hk : k < l.length) : (l.map encN).set k (.raw (.int .i64 x) :: List.drop 1 ((l.map encN).getD k [])) = (l.set k x).map encN := by
  rw [getD_N hk, List.map_set]; rfl
theorem firstAt_or (pr : Int → Bool) (ys : List Int) : (firstAt pr ys = -1 ∧ ∀ y, y ∈ ys → pr y = false) ∨ ∃ (i : Nat) (hi : i < ys.length), firstAt pr ys = i ∧ pr ys[i] = true ∧ ∀ j (hj : j < i), pr (ys[j]'(by omega)) = false := by
  by_cases h : ∀ y, y ∈ ys → pr y = false
  · exact .inl ⟨firstAt_none h, h⟩
  · right
    have hex : ∃ i, ∃ hi : i < ys.length, pr ys[i] = true := by
      apply Classical.byContradiction
      intro hne
      apply h
      intro y hy
      obtain ⟨i, hi, rfl⟩ := List.getElem_of_mem hy
      cases hp : pr ys[i] with
      | false => rfl
      | true => exact absurd ⟨i, hi, hp⟩ hne
    obtain ⟨i, ⟨hi, hp⟩, hmin⟩ : ∃ i, (∃ hi : i < ys.length, pr ys[i] = true) ∧ ∀ j, j < i → ¬ ∃ hj : j < ys.length, pr ys[j] = true := by
      obtain ⟨i, hi⟩ := hex
      induction i using Nat.strongRecOn with
      | _ i ih =>
        by_cases hj : ∃ j, j < i ∧ ∃ hj : j < ys.length, pr ys[j] = true
        · obtain ⟨j, h1, h2⟩ := hj
          exact ih j h1 h2
        · exact ⟨i, hi, fun j h1 h2 => hj ⟨j, h1, h2⟩⟩
    have hpre : ∀ j (hj : j < i), pr (ys[j]'(by omega)) = false := fun j hj => by
      cases hp : pr (ys[j]'(by omega)) with
      | false => rfl
      | true => exact absurd ⟨by omega, hp⟩ (hmin j hj)
    exact ⟨i, hi, firstAt_some hi hp hpre, hp, hpre⟩
set_option maxHeartbeats 2000000 in
theorem deleteFunc (ys : List Int) (fn : FuncId) (cap : List AV) (hcap : AV.immL cap = true) (pr : Int → Bool) (hl : ys.length ≤ 1000000)
    (hp : ∀ y, y ∈ ys → Fn1 Tryd.prog GT0 fn (.raw (.int .i64 y) :: cap) (.raw (.bool (pr y))) []) :
    Holds Tryd.prog GT0 46 [.own 0 1 0 ys.length, .clo (.func fn) [] cap] [.arr 1 (ys.map encN)]
      (Ret (.own 0 1 0 (ys.filter fun y => !pr y).length) [.arr 1 ((ys.filter fun y => !pr y).map encN ++ List.replicate (ys.length - (ys.filter fun y => !pr y).length) (encN 0))]) := by
  have hcapk := fun s => AV.keepsL_imm s cap hcap
  have hlu := fun f => AV.leafsL_imm f cap hcap
  have ci := indexFunc ys fn cap hcap pr (by omega) hp
  refine holds_of Tryd.func46 rfl rfl ?_
  refine J_run 200 ?_
  delta Tryd.f46
  iterate 6 (all_goals (try (first
    | (simp (maxSteps := 1000000) (disch := omega) only [go_sem, hlu, hcapk])
    | ((with_reducible first | refine gDt ?_ ?_ | refine gDf ?_ ?_ | refine gNt ?_ ?_ | refine gNf ?_ ?_ | refine cD ?_ ?_ | refine cN ?_ ?_ | refine cB ?_ ?_ | refine gB ?_ ?_) <;> intro h)
    | with_reducible first | refine And.intro ?_ ?_ | refine J_seq ?_ | refine J_block ?_ | refine J_inBlock ?_ | refine rC ?_ | refine rR ?_ | refine rE ?_ | refine rG ?_ | refine FinQ.now ?_ | refine FinQ.end ?_)))
  refine CallA.keep [0] ?_ ?_ ci ?_
  · simp only [go_sem, hlu]
    rw [List.take_of_length_le (by simp)]
  · simp only [go_sem, hcap]
  rintro _ _ ⟨rfl, rfl⟩
  refine ⟨⟨rfl, fun _ h => by cases h⟩, ?_⟩
  rcases firstAt_or pr ys with ⟨h1, h2⟩ | ⟨i, hi, h1, h2, h3⟩
  · rw [h1]
    have hf : (ys.filter fun y => !pr y) = ys := by
      rw [List.filter_eq_self]
      intro y hy
      simp [h2 y hy]
    rw [hf]
    iterate 10 (all_goals (try (first
      | (simp (maxSteps := 1000000) (disch := omega) only [go_sem, hlu, hcapk])
      | ((with_reducible first | refine gDt ?_ ?_ | refine gDf ?_ ?_ | refine gNt ?_ ?_ | refine gNf ?_ ?_ | refine cD ?_ ?_ | refine cN ?_ ?_ | refine cB ?_ ?_ | refine gB ?_ ?_) <;> intro h)
      | with_reducible first | refine And.intro ?_ ?_ | refine J_seq ?_ | refine J_block ?_ | refine J_inBlock ?_ | refine rC ?_ | refine rR ?_ | refine rE ?_ | refine rG ?_ | refine FinQ.now ?_ | refine FinQ.end ?_)))
    all_goals trace_state
  · rw [h1]
    iterate 8 (all_goals (try (first
      | (simp (maxSteps := 1000000) (disch := omega) only [go_sem, hlu, hcapk])
      | ((with_reducible first | refine gDt ?_ ?_ | refine gDf ?_ ?_ | refine gNt ?_ ?_ | refine gNf ?_ ?_ | refine cD ?_ ?_ | refine cN ?_ ?_ | refine cB ?_ ?_ | refine gB ?_ ?_) <;> intro h)
      | with_reducible first | refine And.intro ?_ ?_ | refine J_seq ?_ | refine J_block ?_ | refine J_inBlock ?_ | refine rC ?_ | refine rR ?_ | refine rE ?_ | refine rG ?_ | refine FinQ.now ?_ | refine FinQ.end ?_)))
    have hk0 : kept pr ys (i + 1) = ys.take i := by
      rw [kept_next hi, if_pos h2, List.append_nil]
      unfold kept
      rw [List.filter_eq_self]
      intro y hy
      obtain ⟨j, hj, rfl⟩ := List.getElem_of_mem hy
      simp only [List.length_take] at hj
      rw [List.getElem_take, h3 j (by omega)]; rfl
    refine J_for ([7] ++ upto 16 35) (fun x : Nat × List Int => [(5, .raw (.int .i64 (kept pr ys x.1).length)), (6, .raw (.int .i64 x.1))]) (fun x => [.arr 1 (x.2.map encN)]) (fun x => x.1 ≤ ys.length ∧ x.2.length = ys.length ∧ x.2.take (kept pr ys x.1).length = kept pr ys x.1 ∧ x.2.drop x.1 = ys.drop x.1) (fun x => ys.length - x.1) (i + 1, ys) ⟨by simp only; omega, rfl, ?_, rfl⟩ (.le ?_ (by simp)) ?_
    · simp only [hk0]; rw [List.length_take, Nat.min_eq_left (by omega)]
    · simp only [hk0, List.length_take, Nat.min_eq_left (Nat.le_of_lt hi)]; simp [go_sem, hcapk]
    rintro ⟨j, B⟩ ⟨hj, hBl, hBt, hBd⟩
    simp only at hj hBl hBt hBd
    have hkl := kept_len (pr := pr) (ys := ys) (j := j)
    by_cases hlt : j < ys.length
    · have hx : B[j]'(by omega) = ys[j] := by
        have h := congrArg (fun l => l[0]?) hBd
        simpa [List.getElem?_eq_getElem hlt, List.getElem?_eq_getElem (show j < B.length by omega)] using h
      have hgn : (B.map encN).getD j [] = [.raw (.int .i64 ys[j])] := by rw [getD_N (by omega), hx]
      have hpx := hp _ (List.getElem_mem hlt)
      have hkn := kept_next (pr := pr) hlt
      obtain ⟨o, ho⟩ : ∃ o, pr ys[j] = o := ⟨_, rfl⟩
      rw [ho] at hpx hkn
      cases o with
      | true =>
        refine J_run 200 ?_
        iterate 4 (all_goals (try (first
          | (simp (maxSteps := 1000000) (disch := omega) only [go_sem, hgn, hlu, hcapk])
          | ((with_reducible first | refine gDt ?_ ?_ | refine gDf ?_ ?_ | refine gNt ?_ ?_ | refine gNf ?_ ?_ | refine cD ?_ ?_ | refine cN ?_ ?_ | refine cB ?_ ?_ | refine gB ?_ ?_) <;> intro h)
          | with_reducible first | refine And.intro ?_ ?_ | refine J_seq ?_ | refine J_block ?_ | refine J_inBlock ?_ | refine rC ?_ | refine rR ?_ | refine rE ?_ | refine rG ?_ | refine FinQ.now ?_ | refine FinQ.end ?_)))
        refine CallA.pure hpx (by simp [go_sem, hcap]) ?_
        rintro _ _ ⟨rfl, rfl⟩
        iterate 8 (all_goals (try (first
          | (simp (maxSteps := 1000000) (disch := omega) only [go_sem, hlu, hcapk])
          | ((with_reducible first | refine gDt ?_ ?_ | refine gDf ?_ ?_ | refine gNt ?_ ?_ | refine gNf ?_ ?_ | refine cD ?_ ?_ | refine cN ?_ ?_ | refine cB ?_ ?_ | refine gB ?_ ?_) <;> intro h)
          | with_reducible first | refine And.intro ?_ ?_ | refine J_seq ?_ | refine J_block ?_ | refine J_inBlock ?_ | refine rC ?_ | refine rR ?_ | refine rE ?_ | refine rG ?_ | refine FinQ.now ?_ | refine FinQ.end ?_)))
        simp only [if_true, List.append_nil] at hkn
        refine .mk (j + 1, B) ⟨by simp only; omega, hBl, by simp only [hkn]; exact hBt, ?_⟩ (by simp only; omega) ?_ ?_
        · simp only
          rw [← List.drop_drop, ← List.drop_drop, hBd]
        · simp only [hkn]; simp [go_sem, hcapk]
        · simp
      | false =>
        refine J_run 200 ?_
        iterate 4 (all_goals (try (first
          | (simp (maxSteps := 1000000) (disch := omega) only [go_sem, hgn, hlu, hcapk])
          | ((with_reducible first | refine gDt ?_ ?_ | refine gDf ?_ ?_ | refine gNt ?_ ?_ | refine gNf ?_ ?_ | refine cD ?_ ?_ | refine cN ?_ ?_ | refine cB ?_ ?_ | refine gB ?_ ?_) <;> intro h)
          | with_reducible first | refine And.intro ?_ ?_ | refine J_seq ?_ | refine J_block ?_ | refine J_inBlock ?_ | refine rC ?_ | refine rR ?_ | refine rE ?_ | refine rG ?_ | refine FinQ.now ?_ | refine FinQ.end ?_)))
        refine CallA.pure hpx (by simp [go_sem, hcap]) ?_
        rintro _ _ ⟨rfl, rfl⟩
        iterate 8 (all_goals (try (first
          | (simp (maxSteps := 1000000) (disch := omega) only [go_sem, hlu, hcapk])
          | ((with_reducible first | refine gDt ?_ ?_ | refine gDf ?_ ?_ | refine gNt ?_ ?_ | refine gNf ?_ ?_ | refine cD ?_ ?_ | refine cN ?_ ?_ | refine cB ?_ ?_ | refine gB ?_ ?_) <;> intro h)
          | with_reducible first | refine And.intro ?_ ?_ | refine J_seq ?_ | refine J_block ?_ | refine J_inBlock ?_ | refine rC ?_ | refine rR ?_ | refine rE ?_ | refine rG ?_ | refine FinQ.now ?_ | refine FinQ.end ?_)))
        have hkB : (kept pr ys j).length < B.length := by omega
        rw [set_encN hkB]
        have hkn' : kept pr ys (j + 1) = kept pr ys j ++ [ys[j]] := by rw [hkn]; rfl
        refine .mk (j + 1, B.set (kept pr ys j).length ys[j]) ⟨by simp only; omega, by simp [hBl], ?_, ?_⟩ (by simp only; omega) ?_ ?_
        · simp only [hkn']
          rw [List.length_append, List.length_singleton, List.take_succ_eq_append_getElem (by simpa using hkB), List.take_set_of_le (Nat.le_refl _), hBt]
          simp
        · simp only
          rw [List.drop_set_of_lt (by omega), ← List.drop_drop, ← List.drop_drop, hBd]
        · simp only [hkn']; simp [go_sem, hcapk]
        · simp
    have hje : j = ys.length := by omega
    subst hje
    refine J_run 200 ?_
    iterate 8 (all_goals (try (first
      | (simp (maxSteps := 1000000) (disch := omega) only [go_sem, hlu, hcapk])
      | ((with_reducible first | refine gDt ?_ ?_ | refine gDf ?_ ?_ | refine gNt ?_ ?_ | refine gNf ?_ ?_ | refine cD ?_ ?_ | refine cN ?_ ?_ | refine cB ?_ ?_ | refine gB ?_ ?_) <;> intro h)
      | with_reducible first | refine And.intro ?_ ?_ | refine J_seq ?_ | refine J_block ?_ | refine J_inBlock ?_ | refine rC ?_ | refine rR ?_ | refine rE ?_ | refine rG ?_ | refine FinQ.now ?_ | refine FinQ.end ?_)))
    have hke : kept pr ys ys.length = ys.filter fun y => !pr y := by unfold kept; rw [List.take_length]
    · rw [hke]
    · have hke : kept pr ys ys.length = ys.filter fun y => !pr y := by unfold kept; rw [List.take_length]
      rw [List.drop_of_length_le (by simp; omega), List.append_nil, ← List.map_take, hBt, hke]
      rfl
end Go.Proofs.YtangkndckghblaaDoor.Abs
