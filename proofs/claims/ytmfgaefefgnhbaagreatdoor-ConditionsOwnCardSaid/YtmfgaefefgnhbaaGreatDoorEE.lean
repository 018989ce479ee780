/- Earthing in the program: what is missing, sides, and whether a zone is secured; the example of the chapter. -/
import Derived.Test.YtmfgaefefgnhbaaGreatDoorED
import Derived.Test.YtmfgaefefgnhbaaGreatDoorEP
import Derived.Test.YtmfgaefefgnhbaaGreatDoorZ3
namespace Go.Proofs.YtmfgaefefgnhbaaGreatDoor.Abs
set_option linter.unusedSimpArgs false
set_option linter.unusedVariables false
set_option maxRecDepth 100000
open Go Go.RowKit

theorem J_gotoE {P : Program} {GT : Ctx} {s : St} {k : List Item} {Q : Exit → St → Prop} {l : Nat} (h : ∃ k', gotoIn l k = some k' ∧ J P GT k' s Q) : J P GT (.code (.goto l) :: k) s Q := by
  obtain ⟨k', h1, h2⟩ := h
  exact J_goto h1 h2
/-- The plan of the region in the loop of missing (plans.py does not look into scopes). -/
def planMiss : Plan := (.take 0 (.take 1 (.take 2 (.take 3 (.take 4 (.take 5 (.fork 6 (.take 7 .done) .none)))))))
noncomputable def missTo (n : Net) (E z : List Int) (i : Nat) : List Int := (z.take i).filter fun v => !protB n E v.toNat
theorem missTo_next {n : Net} {E z : List Int} {i : Nat} (hi : i < z.length) : missTo n E z (i + 1) = missTo n E z i ++ (if protB n E z[i].toNat then [] else [z[i]]) := by
  unfold missTo
  rw [List.take_succ_eq_append_getElem hi, List.filter_append]
  congr 1
  simp only [List.filter_cons, List.filter_nil]
  cases protB n E z[i].toNat <;> rfl
theorem missTo_len {n : Net} {E z : List Int} {i : Nat} : (missTo n E z i).length ≤ i := by
  unfold missTo
  exact Nat.le_trans (List.length_filter_le _ _) (by simp; omega)
theorem missL_to {n : Net} {E z : List Int} : missL n z E = missTo n E z z.length := by unfold missL missTo; rw [List.take_length]
theorem missL_len {n : Net} {E z : List Int} : (missL n z E).length ≤ z.length := List.length_filter_le _ _
set_option maxHeartbeats 8000000 in
theorem missF (n : Net) (hn : n.ok) (z : List Int) (hz : ∀ x, x ∈ z → 0 ≤ x ∧ x < n.nodes.length) (hzl : z.length ≤ 1000000) (E : List Int) (hE : ∀ x, x ∈ E → 0 ≤ x ∧ x < n.nodes.length) (hl : E.length ≤ 1000000) :
    Fn1 Tryz.prog GT0 106 [.agg (encNet n), .lst 1 (z.map encN), .lst 1 (E.map encN)] (.lst 1 ((missL n z E).map encN)) [] := by
  have c := fun v h0 hv => protF n hn v h0 hv E hE hl
  refine holds_of Tryz.func106 rfl rfl ?_
  refine J_run 200 ?_
  delta Tryz.f106
  simp only [encNet] at c ⊢
  iterate 8 (all_goals (try (first
    | (simp (maxSteps := 1000000) (disch := omega) only [go_sem])
    | ((with_reducible first | refine gDt ?_ ?_ | refine gDf ?_ ?_ | refine gNt ?_ ?_ | refine gNf ?_ ?_ | refine cD ?_ ?_ | refine cN ?_ ?_ | refine cB ?_ ?_ | refine gB ?_ ?_) <;> intro h)
    | with_reducible first | refine And.intro ?_ ?_ | refine J_seq ?_ | refine J_block ?_ | refine J_inBlock ?_ | refine rC ?_ | refine rR ?_ | refine rE ?_ | refine rG ?_ | refine FinQ.now ?_ | refine FinQ.end ?_)))
  refine J_scope ?_
  refine J_run 8 ?_
  simp only [go_sem]
  rw [W_zero]
  refine J_seq ?_
  refine J_label ?_
  refine J_nilName 7 1 (by simp only [go_sem]) ?_
  simp only [go_sem]
  refine J_again (upto 9 30) (fun i : Nat => [(8, .raw (.int .i64 i)), (7, .own 1 1 0 (missTo n E z i).length)]) (fun i => [.box (encNet n), .arr 1 ((missTo n E z i).map encN)]) (fun i => i ≤ z.length) (fun i => z.length - i) 0 (by omega) (.le (by simp [go_sem, encNet, missTo]) (by simp)) ?_
  intro i hi ih
  simp only [encNet]
  have htl := missTo_len (n := n) (E := E) (z := z) (i := i)
  by_cases hlt : i < z.length
  · have hg := getD_N hlt
    have hzi := hz _ (List.getElem_mem hlt)
    have cp := c z[i] hzi.1 hzi.2
    have ht := missTo_next (n := n) (E := E) hlt
    have e1 : decide ((i : Int) = z.length) = false := decide_eq_false (by omega)
    obtain ⟨b, hb⟩ : ∃ b, protB n E z[i].toNat = b := ⟨_, rfl⟩
    rw [hb] at cp ht
    cases b
    all_goals
      refine J_run 200 ?_
      iterate 6 (all_goals (try (first
        | (simp (maxSteps := 1000000) (disch := omega) only [go_sem, hg, e1])
        | ((with_reducible first | refine gDt ?_ ?_ | refine gDf ?_ ?_ | refine gNt ?_ ?_ | refine gNf ?_ ?_ | refine cD ?_ ?_ | refine cN ?_ ?_ | refine cB ?_ ?_ | refine gB ?_ ?_) <;> intro h)
        | with_reducible first | refine And.intro ?_ ?_ | refine J_seq ?_ | refine J_block ?_ | refine J_inBlock ?_ | refine rC ?_ | refine rR ?_ | refine rE ?_ | refine rG ?_ | refine FinQ.now ?_ | refine FinQ.end ?_)))
      with_reducible refine J_draw (id := 5) 200 [] planMiss (by kernel_rfl) (by kernel_rfl) ?_
      delta planMiss
      iterate 20 (all_goals (try (first
        | (simp (maxSteps := 1000000) (disch := omega) only [go_sem, hg, e1])
        | ((with_reducible refine CallA.pure cp ?_ ?_); (· simp (disch := omega) only [go_sem, hg, e1]); rintro _ _ ⟨rfl, rfl⟩)
        | ((with_reducible first | refine gDt ?_ ?_ | refine gDf ?_ ?_ | refine gNt ?_ ?_ | refine gNf ?_ ?_ | refine cD ?_ ?_ | refine cN ?_ ?_ | refine cB ?_ ?_ | refine gB ?_ ?_) <;> intro h)
        | with_reducible first | refine And.intro ?_ ?_ | refine J_seq ?_ | refine J_block ?_ | refine J_inBlock ?_ | refine rC ?_ | refine rR ?_ | refine rE ?_ | refine rG ?_ | refine FinQ.now ?_ | refine FinQ.end ?_)))
      with_reducible refine J_gotoE ?_
      refine ⟨_, rfl, ?_⟩
      refine J_seq ?_
      refine J_skip ?_
      refine ih (i + 1) _ (by omega) (by omega) (.le ?_ (by simp))
      rw [ht]; simp [go_sem, encNet, encN]
  · have hie : i = z.length := by omega
    subst hie
    have e1 : decide ((z.length : Int) = z.length) = true := decide_eq_true rfl
    rw [missL_to]
    refine J_run 200 ?_
    iterate 8 (all_goals (try (first
      | (simp (maxSteps := 1000000) (disch := omega) only [go_sem, e1])
      | ((with_reducible first | refine gDt ?_ ?_ | refine gDf ?_ ?_ | refine gNt ?_ ?_ | refine gNf ?_ ?_ | refine cD ?_ ?_ | refine cN ?_ ?_ | refine cB ?_ ?_ | refine gB ?_ ?_) <;> intro h)
      | with_reducible first | refine And.intro ?_ ?_ | refine J_seq ?_ | refine J_block ?_ | refine J_inBlock ?_ | refine rC ?_ | refine rR ?_ | refine rE ?_ | refine rG ?_)))
    refine .frz [1] (.now ?_)
    simp only [go_sem]
    rw [List.take_of_length_le (by simp)]
theorem countL_mem {n : Net} (hn : n.ok) {l : List Lk} {z : List Int} (hz : rising z n.nodes.length = true) {v : Int} (h : v ∈ countL n l z) : 0 ≤ v ∧ v < n.nodes.length := by
  have h1 := (regL_mem hn hz).1 (List.mem_filter.1 h).1
  have := h1.2.lt hn hz
  omega
theorem countL_len {n : Net} {l : List Lk} {z : List Int} : (countL n l z).length ≤ n.nodes.length := Nat.le_trans (List.length_filter_le _ _) reg_len
theorem MissingF (n : Net) (hs : n.sized) (l : List Lk) (hl : l.length ≤ 1000000) (z : List Int) (hz : z.length ≤ 1000000) :
    Fn1 Tryz.prog GT0 69 [.agg (encNet n), .lst 3 (l.map encLk), .lst 1 (z.map encN)] (.tup [.lst 1 ((missingR n l z).1.map encN), .raw (.int .i64 (missingR n l z).2)]) [] := by
  have c := countedF n hs l hl z hz
  by_cases h0 : lockedE n l z = 0
  · obtain ⟨hn, hz0, hzr⟩ := zoneChk_zero (lockedE_zero h0).2
    have hnl := hn.nl
    have e1 : countedR n l z = (countL n l z, 0) := by unfold countedR; rw [if_neg (by simp [h0])]
    have e2 : missingR n l z = (missL n z (countL n l z), 0) := by unfold missingR; rw [if_neg (by simp [h0])]
    have hcl := countL_len (n := n) (l := l) (z := z)
    have cm := missF n hn z (fun x hx => rising_mem hzr hx) hz (countL n l z) (fun x hx => countL_mem hn hzr hx) (by omega)
    rw [e1] at c
    rw [e2]
    refine holds_of Tryz.func69 rfl rfl ?_
    refine J_run 200 ?_
    delta Tryz.f69
    simp only [encNet] at c cm ⊢
    iterate 20 (all_goals (try (first
      | (simp (maxSteps := 1000000) (disch := omega) only [go_sem])
      | ((with_reducible refine CallA.pure c ?_ ?_); (· simp (disch := omega) only [go_sem]); rintro _ _ ⟨rfl, rfl⟩)
      | ((with_reducible refine CallA.pure cm ?_ ?_); (· simp (disch := omega) only [go_sem]); rintro _ _ ⟨rfl, rfl⟩)
      | ((with_reducible first | refine gDt ?_ ?_ | refine gDf ?_ ?_ | refine gNt ?_ ?_ | refine gNf ?_ ?_ | refine cD ?_ ?_ | refine cN ?_ ?_ | refine cB ?_ ?_ | refine gB ?_ ?_) <;> intro h)
      | with_reducible first | refine And.intro ?_ ?_ | refine J_seq ?_ | refine J_block ?_ | refine J_inBlock ?_ | refine rC ?_ | refine rR ?_ | refine rE ?_ | refine rG ?_ | refine FinQ.now ?_ | refine FinQ.end ?_)))
  · have e1 : countedR n l z = ([], lockedE n l z) := by unfold countedR; rw [if_pos h0]
    have e2 : missingR n l z = ([], lockedE n l z) := by unfold missingR; rw [if_pos h0]
    rw [e1] at c
    rw [e2]
    refine holds_ofV Tryz.func69 rfl rfl ?_
    refine J_run 200 ?_
    delta Tryz.f69
    simp only [encNet] at c ⊢
    iterate 20 (all_goals (try (first
      | (simp (maxSteps := 1000000) (disch := omega) only [go_sem, h0, ne_eq, not_false_eq_true, decide_true])
      | ((with_reducible refine CallA.pure c ?_ ?_); (· simp (disch := omega) only [go_sem, h0, ne_eq, not_false_eq_true, decide_true]); rintro _ _ ⟨rfl, rfl⟩)
      | ((with_reducible first | refine gDt ?_ ?_ | refine gDf ?_ ?_ | refine gNt ?_ ?_ | refine gNf ?_ ?_ | refine cD ?_ ?_ | refine cN ?_ ?_ | refine cB ?_ ?_ | refine gB ?_ ?_) <;> intro h)
      | with_reducible first | refine And.intro ?_ ?_ | refine J_seq ?_ | refine J_block ?_ | refine J_inBlock ?_ | refine rC ?_ | refine rR ?_ | refine rE ?_ | refine rG ?_ | refine FinQ.now ?_ | refine FinQ.end ?_)))
    exact ⟨_, .tup (.cons (.nilLst 1) (VLes.refl _)), rfl, rfl⟩
theorem SidesF (n : Net) (hs : n.sized) (l : List Lk) (hl : l.length ≤ 1000000) (z : List Int) (hz : z.length ≤ 1000000) :
    Fn1 Tryz.prog GT0 35 [.agg (encNet n), .lst 3 (l.map encLk), .lst 1 (z.map encN)] (.tup [.raw (.bool (sidesR n l z).1), .raw (.int .i64 (sidesR n l z).2)]) [] := by
  have c := MissingF n hs l hl z hz
  by_cases h0 : lockedE n l z = 0
  · have e1 : missingR n l z = (missL n z (countL n l z), 0) := by unfold missingR; rw [if_neg (by simp [h0])]
    have e2 : sidesR n l z = (decide (missL n z (countL n l z) = []), 0) := by unfold sidesR; rw [if_neg (by simp [h0])]
    have he : decide (missL n z (countL n l z) = []) = decide (((missL n z (countL n l z)).length : Int) = 0) := by rw [decide_eq_decide, ← List.length_eq_zero_iff]; omega
    have hml := missL_len (n := n) (E := countL n l z) (z := z)
    rw [e1] at c
    rw [e2, he]
    refine holds_of Tryz.func35 rfl rfl ?_
    refine J_run 200 ?_
    delta Tryz.f35
    simp only [encNet] at c ⊢
    iterate 20 (all_goals (try (first
      | (simp (maxSteps := 1000000) (disch := omega) only [go_sem])
      | ((with_reducible refine CallA.pure c ?_ ?_); (· simp (disch := omega) only [go_sem]); rintro _ _ ⟨rfl, rfl⟩)
      | ((with_reducible first | refine gDt ?_ ?_ | refine gDf ?_ ?_ | refine gNt ?_ ?_ | refine gNf ?_ ?_ | refine cD ?_ ?_ | refine cN ?_ ?_ | refine cB ?_ ?_ | refine gB ?_ ?_) <;> intro h)
      | with_reducible first | refine And.intro ?_ ?_ | refine J_seq ?_ | refine J_block ?_ | refine J_inBlock ?_ | refine rC ?_ | refine rR ?_ | refine rE ?_ | refine rG ?_ | refine FinQ.now ?_ | refine FinQ.end ?_)))
  · have e1 : missingR n l z = ([], lockedE n l z) := by unfold missingR; rw [if_pos h0]
    have e2 : sidesR n l z = (false, lockedE n l z) := by unfold sidesR; rw [if_pos h0]
    rw [e1] at c
    rw [e2]
    refine holds_of Tryz.func35 rfl rfl ?_
    refine J_run 200 ?_
    delta Tryz.f35
    simp only [encNet] at c ⊢
    iterate 20 (all_goals (try (first
      | (simp (maxSteps := 1000000) (disch := omega) only [go_sem, h0, decide_false])
      | ((with_reducible refine CallA.pure c ?_ ?_); (· simp (disch := omega) only [go_sem, h0, decide_false]); rintro _ _ ⟨rfl, rfl⟩)
      | ((with_reducible first | refine gDt ?_ ?_ | refine gDf ?_ ?_ | refine gNt ?_ ?_ | refine gNf ?_ ?_ | refine cD ?_ ?_ | refine cN ?_ ?_ | refine cB ?_ ?_ | refine gB ?_ ?_) <;> intro h)
      | with_reducible first | refine And.intro ?_ ?_ | refine J_seq ?_ | refine J_block ?_ | refine J_inBlock ?_ | refine rC ?_ | refine rR ?_ | refine rE ?_ | refine rG ?_ | refine FinQ.now ?_ | refine FinQ.end ?_)))
end Go.Proofs.YtmfgaefefgnhbaaGreatDoor.Abs
