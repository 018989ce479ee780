/- References: the parts of a state. -/
import Derived.Test.YthgcmeniecaemaaDoorRTA
import Derived.Test.YthgcmeniecaemaaDoorRS
import Derived.Test.YthgcmeniecaemaaDoorZ3
import Derived.Test.YthgcmeniecaemaaDoorT3
namespace Go.Proofs.YthgcmeniecaemaaDoor.Abs
set_option linter.unusedSimpArgs false
set_option linter.unusedVariables false
set_option maxRecDepth 100000
open Go Go.RowKit

def initTo (N i : Nat) : List Int := (List.range N).map fun v => if v < i then (v : Int) else 0
theorem initTo_len {N i : Nat} : (initTo N i).length = N := by simp [initTo]
theorem initTo_next {N i : Nat} (hi : i < N) : initTo N (i + 1) = (initTo N i).set i (i : Int) := by
  apply List.ext_getElem (by simp [initTo])
  intro v h1 h2
  have hv : v < N := by simpa [initTo] using h1
  rw [List.getElem_set]
  simp only [initTo, List.getElem_map, List.getElem_range]
  by_cases e : i = v
  · subst e; simp
  · rw [if_neg e]
    by_cases h : v < i
    · rw [if_pos (by omega), if_pos h]
    · rw [if_neg (by omega), if_neg h]
theorem initTo_zero {N : Nat} : (initTo N 0).map encN = List.replicate N [.raw (.int .i64 0)] := by
  simp only [initTo, List.map_map]
  apply List.ext_getElem (by simp)
  intro v h1 h2
  simp [encN]
theorem initTo_all {N : Nat} : initTo N N = (List.range N).map Int.ofNat := by
  unfold initTo
  apply List.map_congr_left
  intro v hv
  rw [if_pos (List.mem_range.1 hv)]; rfl
def PartsR (n : Net) (st : List Int) (r : AV) (os : List Obj) : Prop := ∃ out, Parts n st out ∧ r = .tup [.lst 1 (out.map encN), .raw (.int .i64 0)] ∧ os = []
set_option maxHeartbeats 8000000 in
theorem partsF (n : Net) (hn : n.ok) (st : List Int) (h0 : posChk n st 2 = 0) (hst : st.length = n.devs.length) : Holds Tryd.prog GT0 24 [.agg (encNet n), .lst 1 (st.map encN)] [] (PartsR n st) := by
  have hnl := hn.nl
  have hdl := hn.dl
  have c := stateChk n hn.sized st (by omega)
  rw [h0] at c
  refine holds_of Tryd.func24 rfl rfl ?_
  refine J_run 200 ?_
  delta Tryd.f24
  simp only [encNet] at c ⊢
  iterate 10 (all_goals (try (first
    | (simp (maxSteps := 1000000) (disch := omega) only [go_sem])
    | ((with_reducible refine CallA.pure c ?_ ?_); (· simp (disch := omega) only [go_sem]); rintro _ _ ⟨rfl, rfl⟩)
    | ((with_reducible first | refine gDt ?_ ?_ | refine gDf ?_ ?_ | refine gNt ?_ ?_ | refine gNf ?_ ?_ | refine cD ?_ ?_ | refine cN ?_ ?_ | refine cB ?_ ?_ | refine gB ?_ ?_) <;> intro h)
    | with_reducible first | refine And.intro ?_ ?_ | refine J_seq ?_ | refine J_block ?_ | refine J_inBlock ?_ | refine rC ?_ | refine rR ?_ | refine rE ?_ | refine rG ?_ | refine FinQ.now ?_ | refine FinQ.end ?_)))
  refine J_for (upto 23 32) (fun i : Nat => [(8, .raw (.int .i64 i))]) (fun i => [.box (encNet n), .arr 1 ((initTo n.nodes.length i).map encN)]) (fun i => i ≤ n.nodes.length) (fun i => n.nodes.length - i) 0 (by omega) (.le (by simp [go_sem, encNet, initTo_zero]) (by simp)) ?_
  intro i hi
  simp only [encNet]
  have hil := initTo_len (N := n.nodes.length) (i := i)
  by_cases hlt : i < n.nodes.length
  · have ht := initTo_next hlt
    have hse := set_encN (l := initTo n.nodes.length i) (k := i) (x := i) (by omega)
    refine J_run 200 ?_
    iterate 14 (all_goals (try (first
      | (simp (maxSteps := 1000000) (disch := omega) only [go_sem])
      | ((with_reducible first | refine gDt ?_ ?_ | refine gDf ?_ ?_ | refine gNt ?_ ?_ | refine gNf ?_ ?_ | refine cD ?_ ?_ | refine cN ?_ ?_ | refine cB ?_ ?_ | refine gB ?_ ?_) <;> intro h)
      | with_reducible first | refine And.intro ?_ ?_ | refine J_seq ?_ | refine J_block ?_ | refine J_inBlock ?_ | refine rC ?_ | refine rR ?_ | refine rE ?_ | refine rG ?_ | refine FinQ.now ?_ | refine FinQ.end ?_)))
    refine .mk (i + 1) hlt (by omega) ?_ ?_
    · rw [ht, ← hse]; simp [go_sem, encNet]
    · simp
  have hie : i = n.nodes.length := by omega
  subst hie
  refine J_run 200 ?_
  iterate 10 (all_goals (try (first
    | (simp (maxSteps := 1000000) (disch := omega) only [go_sem])
    | ((with_reducible first | refine gDt ?_ ?_ | refine gDf ?_ ?_ | refine gNt ?_ ?_ | refine gNf ?_ ?_ | refine cD ?_ ?_ | refine cN ?_ ?_ | refine cB ?_ ?_ | refine gB ?_ ?_) <;> intro h)
    | with_reducible first | refine And.intro ?_ ?_ | refine J_seq ?_ | refine J_block ?_ | refine J_inBlock ?_ | refine rC ?_ | refine rR ?_ | refine rE ?_ | refine rG ?_ | refine FinQ.now ?_ | refine FinQ.end ?_)))
  rw [initTo_all]
  refine J_for ([10, 11, 12] ++ upto 33 90) (fun x : Bool × List Int => [(9, .raw (.bool x.1))]) (fun x => [.box (encNet n), .arr 1 (x.2.map encN)]) (fun x => Lab n st x.2 ∧ (x.1 = false → ∀ i, i < n.devs.length → EqAt n st x.2 i)) (fun x => 2 * sumL x.2 + (if x.1 then 1 else 0)) (true, (List.range n.nodes.length).map Int.ofNat) ⟨.zero, by simp⟩ (.le (by simp [go_sem, encNet]) (by simp)) ?_
  rintro ⟨ch, out⟩ ⟨hLab, hEq⟩
  simp only [encNet] at hLab hEq ⊢
  have hol := hLab.len
  cases ch with
  | false =>
    refine J_run 200 ?_
    iterate 10 (all_goals (try (first
      | (simp (maxSteps := 1000000) (disch := omega) only [go_sem])
      | ((with_reducible first | refine gDt ?_ ?_ | refine gDf ?_ ?_ | refine gNt ?_ ?_ | refine gNf ?_ ?_ | refine cD ?_ ?_ | refine cN ?_ ?_ | refine cB ?_ ?_ | refine gB ?_ ?_) <;> intro h)
      | with_reducible first | refine And.intro ?_ ?_ | refine J_seq ?_ | refine J_block ?_ | refine J_inBlock ?_ | refine rC ?_ | refine rR ?_ | refine rE ?_ | refine rG ?_)))
    refine .frz [1] (.now ?_)
    simp only [go_sem]
    rw [List.take_of_length_le (by simp; omega)]
    exact ⟨out, ⟨hLab, hEq rfl⟩, rfl, rfl⟩
  | true =>
    refine J_run 200 ?_
    iterate 8 (all_goals (try (first
      | (simp (maxSteps := 1000000) (disch := omega) only [go_sem])
      | ((with_reducible first | refine gDt ?_ ?_ | refine gDf ?_ ?_ | refine gNt ?_ ?_ | refine gNf ?_ ?_ | refine cD ?_ ?_ | refine cN ?_ ?_ | refine cB ?_ ?_ | refine gB ?_ ?_) <;> intro h)
      | with_reducible first | refine And.intro ?_ ?_ | refine J_seq ?_ | refine J_block ?_ | refine J_inBlock ?_ | refine rC ?_ | refine rR ?_ | refine rE ?_ | refine rG ?_ | refine FinQ.now ?_ | refine FinQ.end ?_)))
    refine J_for ([11, 12] ++ upto 34 90) (fun x : Nat × Bool × List Int => [(10, .raw (.int .i64 x.1)), (9, .raw (.bool x.2.1))]) (fun x => [.box (encNet n), .arr 1 (x.2.2.map encN)]) (fun x => x.1 ≤ n.devs.length ∧ Lab n st x.2.2 ∧ sumL x.2.2 ≤ sumL out ∧ (x.2.1 = true → sumL x.2.2 < sumL out) ∧ (x.2.1 = false → ∀ j, j < x.1 → EqAt n st x.2.2 j)) (fun x => n.devs.length - x.1) (0, false, out) ⟨by simp only; omega, hLab, Nat.le_refl _, by simp, fun _ j hj => absurd hj (by simp)⟩ (.le (by simp [go_sem, encNet]) (by simp)) ?_
    rintro ⟨i, ch, o⟩ ⟨hi, hL, hs1, hs2, hE⟩
    simp only [encNet] at hi hL hs1 hs2 hE ⊢
    have hol2 := hL.len
    by_cases hlt : i < n.devs.length
    · have hdv := getD_Dv hlt
      have hgs := getD_N (l := st) (i := i) (by omega)
      have cj := rJoins n.devs[i].kind
      have hsd : st.getD i 0 = st[i]'(by omega) := getD_get (by omega)
      have hok := hn.dev' hlt
      have ha0 := hok.a0; have hal := hok.al
      have skip : (st[i]'(by omega) ≠ 2 ∨ joinsK n.devs[i].kind = false ∨ o.getD n.devs[i].a.toNat 0 = o.getD n.devs[i].b.toNat 0) → ch = false → ∀ j, j < i + 1 → EqAt n st o j := fun hx hc j hj => by
        rcases Nat.lt_succ_iff_lt_or_eq.1 hj with h3 | rfl
        · exact hE hc j h3
        · intro d hd h2 hjk
          obtain ⟨_, rfl⟩ := List.getElem?_eq_some_iff.1 hd
          rcases hx with h | h | h
          · rw [hsd] at h2; exact absurd h2 h
          · rw [h] at hjk; cases hjk
          · exact h
      by_cases h2 : st[i]'(by omega) = 2
      · obtain ⟨jk, hjk⟩ : ∃ b, joinsK n.devs[i].kind = b := ⟨_, rfl⟩
        rw [hjk] at cj
        cases jk with
        | false =>
          refine J_run 200 ?_
          iterate 20 (all_goals (try (first
            | ((with_reducible refine J_draw (id := 16) 200 [] plan24_16 (by kernel_rfl) (by kernel_rfl) ?_); delta plan24_16)
            | (simp (maxSteps := 1000000) (disch := omega) only [go_sem, hdv, hgs, h2, ne_eq, not_true_eq_false, decide_false])
            | ((with_reducible refine CallA.pure cj ?_ ?_); (· simp (disch := omega) only [go_sem, hdv, hgs, h2, ne_eq, not_true_eq_false, decide_false]); rintro _ _ ⟨rfl, rfl⟩)
            | ((with_reducible first | refine gDt ?_ ?_ | refine gDf ?_ ?_ | refine gNt ?_ ?_ | refine gNf ?_ ?_ | refine cD ?_ ?_ | refine cN ?_ ?_ | refine cB ?_ ?_ | refine gB ?_ ?_ | refine stepGuard_dect ?_ ?_ | refine stepGuard_decf ?_ ?_ | refine stepGuard_ndect ?_ ?_ | refine stepGuard_ndecf ?_ ?_ | refine stepGuard_by ?_ ?_) <;> intro h)
            | with_reducible first | refine And.intro ?_ ?_ | refine J_seq ?_ | refine J_block ?_ | refine J_inBlock ?_ | refine rC ?_ | refine rR ?_ | refine rE ?_ | refine rG ?_ | refine FinQ.now ?_ | refine FinQ.end ?_)))
          all_goals
            refine .mk (i + 1, ch, o) ⟨by simp only; omega, hL, hs1, hs2, skip (.inr (.inl hjk))⟩ (by simp only; omega) ?_ ?_
            · simp [go_sem, encNet]
            · simp
        | true =>
          have hb := hok.j hjk
          have hga := getD_N (l := o) (i := n.devs[i].a.toNat) (by omega)
          have hgb := getD_N (l := o) (i := n.devs[i].b.toNat) (by omega)
          have ea : o.getD n.devs[i].a.toNat 0 = o[n.devs[i].a.toNat]'(by omega) := getD_get (by omega)
          have eb : o.getD n.devs[i].b.toNat 0 = o[n.devs[i].b.toNat]'(by omega) := getD_get (by omega)
          by_cases heq : o[n.devs[i].a.toNat]'(by omega) = o[n.devs[i].b.toNat]'(by omega)
          · refine J_run 200 ?_
            iterate 20 (all_goals (try (first
              | ((with_reducible refine J_draw (id := 16) 200 [] plan24_16 (by kernel_rfl) (by kernel_rfl) ?_); delta plan24_16)
              | (simp (maxSteps := 1000000) (disch := omega) only [go_sem, hdv, hgs, h2, hga, hgb, heq, ne_eq, not_true_eq_false, decide_false, decide_true])
              | ((with_reducible refine CallA.pure cj ?_ ?_); (· simp (disch := omega) only [go_sem, hdv, hgs, h2, hga, hgb, heq, ne_eq, not_true_eq_false, decide_false, decide_true]); rintro _ _ ⟨rfl, rfl⟩)
              | ((with_reducible first | refine gDt ?_ ?_ | refine gDf ?_ ?_ | refine gNt ?_ ?_ | refine gNf ?_ ?_ | refine cD ?_ ?_ | refine cN ?_ ?_ | refine cB ?_ ?_ | refine gB ?_ ?_ | refine stepGuard_dect ?_ ?_ | refine stepGuard_decf ?_ ?_ | refine stepGuard_ndect ?_ ?_ | refine stepGuard_ndecf ?_ ?_ | refine stepGuard_by ?_ ?_) <;> intro h)
              | with_reducible first | refine And.intro ?_ ?_ | refine J_seq ?_ | refine J_block ?_ | refine J_inBlock ?_ | refine rC ?_ | refine rR ?_ | refine rE ?_ | refine rG ?_ | refine FinQ.now ?_ | refine FinQ.end ?_)))
            all_goals
              refine .mk (i + 1, ch, o) ⟨by simp only; omega, hL, hs1, hs2, skip (.inr (.inr (by rw [ea, eb, heq])))⟩ (by simp only; omega) ?_ ?_
              · simp [go_sem, encNet]
              · simp
          · have hed : Edge n (Closed st) n.devs[i].a.toNat n.devs[i].b.toNat := ⟨i, _, List.getElem?_eq_getElem hlt, hjk, by rw [Closed, hsd, h2], .inl ⟨by omega, by omega⟩⟩
            have hL2 := hL.join (a := n.devs[i].a.toNat) (b := n.devs[i].b.toNat) (by omega) (by omega) hed
            have hs3 := sumL_join hL (a := n.devs[i].a.toNat) (b := n.devs[i].b.toNat) (by omega) (by omega) (by omega) (by rw [ea, eb]; exact heq)
            obtain ⟨low, hlo⟩ : ∃ low, (if o[n.devs[i].b.toNat]'(by omega) < o[n.devs[i].a.toNat]'(by omega) then o[n.devs[i].b.toNat]'(by omega) else o[n.devs[i].a.toNat]'(by omega)) = low := ⟨_, rfl⟩
            have hjn : joinL o n.devs[i].a.toNat n.devs[i].b.toNat = (o.set n.devs[i].a.toNat low).set n.devs[i].b.toNat low := by
              unfold joinL
              rw [ea, eb, ← hlo]
              have : (if o[n.devs[i].a.toNat]'(by omega) < o[n.devs[i].b.toNat]'(by omega) then o[n.devs[i].a.toNat]'(by omega) else o[n.devs[i].b.toNat]'(by omega)) = (if o[n.devs[i].b.toNat]'(by omega) < o[n.devs[i].a.toNat]'(by omega) then o[n.devs[i].b.toNat]'(by omega) else o[n.devs[i].a.toNat]'(by omega)) := by split <;> split <;> omega
              rw [this]
            have hse1 : (o.map encN).set n.devs[i].a.toNat [.raw (.int .i64 low)] = (o.set n.devs[i].a.toNat low).map encN := by rw [List.map_set]; rfl
            have hse2 := set_encN (l := o.set n.devs[i].a.toNat low) (k := n.devs[i].b.toNat) (x := low) (by simp; omega)
            refine J_run 200 ?_
            iterate 30 (all_goals (try (first
              | ((with_reducible refine J_draw (id := 16) 200 [] plan24_16 (by kernel_rfl) (by kernel_rfl) ?_); delta plan24_16)
              | ((with_reducible refine J_draw (id := 17) 200 [] plan24_17 (by kernel_rfl) (by kernel_rfl) ?_); delta plan24_17)
              | ((with_reducible refine J_draw (id := 18) 200 [] plan24_18 (by kernel_rfl) (by kernel_rfl) ?_); delta plan24_18)
              | (simp (maxSteps := 1000000) (disch := omega) only [go_sem, hlo, hdv, hgs, h2, hga, hgb, heq, ne_eq, not_true_eq_false, decide_false, decide_true])
              | ((with_reducible refine CallA.pure cj ?_ ?_); (· simp (disch := omega) only [go_sem, hlo, hdv, hgs, h2, hga, hgb, heq, ne_eq, not_true_eq_false, decide_false, decide_true]); rintro _ _ ⟨rfl, rfl⟩)
              | ((with_reducible first | refine gDt ?_ ?_ | refine gDf ?_ ?_ | refine gNt ?_ ?_ | refine gNf ?_ ?_ | refine cD ?_ ?_ | refine cN ?_ ?_ | refine cB ?_ ?_ | refine gB ?_ ?_ | refine stepGuard_dect ?_ ?_ | refine stepGuard_decf ?_ ?_ | refine stepGuard_ndect ?_ ?_ | refine stepGuard_ndecf ?_ ?_ | refine stepGuard_by ?_ ?_) <;> intro h)
              | with_reducible first | refine And.intro ?_ ?_ | refine J_seq ?_ | refine J_block ?_ | refine J_inBlock ?_ | refine rC ?_ | refine rR ?_ | refine rE ?_ | refine rG ?_ | refine FinQ.now ?_ | refine FinQ.end ?_)))
            all_goals
              refine .mk (i + 1, true, joinL o n.devs[i].a.toNat n.devs[i].b.toNat) ⟨by simp only; omega, hL2, by simp only; omega, fun _ => by simp only; omega, fun h => by cases h⟩ (by simp only; omega) ?_ ?_
              · simp only [hse1, hse2, hjn]
                simp [go_sem, encNet]
              · simp
      · refine J_run 200 ?_
        iterate 20 (all_goals (try (first
          | ((with_reducible refine J_draw (id := 16) 200 [] plan24_16 (by kernel_rfl) (by kernel_rfl) ?_); delta plan24_16)
          | (simp (maxSteps := 1000000) (disch := omega) only [go_sem, hdv, hgs, h2, ne_eq, not_false_eq_true, decide_true])
          | ((with_reducible first | refine gDt ?_ ?_ | refine gDf ?_ ?_ | refine gNt ?_ ?_ | refine gNf ?_ ?_ | refine cD ?_ ?_ | refine cN ?_ ?_ | refine cB ?_ ?_ | refine gB ?_ ?_ | refine stepGuard_dect ?_ ?_ | refine stepGuard_decf ?_ ?_ | refine stepGuard_ndect ?_ ?_ | refine stepGuard_ndecf ?_ ?_ | refine stepGuard_by ?_ ?_) <;> intro h)
          | with_reducible first | refine And.intro ?_ ?_ | refine J_seq ?_ | refine J_block ?_ | refine J_inBlock ?_ | refine rC ?_ | refine rR ?_ | refine rE ?_ | refine rG ?_ | refine FinQ.now ?_ | refine FinQ.end ?_)))
        all_goals
          refine .mk (i + 1, ch, o) ⟨by simp only; omega, hL, hs1, hs2, skip (.inl h2)⟩ (by simp only; omega) ?_ ?_
          · simp [go_sem, encNet]
          · simp
    · have hie : i = n.devs.length := by omega
      subst hie
      refine J_run 200 ?_
      iterate 20 (all_goals (try (first
        | (simp (maxSteps := 1000000) (disch := omega) only [go_sem])
        | ((with_reducible first | refine gDt ?_ ?_ | refine gDf ?_ ?_ | refine gNt ?_ ?_ | refine gNf ?_ ?_ | refine cD ?_ ?_ | refine cN ?_ ?_ | refine cB ?_ ?_ | refine gB ?_ ?_) <;> intro h)
        | with_reducible first | refine And.intro ?_ ?_ | refine J_seq ?_ | refine J_block ?_ | refine J_inBlock ?_ | refine rC ?_ | refine rR ?_ | refine rE ?_ | refine rG ?_ | refine FinQ.now ?_ | refine FinQ.end ?_)))
      refine J_nil ?_
      simp only [go_sem]
      refine .mk (ch, o) ⟨hL, hE⟩ ?_ ?_ ?_
      · cases ch
        · simp only [Bool.false_eq_true, if_false, if_true]; omega
        · have := hs2 rfl
          simp only [if_true]; omega
      · simp [go_sem, encNet]
      · simp
end Go.Proofs.YthgcmeniecaemaaDoor.Abs
