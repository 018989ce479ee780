/- References: the colours of a state. -/
import Derived.Test.YthgcmeniecaemaaDoorRUA
import Derived.Test.YthgcmeniecaemaaDoorRT
namespace Go.Proofs.YthgcmeniecaemaaDoor.Abs
set_option linter.unusedSimpArgs false
set_option linter.unusedVariables false
set_option maxRecDepth 100000
open Go Go.RowKit

set_option maxHeartbeats 8000000 in
theorem coloursO (n : Net) (hn : n.ok) (st : List Int) (h0 : posChk n st 2 = 0) (hst : st.length = n.devs.length) : Fn1 Tryd.prog GT0 22 [.agg (encNet n), .lst 1 (st.map encN)] (.tup [.own 0 1 0 n.nodes.length, .raw (.int .i64 0)]) [.arr 1 ((cols n st).map encN)] := by
  have hnl := hn.nl
  have hdl := hn.dl
  have c := partsF n hn st h0 hst
  refine holds_of Tryd.func22 rfl rfl ?_
  refine J_run 200 ?_
  delta Tryd.f22
  simp only [encNet] at c ⊢
  iterate 14 (all_goals (try (first
    | (simp (maxSteps := 1000000) (disch := omega) only [go_sem])
    | ((with_reducible refine CallA.pure c ?_ ?_); (· simp (disch := omega) only [go_sem]); rintro _ _ ⟨parts, hP, rfl, rfl⟩)
    | ((with_reducible first | refine gDt ?_ ?_ | refine gDf ?_ ?_ | refine gNt ?_ ?_ | refine gNf ?_ ?_ | refine cD ?_ ?_ | refine cN ?_ ?_ | refine cB ?_ ?_ | refine gB ?_ ?_) <;> intro h)
    | with_reducible first | refine And.intro ?_ ?_ | refine J_seq ?_ | refine J_block ?_ | refine J_inBlock ?_ | refine rC ?_ | refine rR ?_ | refine rE ?_ | refine rG ?_ | refine FinQ.now ?_ | refine FinQ.end ?_)))
  have hpl := hP.lab.len
  refine J_for ([10, 11, 12] ++ upto 26 75) (fun i : Nat => [(9, .raw (.int .i64 i))]) (fun i => [.box (encNet n), .arr 1 ((colsTo n st i).map encN)]) (fun i => i ≤ n.devs.length) (fun i => n.devs.length - i) 0 (by omega) (.le (by simp [go_sem, encNet, colsTo_zero]) (by simp)) ?_
  intro i hi
  simp only [encNet]
  have hcl := colsTo_len (n := n) (st := st) (k := i)
  by_cases hlt : i < n.devs.length
  · have hdv := getD_Dv hlt
    have hd? : n.devs[i]? = some n.devs[i] := List.getElem?_eq_getElem hlt
    have hgs := getD_N (l := st) (i := i) (by omega)
    have cj := rJoins n.devs[i].kind
    have hsd : st.getD i 0 = st[i]'(by omega) := getD_get (by omega)
    have hok := hn.dev' hlt
    have ha0 := hok.a0; have hal := hok.al; have hk1 := hok.k1; have hk6 := hok.k6
    have hga := getD_N (l := parts) (i := n.devs[i].a.toNat) (by omega)
    by_cases h2 : st[i]'(by omega) = 2
    · obtain ⟨jk, hjk⟩ : ∃ b, joinsK n.devs[i].kind = b := ⟨_, rfl⟩
      rw [hjk] at cj
      cases jk with
      | true =>
        have hs := colsTo_skip hd? (st := st) (fun h => by rw [hjk] at h; cases h.2)
        refine J_run 200 ?_
        iterate 20 (all_goals (try (first
          | (simp (maxSteps := 1000000) (disch := omega) only [go_sem, hdv, hgs, h2, ne_eq, not_true_eq_false, decide_false])
          | ((with_reducible refine CallA.pure cj ?_ ?_); (· simp (disch := omega) only [go_sem, hdv, hgs, h2, ne_eq, not_true_eq_false, decide_false]); rintro _ _ ⟨rfl, rfl⟩)
          | ((with_reducible first | refine gDt ?_ ?_ | refine gDf ?_ ?_ | refine gNt ?_ ?_ | refine gNf ?_ ?_ | refine cD ?_ ?_ | refine cN ?_ ?_ | refine cB ?_ ?_ | refine gB ?_ ?_) <;> intro h)
          | with_reducible first | refine And.intro ?_ ?_ | refine J_seq ?_ | refine J_block ?_ | refine J_inBlock ?_ | refine rC ?_ | refine rR ?_ | refine rE ?_ | refine rG ?_ | refine FinQ.now ?_ | refine FinQ.end ?_)))
        all_goals
          refine .mk (i + 1) hlt (by omega) ?_ ?_
          · rw [hs]; simp [go_sem, encNet]
          · simp
      | false =>
        have hjn : n.devs[i].kind < 1 ∨ 3 < n.devs[i].kind := by simp only [joinsK, decide_eq_false_iff_not] at hjk; omega
        by_cases h4 : n.devs[i].kind = 4
        · have e4 : decide (n.devs[i].kind = 4) = true := decide_eq_true h4
          refine J_run 200 ?_
          iterate 20 (all_goals (try (first
            | (simp (maxSteps := 1000000) (disch := omega) only [go_sem, hdv, hgs, h2, e4, ne_eq, not_true_eq_false, decide_false, decide_true])
            | ((with_reducible refine CallA.pure cj ?_ ?_); (· simp (disch := omega) only [go_sem, hdv, hgs, h2, e4, ne_eq, not_true_eq_false, decide_false, decide_true]); rintro _ _ ⟨rfl, rfl⟩)
            | ((with_reducible first | refine gDt ?_ ?_ | refine gDf ?_ ?_ | refine gNt ?_ ?_ | refine gNf ?_ ?_ | refine cD ?_ ?_ | refine cN ?_ ?_ | refine cB ?_ ?_ | refine gB ?_ ?_) <;> intro h)
            | with_reducible first | refine And.intro ?_ ?_ | refine J_seq ?_ | refine J_block ?_ | refine J_inBlock ?_ | refine rC ?_ | refine rR ?_ | refine rE ?_ | refine rG ?_ | refine FinQ.now ?_ | refine FinQ.end ?_)))
          refine J_for (upto 51 75) (fun v : Nat => [(12, .raw (.int .i64 v))]) (fun v => [.box (encNet n), .arr 1 ((colsMid n st i v).map encN), .box (encDv n.devs[i])]) (fun v => v ≤ n.nodes.length) (fun v => n.nodes.length - v) 0 (by omega) (.le (by simp [go_sem, encNet, encDv, colsMid_zero]) (by simp)) ?_
          intro v hv
          simp only [encNet, encDv]
          have hml := colsMid_len (n := n) (st := st) (k := i) (v := v)
          by_cases hlv : v < n.nodes.length
          · have hgv := getD_N (l := parts) (i := v) (by omega)
            have hcv := getD_N (l := colsMid n st i v) (i := v) (by omega)
            rw [colsMid_at] at hcv
            have hcc := hP.conn hn (u := v) (v := n.devs[i].a.toNat) hlv (by omega)
            rw [getD_get (by omega), getD_get (by omega)] at hcc
            by_cases heq : parts[v]'(by omega) = parts[n.devs[i].a.toNat]'(by omega)
            · have hw := colAt_earth hd? (by rw [hsd, h2]) h4 (hcc.1 heq)
              have hnx := colsMid_next (n := n) (st := st) (k := i) hlv
              have hse : ((colsMid n st i v).map encN).set v [.raw (.int .i64 (colAt n st (i + 1) v))] = ((colsMid n st i v).set v (colAt n st (i + 1) v)).map encN := by rw [List.map_set]; rfl
              refine J_run 200 ?_
              iterate 20 (all_goals (try (first
                | ((with_reducible refine J_draw (id := 16) 200 [] plan22_16 (by kernel_rfl) (by kernel_rfl) ?_); delta plan22_16)
                | (simp (maxSteps := 1000000) (disch := omega) only [go_sem, hgv, hga, hcv, heq, decide_true])
                | ((with_reducible first | refine gDt ?_ ?_ | refine gDf ?_ ?_ | refine gNt ?_ ?_ | refine gNf ?_ ?_ | refine cD ?_ ?_ | refine cN ?_ ?_ | refine cB ?_ ?_ | refine gB ?_ ?_ | refine stepGuard_dect ?_ ?_ | refine stepGuard_decf ?_ ?_ | refine stepGuard_ndect ?_ ?_ | refine stepGuard_ndecf ?_ ?_ | refine stepGuard_by ?_ ?_) <;> intro h)
                | with_reducible first | refine And.intro ?_ ?_ | refine J_seq ?_ | refine J_block ?_ | refine J_inBlock ?_ | refine rC ?_ | refine rR ?_ | refine rE ?_ | refine rG ?_ | refine FinQ.now ?_ | refine FinQ.end ?_)))
              all_goals
                refine .mk (v + 1) hlv (by omega) ?_ ?_
                · rw [hnx, ← hse]; simp [go_sem, encNet, encDv]; exact congrArg (fun z => List.set (List.map encN (colsMid n st i v)) v [AV.raw (Value.int IntKind.i64 z)]) hw
                · simp
            · have hsk := colsMid_skip (n := n) (st := st) (k := i) hlv (colAt_same hd? fun h => heq (hcc.2 h.2.2))
              refine J_run 200 ?_
              iterate 20 (all_goals (try (first
                | ((with_reducible refine J_draw (id := 16) 200 [] plan22_16 (by kernel_rfl) (by kernel_rfl) ?_); delta plan22_16)
                | (simp (maxSteps := 1000000) (disch := omega) only [go_sem, hgv, hga, heq, decide_false])
                | ((with_reducible first | refine gDt ?_ ?_ | refine gDf ?_ ?_ | refine gNt ?_ ?_ | refine gNf ?_ ?_ | refine cD ?_ ?_ | refine cN ?_ ?_ | refine cB ?_ ?_ | refine gB ?_ ?_ | refine stepGuard_dect ?_ ?_ | refine stepGuard_decf ?_ ?_ | refine stepGuard_ndect ?_ ?_ | refine stepGuard_ndecf ?_ ?_ | refine stepGuard_by ?_ ?_) <;> intro h)
                | with_reducible first | refine And.intro ?_ ?_ | refine J_seq ?_ | refine J_block ?_ | refine J_inBlock ?_ | refine rC ?_ | refine rR ?_ | refine rE ?_ | refine rG ?_ | refine FinQ.now ?_ | refine FinQ.end ?_)))
              all_goals
                refine .mk (v + 1) hlv (by omega) ?_ ?_
                · rw [hsk]; simp [go_sem, encNet, encDv]
                · simp
          · have hie : v = n.nodes.length := by omega
            subst hie
            rw [colsMid_all]
            refine J_run 200 ?_
            iterate 10 (all_goals (try (first
              | (simp (maxSteps := 1000000) (disch := omega) only [go_sem])
              | ((with_reducible first | refine gDt ?_ ?_ | refine gDf ?_ ?_ | refine gNt ?_ ?_ | refine gNf ?_ ?_ | refine cD ?_ ?_ | refine cN ?_ ?_ | refine cB ?_ ?_ | refine gB ?_ ?_) <;> intro h)
              | with_reducible first | refine And.intro ?_ ?_ | refine J_seq ?_ | refine J_block ?_ | refine J_inBlock ?_ | refine rC ?_ | refine rR ?_ | refine rE ?_ | refine rG ?_ | refine FinQ.now ?_ | refine FinQ.end ?_)))
            all_goals
              refine .mk (i + 1) hlt (by omega) ?_ ?_
              · simp [go_sem, encNet]
              · simp
        · have e4 : decide (n.devs[i].kind = 4) = false := decide_eq_false h4
          refine J_run 200 ?_
          iterate 20 (all_goals (try (first
            | (simp (maxSteps := 1000000) (disch := omega) only [go_sem, hdv, hgs, h2, e4, ne_eq, not_true_eq_false, decide_false, decide_true])
            | ((with_reducible refine CallA.pure cj ?_ ?_); (· simp (disch := omega) only [go_sem, hdv, hgs, h2, e4, ne_eq, not_true_eq_false, decide_false, decide_true]); rintro _ _ ⟨rfl, rfl⟩)
            | ((with_reducible first | refine gDt ?_ ?_ | refine gDf ?_ ?_ | refine gNt ?_ ?_ | refine gNf ?_ ?_ | refine cD ?_ ?_ | refine cN ?_ ?_ | refine cB ?_ ?_ | refine gB ?_ ?_) <;> intro h)
            | with_reducible first | refine And.intro ?_ ?_ | refine J_seq ?_ | refine J_block ?_ | refine J_inBlock ?_ | refine rC ?_ | refine rR ?_ | refine rE ?_ | refine rG ?_ | refine FinQ.now ?_ | refine FinQ.end ?_)))
          refine J_for (upto 51 75) (fun v : Nat => [(12, .raw (.int .i64 v))]) (fun v => [.box (encNet n), .arr 1 ((colsMid n st i v).map encN), .box (encDv n.devs[i])]) (fun v => v ≤ n.nodes.length) (fun v => n.nodes.length - v) 0 (by omega) (.le (by simp [go_sem, encNet, encDv, colsMid_zero]) (by simp)) ?_
          intro v hv
          simp only [encNet, encDv]
          have hml := colsMid_len (n := n) (st := st) (k := i) (v := v)
          by_cases hlv : v < n.nodes.length
          · have hgv := getD_N (l := parts) (i := v) (by omega)
            have hcv := getD_N (l := colsMid n st i v) (i := v) (by omega)
            rw [colsMid_at] at hcv
            have hcc := hP.conn hn (u := v) (v := n.devs[i].a.toNat) hlv (by omega)
            rw [getD_get (by omega), getD_get (by omega)] at hcc
            by_cases heq : parts[v]'(by omega) = parts[n.devs[i].a.toNat]'(by omega)
            · have hw := colAt_live hd? (by rw [hsd, h2]) (by omega) (hcc.1 heq)
              have hnx := colsMid_next (n := n) (st := st) (k := i) hlv
              have hse : ((colsMid n st i v).map encN).set v [.raw (.int .i64 (colAt n st (i + 1) v))] = ((colsMid n st i v).set v (colAt n st (i + 1) v)).map encN := by rw [List.map_set]; rfl
              refine J_run 200 ?_
              iterate 20 (all_goals (try (first
                | ((with_reducible refine J_draw (id := 16) 200 [] plan22_16 (by kernel_rfl) (by kernel_rfl) ?_); delta plan22_16)
                | (simp (maxSteps := 1000000) (disch := omega) only [go_sem, hgv, hga, hcv, heq, decide_true])
                | ((with_reducible first | refine gDt ?_ ?_ | refine gDf ?_ ?_ | refine gNt ?_ ?_ | refine gNf ?_ ?_ | refine cD ?_ ?_ | refine cN ?_ ?_ | refine cB ?_ ?_ | refine gB ?_ ?_ | refine stepGuard_dect ?_ ?_ | refine stepGuard_decf ?_ ?_ | refine stepGuard_ndect ?_ ?_ | refine stepGuard_ndecf ?_ ?_ | refine stepGuard_by ?_ ?_) <;> intro h)
                | with_reducible first | refine And.intro ?_ ?_ | refine J_seq ?_ | refine J_block ?_ | refine J_inBlock ?_ | refine rC ?_ | refine rR ?_ | refine rE ?_ | refine rG ?_ | refine FinQ.now ?_ | refine FinQ.end ?_)))
              all_goals
                refine .mk (v + 1) hlv (by omega) ?_ ?_
                · rw [hnx, ← hse]; simp [go_sem, encNet, encDv]; exact congrArg (fun z => List.set (List.map encN (colsMid n st i v)) v [AV.raw (Value.int IntKind.i64 z)]) hw
                · simp
            · have hsk := colsMid_skip (n := n) (st := st) (k := i) hlv (colAt_same hd? fun h => heq (hcc.2 h.2.2))
              refine J_run 200 ?_
              iterate 20 (all_goals (try (first
                | ((with_reducible refine J_draw (id := 16) 200 [] plan22_16 (by kernel_rfl) (by kernel_rfl) ?_); delta plan22_16)
                | (simp (maxSteps := 1000000) (disch := omega) only [go_sem, hgv, hga, heq, decide_false])
                | ((with_reducible first | refine gDt ?_ ?_ | refine gDf ?_ ?_ | refine gNt ?_ ?_ | refine gNf ?_ ?_ | refine cD ?_ ?_ | refine cN ?_ ?_ | refine cB ?_ ?_ | refine gB ?_ ?_ | refine stepGuard_dect ?_ ?_ | refine stepGuard_decf ?_ ?_ | refine stepGuard_ndect ?_ ?_ | refine stepGuard_ndecf ?_ ?_ | refine stepGuard_by ?_ ?_) <;> intro h)
                | with_reducible first | refine And.intro ?_ ?_ | refine J_seq ?_ | refine J_block ?_ | refine J_inBlock ?_ | refine rC ?_ | refine rR ?_ | refine rE ?_ | refine rG ?_ | refine FinQ.now ?_ | refine FinQ.end ?_)))
              all_goals
                refine .mk (v + 1) hlv (by omega) ?_ ?_
                · rw [hsk]; simp [go_sem, encNet, encDv]
                · simp
          · have hie : v = n.nodes.length := by omega
            subst hie
            rw [colsMid_all]
            refine J_run 200 ?_
            iterate 10 (all_goals (try (first
              | (simp (maxSteps := 1000000) (disch := omega) only [go_sem])
              | ((with_reducible first | refine gDt ?_ ?_ | refine gDf ?_ ?_ | refine gNt ?_ ?_ | refine gNf ?_ ?_ | refine cD ?_ ?_ | refine cN ?_ ?_ | refine cB ?_ ?_ | refine gB ?_ ?_) <;> intro h)
              | with_reducible first | refine And.intro ?_ ?_ | refine J_seq ?_ | refine J_block ?_ | refine J_inBlock ?_ | refine rC ?_ | refine rR ?_ | refine rE ?_ | refine rG ?_ | refine FinQ.now ?_ | refine FinQ.end ?_)))
            all_goals
              refine .mk (i + 1) hlt (by omega) ?_ ?_
              · simp [go_sem, encNet]
              · simp
    · have hs := colsTo_skip hd? (st := st) (fun h => by rw [hsd] at h; exact h2 h.1)
      refine J_run 200 ?_
      iterate 20 (all_goals (try (first
        | (simp (maxSteps := 1000000) (disch := omega) only [go_sem, hdv, hgs, h2, ne_eq, not_false_eq_true, decide_true])
        | ((with_reducible refine CallA.pure cj ?_ ?_); (· simp (disch := omega) only [go_sem, hdv, hgs, h2, ne_eq, not_false_eq_true, decide_true]); rintro _ _ ⟨rfl, rfl⟩)
        | ((with_reducible first | refine gDt ?_ ?_ | refine gDf ?_ ?_ | refine gNt ?_ ?_ | refine gNf ?_ ?_ | refine cD ?_ ?_ | refine cN ?_ ?_ | refine cB ?_ ?_ | refine gB ?_ ?_) <;> intro h)
        | with_reducible first | refine And.intro ?_ ?_ | refine J_seq ?_ | refine J_block ?_ | refine J_inBlock ?_ | refine rC ?_ | refine rR ?_ | refine rE ?_ | refine rG ?_ | refine FinQ.now ?_ | refine FinQ.end ?_)))
      all_goals
        refine .mk (i + 1) hlt (by omega) ?_ ?_
        · rw [hs]; simp [go_sem, encNet]
        · simp
  · have hie : i = n.devs.length := by omega
    subst hie
    refine J_run 200 ?_
    iterate 10 (all_goals (try (first
      | (simp (maxSteps := 1000000) (disch := omega) only [go_sem])
      | ((with_reducible first | refine gDt ?_ ?_ | refine gDf ?_ ?_ | refine gNt ?_ ?_ | refine gNf ?_ ?_ | refine cD ?_ ?_ | refine cN ?_ ?_ | refine cB ?_ ?_ | refine gB ?_ ?_) <;> intro h)
      | with_reducible first | refine And.intro ?_ ?_ | refine J_seq ?_ | refine J_block ?_ | refine J_inBlock ?_ | refine rC ?_ | refine rR ?_ | refine rE ?_ | refine rG ?_)))
    refine .now ?_
    simp only [go_sem]
    rfl
theorem coloursF (n : Net) (hn : n.ok) (st : List Int) (h0 : posChk n st 2 = 0) (hst : st.length = n.devs.length) : Fn1 Tryd.prog GT0 22 [.agg (encNet n), .lst 1 (st.map encN)] (.tup [.lst 1 ((cols n st).map encN), .raw (.int .i64 0)]) [] :=
  Holds.lst _ (coloursO n hn st h0 hst) (by simp [frzOwn, AV.leafs, AV.leafsL, List.take_of_length_le, cols_len])
end Go.Proofs.YthgcmeniecaemaaDoor.Abs
