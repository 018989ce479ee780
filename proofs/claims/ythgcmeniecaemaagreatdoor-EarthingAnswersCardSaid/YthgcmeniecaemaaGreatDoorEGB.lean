/- References: earthing of zones by locks. -/
import Derived.Test.YthgcmeniecaemaaGreatDoorEG
import Derived.Test.YthgcmeniecaemaaGreatDoorEE
namespace Go.Proofs.YthgcmeniecaemaaGreatDoor.Abs
set_option linter.unusedSimpArgs false
set_option linter.unusedVariables false
set_option maxRecDepth 100000
open Go Go.RowKit

theorem missL_take {n : Net} {z E : List Int} {i : Nat} (hi : i < z.length) : missL n (z.take (i + 1)) E = missL n (z.take i) E ++ (if protB n E z[i].toNat then [] else [z[i]]) := by
  unfold missL
  rw [List.take_succ_eq_append_getElem hi, List.filter_append]
  congr 1
  cases h : protB n E z[i].toNat <;> simp [h]
theorem missL_lenT {n : Net} {z E : List Int} {i : Nat} : (missL n (z.take i) E).length ≤ i := Nat.le_trans (List.length_filter_le _ _) (by rw [List.length_take]; omega)
set_option maxHeartbeats 8000000 in
theorem rMissL (n : Net) (hn : n.ok) (z E : List Int) (hz : ∀ x, x ∈ z → 0 ≤ x ∧ x < n.nodes.length) (hzl : z.length ≤ 1000000) (hEl : E.length ≤ 1000000) :
    Fn1 Tryz.prog GT0 37 [.agg (encNet n), .lst 1 (z.map encN), .lst 1 (E.map encN)] (.lst 1 ((missL n z E).map encN)) [] := by
  refine holds_of Tryz.func37 rfl rfl ?_
  refine J_run 200 ?_
  delta Tryz.f37
  simp only [encNet]
  iterate 5 (all_goals (try (first
    | (simp (maxSteps := 1000000) (disch := omega) only [go_sem])
    | ((with_reducible first | refine gDt ?_ ?_ | refine gDf ?_ ?_ | refine gNt ?_ ?_ | refine gNf ?_ ?_ | refine cD ?_ ?_ | refine cN ?_ ?_ | refine cB ?_ ?_ | refine gB ?_ ?_) <;> intro h)
    | with_reducible first | refine And.intro ?_ ?_ | refine J_seq ?_ | refine J_block ?_ | refine J_inBlock ?_ | refine rC ?_ | refine rR ?_ | refine rE ?_ | refine rG ?_ | refine FinQ.now ?_ | refine FinQ.end ?_)))
  refine J_nilName 7 1 (by simp only [go_sem]) ?_
  simp only [go_sem]
  refine J_for (upto 9 30) (fun i : Nat => [(8, .raw (.int .i64 i)), (7, .own 1 1 0 (missL n (z.take i) E).length)]) (fun i => [.box (encNet n), .arr 1 ((missL n (z.take i) E).map encN)]) (fun i => i ≤ z.length) (fun i => z.length - i) 0 (by omega) (.le (by simp [go_sem, encNet, missL]) (by simp)) ?_
  intro i hi
  simp only [encNet]
  have hml := missL_lenT (n := n) (z := z) (E := E) (i := i)
  by_cases hlt : i < z.length
  · have hg := getD_N hlt
    have hzi := hz _ (List.getElem_mem hlt)
    have hti : ((z[i].toNat : Nat) : Int) = z[i] := by omega
    have cp := rProtects n hn z[i].toNat (by omega) E hEl
    rw [hti] at cp
    have hmt := missL_take (n := n) (E := E) hlt
    obtain ⟨b, hb⟩ : ∃ b, protB n E z[i].toNat = b := ⟨_, rfl⟩
    rw [hb] at cp hmt
    simp only [encNet] at cp
    cases b
    all_goals
      simp only [if_true, if_false, Bool.false_eq_true, List.append_nil] at hmt
      refine J_run 200 ?_
      iterate 20 (all_goals (try (first
        | ((with_reducible refine J_draw (id := 5) 200 [] plan37_5 (by kernel_rfl) (by kernel_rfl) ?_); delta plan37_5)
        | (simp (maxSteps := 1000000) (disch := omega) only [go_sem, hg])
        | ((with_reducible refine CallA.pure cp ?_ ?_); (· simp (disch := omega) only [go_sem, hg]); rintro _ _ ⟨rfl, rfl⟩)
        | ((with_reducible first | refine gDt ?_ ?_ | refine gDf ?_ ?_ | refine gNt ?_ ?_ | refine gNf ?_ ?_ | refine cD ?_ ?_ | refine cN ?_ ?_ | refine cB ?_ ?_ | refine gB ?_ ?_ | refine stepGuard_dect ?_ ?_ | refine stepGuard_decf ?_ ?_ | refine stepGuard_ndect ?_ ?_ | refine stepGuard_ndecf ?_ ?_ | refine stepGuard_by ?_ ?_) <;> intro h)
        | with_reducible first | refine And.intro ?_ ?_ | refine J_seq ?_ | refine J_block ?_ | refine J_inBlock ?_ | refine rC ?_ | refine rR ?_ | refine rE ?_ | refine rG ?_ | refine FinQ.now ?_ | refine FinQ.end ?_)))
      refine .mk (i + 1) hlt (by omega) ?_ ?_
      · rw [hmt]; simp [go_sem, encNet, encN]
      · simp
  · have hie : i = z.length := by omega
    subst hie
    rw [List.take_length]
    refine J_run 200 ?_
    iterate 10 (all_goals (try (first
      | (simp (maxSteps := 1000000) (disch := omega) only [go_sem])
      | ((with_reducible first | refine gDt ?_ ?_ | refine gDf ?_ ?_ | refine gNt ?_ ?_ | refine gNf ?_ ?_ | refine cD ?_ ?_ | refine cN ?_ ?_ | refine cB ?_ ?_ | refine gB ?_ ?_) <;> intro h)
      | with_reducible first | refine And.intro ?_ ?_ | refine J_seq ?_ | refine J_block ?_ | refine J_inBlock ?_ | refine rC ?_ | refine rR ?_ | refine rE ?_ | refine rG ?_)))
    refine .frz [1] (.now ?_)
    simp only [go_sem, take_lm]
theorem rEnough16 (n : Net) (hs : n.sized) (z E : List Int) (hzl : z.length ≤ 1000000) (hEl : E.length ≤ 1000000) :
    Fn1 Tryz.prog GT0 17 [.agg (encNet n), .lst 1 (z.map encN), .lst 1 (E.map encN)] (.tup [.raw (.bool (earthE n z E).1), .raw (.int .i64 (earthE n z E).2)]) [] := by
  have cz := rZone n hs z hzl
  have cs := rSet E n.nodes.length hEl
  have hnl := hs.nl
  by_cases h0 : zoneChk n z = 0
  · have hz := zoneChk_zero h0
    rw [h0] at cz
    obtain ⟨b, hb⟩ : ∃ b, rising E n.nodes.length = b := ⟨_, rfl⟩
    rw [hb] at cs
    cases b with
    | false =>
      have he : earthE n z E = (false, 7) := by unfold earthE; rw [if_neg (by simp [h0]), if_pos hb]
      rw [he]
      refine holds_of Tryz.func17 rfl rfl ?_
      refine J_run 200 ?_
      delta Tryz.f17
      simp only [encNet] at cz ⊢
      iterate 14 (all_goals (try (first
        | (simp (maxSteps := 1000000) (disch := omega) only [go_sem])
        | ((with_reducible refine CallA.pure cz ?_ ?_); (· simp (disch := omega) only [go_sem]); rintro _ _ ⟨rfl, rfl⟩)
        | ((with_reducible refine CallA.pure cs ?_ ?_); (· simp (disch := omega) only [go_sem]); rintro _ _ ⟨rfl, rfl⟩)
        | ((with_reducible first | refine gDt ?_ ?_ | refine gDf ?_ ?_ | refine gNt ?_ ?_ | refine gNf ?_ ?_ | refine cD ?_ ?_ | refine cN ?_ ?_ | refine cB ?_ ?_ | refine gB ?_ ?_) <;> intro h)
        | with_reducible first | refine And.intro ?_ ?_ | refine J_seq ?_ | refine J_block ?_ | refine J_inBlock ?_ | refine rC ?_ | refine rR ?_ | refine rE ?_ | refine rG ?_ | refine FinQ.now ?_ | refine FinQ.end ?_)))
    | true =>
      have he : earthE n z E = (decide (missL n z E = []), 0) := by unfold earthE; rw [if_neg (by simp [h0]), if_neg (by simp [hb])]
      have cm := rMissL n hz.1 z E (fun x hx => rising_mem hz.2.2 hx) hzl hEl
      have hml := missL_len (n := n) (E := E) (z := z)
      have hd : decide (missL n z E = []) = decide (((missL n z E).length : Int) = 0) := by rw [decide_eq_decide, ← List.length_eq_zero_iff]; omega
      rw [he, hd]
      obtain ⟨ms, hms⟩ : ∃ ms, missL n z E = ms := ⟨_, rfl⟩
      rw [hms] at cm hml ⊢
      refine holds_of Tryz.func17 rfl rfl ?_
      refine J_run 200 ?_
      delta Tryz.f17
      simp only [encNet] at cz cm ⊢
      iterate 14 (all_goals (try (first
        | (simp (maxSteps := 1000000) (disch := omega) only [go_sem])
        | ((with_reducible refine CallA.pure cz ?_ ?_); (· simp (disch := omega) only [go_sem]); rintro _ _ ⟨rfl, rfl⟩)
        | ((with_reducible refine CallA.pure cs ?_ ?_); (· simp (disch := omega) only [go_sem]); rintro _ _ ⟨rfl, rfl⟩)
        | ((with_reducible refine CallA.pure cm ?_ ?_); (· simp (disch := omega) only [go_sem]); rintro _ _ ⟨rfl, rfl⟩)
        | ((with_reducible first | refine gDt ?_ ?_ | refine gDf ?_ ?_ | refine gNt ?_ ?_ | refine gNf ?_ ?_ | refine cD ?_ ?_ | refine cN ?_ ?_ | refine cB ?_ ?_ | refine gB ?_ ?_) <;> intro h)
        | with_reducible first | refine And.intro ?_ ?_ | refine J_seq ?_ | refine J_block ?_ | refine J_inBlock ?_ | refine rC ?_ | refine rR ?_ | refine rE ?_ | refine rG ?_ | refine FinQ.now ?_ | refine FinQ.end ?_)))
  · have he : earthE n z E = (false, zoneChk n z) := by unfold earthE; rw [if_pos h0]
    rw [he]
    refine holds_of Tryz.func17 rfl rfl ?_
    refine J_run 200 ?_
    delta Tryz.f17
    simp only [encNet] at cz ⊢
    iterate 14 (all_goals (try (first
      | (exfalso; omega)
      | (simp (maxSteps := 1000000) (disch := omega) only [go_sem])
      | ((with_reducible refine CallA.pure cz ?_ ?_); (· simp (disch := omega) only [go_sem]); rintro _ _ ⟨rfl, rfl⟩)
      | ((with_reducible first | refine gDt ?_ ?_ | refine gDf ?_ ?_ | refine gNt ?_ ?_ | refine gNf ?_ ?_ | refine cD ?_ ?_ | refine cN ?_ ?_ | refine cB ?_ ?_ | refine gB ?_ ?_) <;> intro h)
      | with_reducible first | refine And.intro ?_ ?_ | refine J_seq ?_ | refine J_block ?_ | refine J_inBlock ?_ | refine rC ?_ | refine rR ?_ | refine rE ?_ | refine rG ?_ | refine FinQ.now ?_ | refine FinQ.end ?_)))
set_option maxHeartbeats 8000000 in
theorem rCounted (n : Net) (hs : n.sized) (l : List Lk) (hl : l.length ≤ 1000000) (z : List Int) (hzl : z.length ≤ 1000000) :
    Fn1 Tryz.prog GT0 19 [.agg (encNet n), .lst 3 (l.map encLk), .lst 1 (z.map encN)] (.tup [.lst 1 ((countedR n l z).1.map encN), .raw (.int .i64 (countedR n l z).2)]) [] := by
  have ce := rEarths n hs l hl
  have cz := rZone n hs z hzl
  by_cases hk : lockChk n l = 0
  · by_cases h0 : zoneChk n z = 0
    · have hz := zoneChk_zero h0
      have hn := hz.1
      have hnl := hn.nl
      have hdl := hn.dl
      have hle : lockedE n l z = 0 := by unfold lockedE; rw [if_neg (by simp [hk]), h0]
      rw [show countedR n l z = (countL n l z, 0) by unfold countedR; rw [if_neg (by simp [hle])]]
      rw [show earthsR n l = (earthsOf n l, 0) by unfold earthsR; rw [if_neg (by simp [hk])]] at ce
      have cg := rGaps n hs l hl
      rw [show gapsR n l = (gapsOf n l, 0) by unfold gapsR; rw [if_neg (by simp [hk])]] at cg
      have hgl := gapsOf_len (n := n) (l := l)
      have hel := earthsOf_len (n := n) (l := l)
      have cr := rReach n hn z (gapsOf n l) (fun x hx => rising_mem hz.2.2 hx) hzl (by omega)
      have hrl := reg_len (n := n) (z := z) (g := gapsOf n l)
      have hem := fun (i : Int) (h : i ∈ earthsOf n l) => mem_earthsOf h
      have hwa := want_all hn (l := l) hz.2.2
      rw [h0] at cz
      rw [← hwa]
      obtain ⟨es, hes⟩ : ∃ es, earthsOf n l = es := ⟨_, rfl⟩
      obtain ⟨R, hR⟩ : ∃ R, regL n z (gapsOf n l) = R := ⟨_, rfl⟩
      rw [hes] at ce hel hem ⊢
      rw [hR] at cr hrl ⊢
      refine holds_of Tryz.func19 rfl rfl ?_
      refine J_run 200 ?_
      delta Tryz.f19
      simp only [encNet] at ce cz cg cr ⊢
      iterate 24 (all_goals (try (first
        | (simp (maxSteps := 1000000) (disch := omega) only [go_sem])
        | ((with_reducible refine CallA.pure ce ?_ ?_); (· simp (disch := omega) only [go_sem]); rintro _ _ ⟨rfl, rfl⟩)
        | ((with_reducible refine CallA.pure cz ?_ ?_); (· simp (disch := omega) only [go_sem]); rintro _ _ ⟨rfl, rfl⟩)
        | ((with_reducible refine CallA.pure cg ?_ ?_); (· simp (disch := omega) only [go_sem]); rintro _ _ ⟨rfl, rfl⟩)
        | ((with_reducible refine CallA.pure cr ?_ ?_); (· simp (disch := omega) only [go_sem]); rintro _ _ ⟨rfl, rfl⟩)
        | ((with_reducible first | refine gDt ?_ ?_ | refine gDf ?_ ?_ | refine gNt ?_ ?_ | refine gNf ?_ ?_ | refine cD ?_ ?_ | refine cN ?_ ?_ | refine cB ?_ ?_ | refine gB ?_ ?_) <;> intro h)
        | with_reducible first | refine And.intro ?_ ?_ | refine J_seq ?_ | refine J_block ?_ | refine J_inBlock ?_ | refine rC ?_ | refine rR ?_ | refine rE ?_ | refine rG ?_ | refine FinQ.now ?_ | refine FinQ.end ?_)))
      refine J_nilName 14 1 (by simp only [go_sem]) ?_
      simp only [go_sem]
      refine J_for ([16] ++ upto 42 75) (fun v : Nat => [(15, .raw (.int .i64 v)), (14, .own 1 1 0 (pickTo (isWant n es R) v).length)]) (fun v => [.box (encNet n), .arr 1 ((pickTo (isWant n es R) v).map encN)]) (fun v => v ≤ n.nodes.length) (fun v => n.nodes.length - v) 0 (by omega) (.le (by simp [go_sem, encNet, pickTo]) (by simp)) ?_
      intro v hv
      simp only [encNet]
      have hpl := pickTo_len (p := isWant n es R) (i := v)
      have hpn := pickTo_next (p := isWant n es R) (i := v)
      by_cases hvl : v < n.nodes.length
      · refine J_run 200 ?_
        iterate 8 (all_goals (try (first
          | (simp (maxSteps := 1000000) (disch := omega) only [go_sem])
          | ((with_reducible first | refine gDt ?_ ?_ | refine gDf ?_ ?_ | refine gNt ?_ ?_ | refine gNf ?_ ?_ | refine cD ?_ ?_ | refine cN ?_ ?_ | refine cB ?_ ?_ | refine gB ?_ ?_) <;> intro h)
          | with_reducible first | refine And.intro ?_ ?_ | refine J_seq ?_ | refine J_block ?_ | refine J_inBlock ?_ | refine rC ?_ | refine rR ?_ | refine rE ?_ | refine rG ?_ | refine FinQ.now ?_ | refine FinQ.end ?_)))
        refine J_for (upto 49 74) (fun j : Nat => [(16, .raw (.int .i64 j))]) (fun _ => [.box (encNet n), .arr 1 ((pickTo (isWant n es R) v).map encN)]) (fun j => j ≤ es.length ∧ (earthUp n es j v && decide ((v : Int) ∈ R)) = false) (fun j => es.length - j) 0 ⟨by omega, by simp [earthUp]⟩ (.le (by simp [go_sem, encNet]) (by simp)) ?_
        rintro j ⟨hj, hu⟩
        simp only [encNet]
        by_cases hjl : j < es.length
        · have hg := getD_N hjl
          have hej := hem _ (List.getElem_mem hjl)
          have hdv := getD_Dv (l := n.devs) (i := es[j].toNat) (by omega)
          have hgd : n.devs.getD es[j].toNat ⟨⟨#[]⟩, 0, 0, 0, 0⟩ = n.devs[es[j].toNat]'(by omega) := getD_get (by omega)
          have cR := has R v (by omega)
          have hup := earthUp_next (n := n) (v := (v : Int)) hjl
          rw [hgd] at hup
          obtain ⟨b1, hb1⟩ : ∃ b, decide ((n.devs[es[j].toNat]'(by omega)).a = (v : Int)) = b := ⟨_, rfl⟩
          obtain ⟨b2, hb2⟩ : ∃ b, decide ((v : Int) ∈ R) = b := ⟨_, rfl⟩
          rw [hb2] at cR hu
          rw [hb1] at hup
          cases b1
          · cases b2
            · skip
              have hu2 : (earthUp n es (j + 1) v && decide ((v : Int) ∈ R)) = false := by rw [hup, hb2]; revert hu; cases earthUp n es j v <;> simp
              refine J_run 200 ?_
              iterate 20 (all_goals (try (first
                | ((with_reducible refine J_draw (id := 16) 200 [] plan19_16 (by kernel_rfl) (by kernel_rfl) ?_); delta plan19_16)
                | (simp (maxSteps := 1000000) (disch := omega) only [go_sem, hg, hdv, hb1])
                | ((with_reducible refine CallA.pure cR ?_ ?_); (· simp (disch := omega) only [go_sem, hg, hdv, hb1]); rintro _ _ ⟨rfl, rfl⟩)
                | ((with_reducible first | refine gDt ?_ ?_ | refine gDf ?_ ?_ | refine gNt ?_ ?_ | refine gNf ?_ ?_ | refine cD ?_ ?_ | refine cN ?_ ?_ | refine cB ?_ ?_ | refine gB ?_ ?_ | refine stepGuard_dect ?_ ?_ | refine stepGuard_decf ?_ ?_ | refine stepGuard_ndect ?_ ?_ | refine stepGuard_ndecf ?_ ?_ | refine stepGuard_by ?_ ?_) <;> intro h)
                | with_reducible first | refine And.intro ?_ ?_ | refine J_seq ?_ | refine J_block ?_ | refine J_inBlock ?_ | refine rC ?_ | refine rR ?_ | refine rE ?_ | refine rG ?_ | refine FinQ.now ?_ | refine FinQ.end ?_)))
              refine .mk (j + 1) ⟨hjl, hu2⟩ (by omega) ?_ ?_
              · simp [go_sem, encNet]
              · simp
            · skip
              have hu2 : (earthUp n es (j + 1) v && decide ((v : Int) ∈ R)) = false := by rw [hup, hb2]; revert hu; cases earthUp n es j v <;> simp
              refine J_run 200 ?_
              iterate 20 (all_goals (try (first
                | ((with_reducible refine J_draw (id := 16) 200 [] plan19_16 (by kernel_rfl) (by kernel_rfl) ?_); delta plan19_16)
                | (simp (maxSteps := 1000000) (disch := omega) only [go_sem, hg, hdv, hb1])
                | ((with_reducible refine CallA.pure cR ?_ ?_); (· simp (disch := omega) only [go_sem, hg, hdv, hb1]); rintro _ _ ⟨rfl, rfl⟩)
                | ((with_reducible first | refine gDt ?_ ?_ | refine gDf ?_ ?_ | refine gNt ?_ ?_ | refine gNf ?_ ?_ | refine cD ?_ ?_ | refine cN ?_ ?_ | refine cB ?_ ?_ | refine gB ?_ ?_ | refine stepGuard_dect ?_ ?_ | refine stepGuard_decf ?_ ?_ | refine stepGuard_ndect ?_ ?_ | refine stepGuard_ndecf ?_ ?_ | refine stepGuard_by ?_ ?_) <;> intro h)
                | with_reducible first | refine And.intro ?_ ?_ | refine J_seq ?_ | refine J_block ?_ | refine J_inBlock ?_ | refine rC ?_ | refine rR ?_ | refine rE ?_ | refine rG ?_ | refine FinQ.now ?_ | refine FinQ.end ?_)))
              refine .mk (j + 1) ⟨hjl, hu2⟩ (by omega) ?_ ?_
              · simp [go_sem, encNet]
              · simp
          · cases b2
            · skip
              have hu2 : (earthUp n es (j + 1) v && decide ((v : Int) ∈ R)) = false := by rw [hup, hb2]; revert hu; cases earthUp n es j v <;> simp
              refine J_run 200 ?_
              iterate 20 (all_goals (try (first
                | ((with_reducible refine J_draw (id := 16) 200 [] plan19_16 (by kernel_rfl) (by kernel_rfl) ?_); delta plan19_16)
                | (simp (maxSteps := 1000000) (disch := omega) only [go_sem, hg, hdv, hb1])
                | ((with_reducible refine CallA.pure cR ?_ ?_); (· simp (disch := omega) only [go_sem, hg, hdv, hb1]); rintro _ _ ⟨rfl, rfl⟩)
                | ((with_reducible first | refine gDt ?_ ?_ | refine gDf ?_ ?_ | refine gNt ?_ ?_ | refine gNf ?_ ?_ | refine cD ?_ ?_ | refine cN ?_ ?_ | refine cB ?_ ?_ | refine gB ?_ ?_ | refine stepGuard_dect ?_ ?_ | refine stepGuard_decf ?_ ?_ | refine stepGuard_ndect ?_ ?_ | refine stepGuard_ndecf ?_ ?_ | refine stepGuard_by ?_ ?_) <;> intro h)
                | with_reducible first | refine And.intro ?_ ?_ | refine J_seq ?_ | refine J_block ?_ | refine J_inBlock ?_ | refine rC ?_ | refine rR ?_ | refine rE ?_ | refine rG ?_ | refine FinQ.now ?_ | refine FinQ.end ?_)))
              refine .mk (j + 1) ⟨hjl, hu2⟩ (by omega) ?_ ?_
              · simp [go_sem, encNet]
              · simp
            · have hw : isWant n es R v = true := by
                unfold isWant earthAt
                rw [hb2, Bool.and_true, List.any_eq_true]
                exact ⟨_, List.getElem_mem hjl, by rw [hgd]; exact hb1⟩
              rw [hw, if_pos rfl] at hpn
              refine J_run 200 ?_
              iterate 20 (all_goals (try (first
                | ((with_reducible refine J_draw (id := 16) 200 [] plan19_16 (by kernel_rfl) (by kernel_rfl) ?_); delta plan19_16)
                | (simp (maxSteps := 1000000) (disch := omega) only [go_sem, hg, hdv, hb1])
                | ((with_reducible refine CallA.pure cR ?_ ?_); (· simp (disch := omega) only [go_sem, hg, hdv, hb1]); rintro _ _ ⟨rfl, rfl⟩)
                | ((with_reducible first | refine gDt ?_ ?_ | refine gDf ?_ ?_ | refine gNt ?_ ?_ | refine gNf ?_ ?_ | refine cD ?_ ?_ | refine cN ?_ ?_ | refine cB ?_ ?_ | refine gB ?_ ?_ | refine stepGuard_dect ?_ ?_ | refine stepGuard_decf ?_ ?_ | refine stepGuard_ndect ?_ ?_ | refine stepGuard_ndecf ?_ ?_ | refine stepGuard_by ?_ ?_) <;> intro h)
                | with_reducible first | refine And.intro ?_ ?_ | refine J_seq ?_ | refine J_block ?_ | refine J_inBlock ?_ | refine rC ?_ | refine rR ?_ | refine rE ?_ | refine rG ?_ | refine FinQ.now ?_ | refine FinQ.end ?_)))
              refine .mk (v + 1) hvl (by omega) ?_ ?_
              · rw [hpn]; simp [go_sem, encNet, encN]
              · simp
        · have hje : j = es.length := by omega
          subst hje
          rw [earthUp_all] at hu
          have hw : isWant n es R v = false := hu
          rw [hw, if_neg (by simp), List.append_nil] at hpn
          refine J_run 200 ?_
          iterate 8 (all_goals (try (first
            | (simp (maxSteps := 1000000) (disch := omega) only [go_sem])
            | ((with_reducible first | refine gDt ?_ ?_ | refine gDf ?_ ?_ | refine gNt ?_ ?_ | refine gNf ?_ ?_ | refine cD ?_ ?_ | refine cN ?_ ?_ | refine cB ?_ ?_ | refine gB ?_ ?_) <;> intro h)
            | with_reducible first | refine And.intro ?_ ?_ | refine J_seq ?_ | refine J_block ?_ | refine J_inBlock ?_ | refine rC ?_ | refine rR ?_ | refine rE ?_ | refine rG ?_ | refine FinQ.now ?_ | refine FinQ.end ?_)))
          refine .mk (v + 1) hvl (by omega) ?_ ?_
          · rw [hpn]; simp [go_sem, encNet]
          · simp
      · have hve : v = n.nodes.length := by omega
        subst hve
        refine J_run 200 ?_
        iterate 10 (all_goals (try (first
          | (simp (maxSteps := 1000000) (disch := omega) only [go_sem])
          | ((with_reducible first | refine gDt ?_ ?_ | refine gDf ?_ ?_ | refine gNt ?_ ?_ | refine gNf ?_ ?_ | refine cD ?_ ?_ | refine cN ?_ ?_ | refine cB ?_ ?_ | refine gB ?_ ?_) <;> intro h)
          | with_reducible first | refine And.intro ?_ ?_ | refine J_seq ?_ | refine J_block ?_ | refine J_inBlock ?_ | refine rC ?_ | refine rR ?_ | refine rE ?_ | refine rG ?_)))
        refine .frz [1] (.now ?_)
        simp only [go_sem, take_lm]
    · have hle : lockedE n l z = zoneChk n z := by unfold lockedE; rw [if_neg (by simp [hk])]
      rw [show countedR n l z = ([], zoneChk n z) by unfold countedR; rw [if_pos (by rw [hle]; exact h0), hle]]
      rw [show earthsR n l = (earthsOf n l, 0) by unfold earthsR; rw [if_neg (by simp [hk])]] at ce
      refine holds_ofV Tryz.func19 rfl rfl ?_
      refine J_run 200 ?_
      delta Tryz.f19
      simp only [encNet] at ce cz ⊢
      iterate 20 (all_goals (try (first
        | (exfalso; omega)
        | (simp (maxSteps := 1000000) (disch := omega) only [go_sem])
        | ((with_reducible refine CallA.pure ce ?_ ?_); (· simp (disch := omega) only [go_sem]); rintro _ _ ⟨rfl, rfl⟩)
        | ((with_reducible refine CallA.pure cz ?_ ?_); (· simp (disch := omega) only [go_sem]); rintro _ _ ⟨rfl, rfl⟩)
        | ((with_reducible first | refine gDt ?_ ?_ | refine gDf ?_ ?_ | refine gNt ?_ ?_ | refine gNf ?_ ?_ | refine cD ?_ ?_ | refine cN ?_ ?_ | refine cB ?_ ?_ | refine gB ?_ ?_) <;> intro h)
        | with_reducible first | refine And.intro ?_ ?_ | refine J_seq ?_ | refine J_block ?_ | refine J_inBlock ?_ | refine rC ?_ | refine rR ?_ | refine rE ?_ | refine rG ?_ | refine FinQ.now ?_ | refine FinQ.end ?_)))
      exact ⟨_, .tup (.cons (.nilLst 1) (VLes.refl _)), rfl, rfl⟩
  · have hle : lockedE n l z = lockChk n l := by unfold lockedE; rw [if_pos hk]
    rw [show countedR n l z = ([], lockChk n l) by unfold countedR; rw [if_pos (by rw [hle]; exact hk), hle]]
    rw [show earthsR n l = ([], lockChk n l) by unfold earthsR; rw [if_pos hk]] at ce
    refine holds_ofV Tryz.func19 rfl rfl ?_
    refine J_run 200 ?_
    delta Tryz.f19
    simp only [encNet] at ce ⊢
    iterate 12 (all_goals (try (first
      | (exfalso; omega)
      | (simp (maxSteps := 1000000) (disch := omega) only [go_sem])
      | ((with_reducible refine CallA.pure ce ?_ ?_); (· simp (disch := omega) only [go_sem]); rintro _ _ ⟨rfl, rfl⟩)
      | ((with_reducible first | refine gDt ?_ ?_ | refine gDf ?_ ?_ | refine gNt ?_ ?_ | refine gNf ?_ ?_ | refine cD ?_ ?_ | refine cN ?_ ?_ | refine cB ?_ ?_ | refine gB ?_ ?_) <;> intro h)
      | with_reducible first | refine And.intro ?_ ?_ | refine J_seq ?_ | refine J_block ?_ | refine J_inBlock ?_ | refine rC ?_ | refine rR ?_ | refine rE ?_ | refine rG ?_ | refine FinQ.now ?_ | refine FinQ.end ?_)))
    exact ⟨_, .tup (.cons (.nilLst 1) (VLes.refl _)), rfl, rfl⟩
theorem rMissing16 (n : Net) (hs : n.sized) (l : List Lk) (hl : l.length ≤ 1000000) (z : List Int) (hzl : z.length ≤ 1000000) :
    Fn1 Tryz.prog GT0 21 [.agg (encNet n), .lst 3 (l.map encLk), .lst 1 (z.map encN)] (.tup [.lst 1 ((missingR n l z).1.map encN), .raw (.int .i64 (missingR n l z).2)]) [] := by
  have cc := rCounted n hs l hl z hzl
  by_cases h0 : lockedE n l z = 0
  · have hz := zoneChk_zero (lockedE_zero h0).2
    have hnl := hz.1.nl
    have hcl := countL_len (n := n) (l := l) (z := z)
    have cm := rMissL n hz.1 z (countL n l z) (fun x hx => rising_mem hz.2.2 hx) hzl (by omega)
    rw [show countedR n l z = (countL n l z, 0) by unfold countedR; rw [if_neg (by simp [h0])]] at cc
    rw [show missingR n l z = (missL n z (countL n l z), 0) by unfold missingR; rw [if_neg (by simp [h0])]]
    refine holds_of Tryz.func21 rfl rfl ?_
    refine J_run 200 ?_
    delta Tryz.f21
    simp only [encNet] at cc cm ⊢
    iterate 14 (all_goals (try (first
      | (simp (maxSteps := 1000000) (disch := omega) only [go_sem])
      | ((with_reducible refine CallA.pure cc ?_ ?_); (· simp (disch := omega) only [go_sem]); rintro _ _ ⟨rfl, rfl⟩)
      | ((with_reducible refine CallA.pure cm ?_ ?_); (· simp (disch := omega) only [go_sem]); rintro _ _ ⟨rfl, rfl⟩)
      | ((with_reducible first | refine gDt ?_ ?_ | refine gDf ?_ ?_ | refine gNt ?_ ?_ | refine gNf ?_ ?_ | refine cD ?_ ?_ | refine cN ?_ ?_ | refine cB ?_ ?_ | refine gB ?_ ?_) <;> intro h)
      | with_reducible first | refine And.intro ?_ ?_ | refine J_seq ?_ | refine J_block ?_ | refine J_inBlock ?_ | refine rC ?_ | refine rR ?_ | refine rE ?_ | refine rG ?_ | refine FinQ.now ?_ | refine FinQ.end ?_)))
  · rw [show countedR n l z = ([], lockedE n l z) by unfold countedR; rw [if_pos h0]] at cc
    rw [show missingR n l z = ([], lockedE n l z) by unfold missingR; rw [if_pos h0]]
    refine holds_ofV Tryz.func21 rfl rfl ?_
    refine J_run 200 ?_
    delta Tryz.f21
    simp only [encNet] at cc ⊢
    iterate 12 (all_goals (try (first
      | (exfalso; omega)
      | (simp (maxSteps := 1000000) (disch := omega) only [go_sem])
      | ((with_reducible refine CallA.pure cc ?_ ?_); (· simp (disch := omega) only [go_sem]); rintro _ _ ⟨rfl, rfl⟩)
      | ((with_reducible first | refine gDt ?_ ?_ | refine gDf ?_ ?_ | refine gNt ?_ ?_ | refine gNf ?_ ?_ | refine cD ?_ ?_ | refine cN ?_ ?_ | refine cB ?_ ?_ | refine gB ?_ ?_) <;> intro h)
      | with_reducible first | refine And.intro ?_ ?_ | refine J_seq ?_ | refine J_block ?_ | refine J_inBlock ?_ | refine rC ?_ | refine rR ?_ | refine rE ?_ | refine rG ?_ | refine FinQ.now ?_ | refine FinQ.end ?_)))
    exact ⟨_, .tup (.cons (.nilLst 1) (VLes.refl _)), rfl, rfl⟩
theorem rSides16 (n : Net) (hs : n.sized) (l : List Lk) (hl : l.length ≤ 1000000) (z : List Int) (hzl : z.length ≤ 1000000) :
    Fn1 Tryz.prog GT0 23 [.agg (encNet n), .lst 3 (l.map encLk), .lst 1 (z.map encN)] (.tup [.raw (.bool (sidesR n l z).1), .raw (.int .i64 (sidesR n l z).2)]) [] := by
  have cc := rMissing16 n hs l hl z hzl
  by_cases h0 : lockedE n l z = 0
  · have hml := missL_len (n := n) (E := countL n l z) (z := z)
    rw [show missingR n l z = (missL n z (countL n l z), 0) by unfold missingR; rw [if_neg (by simp [h0])]] at cc
    have hd : decide (missL n z (countL n l z) = []) = decide (((missL n z (countL n l z)).length : Int) = 0) := by rw [decide_eq_decide, ← List.length_eq_zero_iff]; omega
    rw [show sidesR n l z = (decide (missL n z (countL n l z) = []), 0) by unfold sidesR; rw [if_neg (by simp [h0])], hd]
    refine holds_of Tryz.func23 rfl rfl ?_
    refine J_run 200 ?_
    delta Tryz.f23
    simp only [encNet] at cc ⊢
    iterate 14 (all_goals (try (first
      | (simp (maxSteps := 1000000) (disch := omega) only [go_sem])
      | ((with_reducible refine CallA.pure cc ?_ ?_); (· simp (disch := omega) only [go_sem]); rintro _ _ ⟨rfl, rfl⟩)
      | ((with_reducible first | refine gDt ?_ ?_ | refine gDf ?_ ?_ | refine gNt ?_ ?_ | refine gNf ?_ ?_ | refine cD ?_ ?_ | refine cN ?_ ?_ | refine cB ?_ ?_ | refine gB ?_ ?_) <;> intro h)
      | with_reducible first | refine And.intro ?_ ?_ | refine J_seq ?_ | refine J_block ?_ | refine J_inBlock ?_ | refine rC ?_ | refine rR ?_ | refine rE ?_ | refine rG ?_ | refine FinQ.now ?_ | refine FinQ.end ?_)))
  · rw [show missingR n l z = ([], lockedE n l z) by unfold missingR; rw [if_pos h0]] at cc
    rw [show sidesR n l z = (false, lockedE n l z) by unfold sidesR; rw [if_pos h0]]
    refine holds_of Tryz.func23 rfl rfl ?_
    refine J_run 200 ?_
    delta Tryz.f23
    simp only [encNet] at cc ⊢
    iterate 14 (all_goals (try (first
      | (exfalso; omega)
      | (simp (maxSteps := 1000000) (disch := omega) only [go_sem, h0])
      | ((with_reducible refine CallA.pure cc ?_ ?_); (· simp (disch := omega) only [go_sem, h0]); rintro _ _ ⟨rfl, rfl⟩)
      | ((with_reducible first | refine gDt ?_ ?_ | refine gDf ?_ ?_ | refine gNt ?_ ?_ | refine gNf ?_ ?_ | refine cD ?_ ?_ | refine cN ?_ ?_ | refine cB ?_ ?_ | refine gB ?_ ?_) <;> intro h)
      | with_reducible first | refine And.intro ?_ ?_ | refine J_seq ?_ | refine J_block ?_ | refine J_inBlock ?_ | refine rC ?_ | refine rR ?_ | refine rE ?_ | refine rG ?_ | refine FinQ.now ?_ | refine FinQ.end ?_)))
theorem rSecure16 (n : Net) (hs : n.sized) (l : List Lk) (hl : l.length ≤ 1000000) (z : List Int) (hzl : z.length ≤ 1000000) :
    Fn1 Tryz.prog GT0 25 [.agg (encNet n), .lst 3 (l.map encLk), .lst 1 (z.map encN)] (.tup [.raw (.bool (secureR n l z).1), .raw (.int .i64 (secureR n l z).2)]) [] := by
  have ci := rIsolated n hs l hl z hzl
  have cs := rSides16 n hs l hl z hzl
  by_cases h0 : lockedE n l z = 0
  · rw [show isolatedR n l z = (enoughB n z (gapsOf n l), 0) by unfold isolatedR; rw [if_neg (by simp [h0])]] at ci
    rw [show sidesR n l z = (decide (missL n z (countL n l z) = []), 0) by unfold sidesR; rw [if_neg (by simp [h0])]] at cs
    rw [show secureR n l z = (enoughB n z (gapsOf n l) && decide (missL n z (countL n l z) = []), 0) by unfold secureR; rw [if_neg (by simp [h0])]]
    obtain ⟨a, ha⟩ : ∃ b, enoughB n z (gapsOf n l) = b := ⟨_, rfl⟩
    obtain ⟨b, hb⟩ : ∃ b, decide (missL n z (countL n l z) = []) = b := ⟨_, rfl⟩
    rw [ha] at ci
    rw [hb] at cs
    rw [ha, hb]
    cases a
    all_goals
      refine holds_of Tryz.func25 rfl rfl ?_
      refine J_run 200 ?_
      delta Tryz.f25
      simp only [encNet] at ci cs ⊢
      iterate 14 (all_goals (try (first
        | (simp (maxSteps := 1000000) (disch := omega) only [go_sem])
        | ((with_reducible refine CallA.pure ci ?_ ?_); (· simp (disch := omega) only [go_sem]); rintro _ _ ⟨rfl, rfl⟩)
        | ((with_reducible refine CallA.pure cs ?_ ?_); (· simp (disch := omega) only [go_sem]); rintro _ _ ⟨rfl, rfl⟩)
        | ((with_reducible first | refine gDt ?_ ?_ | refine gDf ?_ ?_ | refine gNt ?_ ?_ | refine gNf ?_ ?_ | refine cD ?_ ?_ | refine cN ?_ ?_ | refine cB ?_ ?_ | refine gB ?_ ?_) <;> intro h)
        | with_reducible first | refine And.intro ?_ ?_ | refine J_seq ?_ | refine J_block ?_ | refine J_inBlock ?_ | refine rC ?_ | refine rR ?_ | refine rE ?_ | refine rG ?_ | refine FinQ.now ?_ | refine FinQ.end ?_)))
  · rw [show isolatedR n l z = (false, lockedE n l z) by unfold isolatedR; rw [if_pos h0]] at ci
    rw [show secureR n l z = (false, lockedE n l z) by unfold secureR; rw [if_pos h0]]
    refine holds_of Tryz.func25 rfl rfl ?_
    refine J_run 200 ?_
    delta Tryz.f25
    simp only [encNet] at ci ⊢
    iterate 14 (all_goals (try (first
      | (exfalso; omega)
      | (simp (maxSteps := 1000000) (disch := omega) only [go_sem])
      | ((with_reducible refine CallA.pure ci ?_ ?_); (· simp (disch := omega) only [go_sem]); rintro _ _ ⟨rfl, rfl⟩)
      | ((with_reducible first | refine gDt ?_ ?_ | refine gDf ?_ ?_ | refine gNt ?_ ?_ | refine gNf ?_ ?_ | refine cD ?_ ?_ | refine cN ?_ ?_ | refine cB ?_ ?_ | refine gB ?_ ?_) <;> intro h)
      | with_reducible first | refine And.intro ?_ ?_ | refine J_seq ?_ | refine J_block ?_ | refine J_inBlock ?_ | refine rC ?_ | refine rR ?_ | refine rE ?_ | refine rG ?_ | refine FinQ.now ?_ | refine FinQ.end ?_)))
end Go.Proofs.YthgcmeniecaemaaGreatDoor.Abs
