/- EarthingWays, walked: it returns true. -/
import Derived.Test.YthgcmeniecaemaaDoorEMo
import Derived.Test.YthgcmeniecaemaaDoorEX
import Derived.Test.YthgcmeniecaemaaDoorEY
namespace Go.Proofs.YthgcmeniecaemaaDoor.Abs
set_option linter.unusedSimpArgs false
set_option linter.unusedVariables false
set_option maxRecDepth 100000
open Go Go.RowKit

theorem set_encBb {out : List Bool} {k : Nat} (hk : k < out.length) (b : Bool) : (out.map encB).set k (.raw (.bool b) :: List.drop 1 ((out.map encB).getD k [])) = (out.set k b).map encB := by
  rw [getD_B hk, List.map_set]; rfl
theorem bitsTo_zero {p : Nat → Bool} {N : Nat} : (bitsTo p N 0).map encB = List.replicate N [.raw (.bool false)] := by
  simp only [bitsTo, List.map_map]
  apply List.ext_getElem (by simp)
  intro v h1 h2
  simp [encB]
theorem bitsTo_new {p : Nat → Bool} {N i : Nat} (hi : i < N) : ((bitsTo p N (i + 1)).map encB).getD i [] = [.raw (.bool (p i))] := by
  rw [getD_B (by rw [bitsTo_len]; exact hi)]
  simp [bitsTo]
set_option maxHeartbeats 16000000 in
theorem earthingWays (l : List Int) (hl : NumsOk l) : Fn1 Tryd.prog GT0 6 [.lst 1 (l.map encN)] (.raw (.bool true)) [] := by
  have ca := awake16
  have cf := few l hl.len
  by_cases h400 : l.length ≤ 400
  · have cn := newDeck l
    rw [decide_eq_true h400] at cf
    have cw := networkD _ hl.deck 7 12 (by omega) (by omega)
    refine holds_of Tryd.func6 rfl rfl ?_
    refine J_run 200 ?_
    delta Tryd.f6
    iterate 6 (all_goals (try (first
      | (simp (maxSteps := 1000000) (disch := omega) only [go_sem])
      | ((with_reducible refine CallA.pure cf ?_ ?_); (· simp (disch := omega) only [go_sem]); rintro _ _ ⟨rfl, rfl⟩)
      | ((with_reducible refine CallA.pure cn ?_ ?_); (· simp (disch := omega) only [go_sem]); rintro _ _ ⟨rfl, rfl⟩)
      | ((with_reducible first | refine gDt ?_ ?_ | refine gDf ?_ ?_ | refine gNt ?_ ?_ | refine gNf ?_ ?_ | refine cD ?_ ?_ | refine cN ?_ ?_ | refine cB ?_ ?_ | refine gB ?_ ?_) <;> intro h)
      | with_reducible first | refine And.intro ?_ ?_ | refine J_seq ?_ | refine J_block ?_ | refine J_inBlock ?_ | refine rC ?_ | refine rR ?_ | refine rE ?_ | refine rG ?_ | refine FinQ.now ?_ | refine FinQ.end ?_)))
    refine CallA.mut [0] ?_ ?_ ?_ ?_ cw ?_
    · simp only [go_sem]
    · simp only [go_sem]
    · simp only [go_sem]
    · simp only [go_sem]
    rintro _ _ ⟨n, k, d1, hd1, hM, hk2, hk7, hdl, hd1', rfl, rfl⟩
    have hnl := hM.nl
    have hno := hM.ok (by omega) (by omega)
    have cs := fun (d : Dk) (hd : d.ok) => setN d hd n.nodes.length (by omega) 3
    have cx := next d1 hd1 n.nodes.length ⟨by omega, by omega⟩
    simp only [encNet]
    iterate 9 (all_goals (try (first
      | (simp (maxSteps := 1000000) (disch := omega) only [go_sem])
      | ((with_reducible refine CallA.mut [0] ?_ ?_ ?_ ?_ cx ?_); (· simp (disch := omega) only [go_sem]); (· simp (disch := omega) only [go_sem]); (· simp (disch := omega) only [go_sem]); (· simp (disch := omega) only [go_sem]); rintro _ _ ⟨v, d2, hd2, hv0, hv1, rfl, rfl⟩)
      | ((with_reducible refine CallA.mut [0] ?_ ?_ ?_ ?_ (cs _ hd2) ?_); (· simp (disch := omega) only [go_sem]); (· simp (disch := omega) only [go_sem]); (· simp (disch := omega) only [go_sem]); (· simp (disch := omega) only [go_sem]); rintro _ _ ⟨E, d3, hd3, hE, hEl, rfl, rfl⟩)
      | ((with_reducible first | refine gDt ?_ ?_ | refine gDf ?_ ?_ | refine gNt ?_ ?_ | refine gNf ?_ ?_ | refine cD ?_ ?_ | refine cN ?_ ?_ | refine cB ?_ ?_ | refine gB ?_ ?_) <;> intro h)
      | with_reducible first | refine And.intro ?_ ?_ | refine J_seq ?_ | refine J_block ?_ | refine J_inBlock ?_ | refine rC ?_ | refine rR ?_ | refine rE ?_ | refine rG ?_ | refine FinQ.now ?_ | refine FinQ.end ?_)))
    have hv : 0 ≤ v ∧ v < n.nodes.length := by omega
    have cE := EarthF n hno.sized [v] E (by simp) (by omega)
    rw [earthE_one hno hv hE] at cE
    obtain ⟨vn, rfl⟩ : ∃ k : Nat, v = k := ⟨v.toNat, by omega⟩
    rw [Int.toNat_natCast] at cE
    have cHv := has E vn (by omega)
    obtain ⟨got, hgot⟩ : ∃ b, protB n E vn = b := ⟨_, rfl⟩
    rw [hgot] at cE
    simp only [encNet, List.map_cons, List.map_nil, encN] at cE
    iterate 12 (all_goals (try (first
      | ((with_reducible refine J_draw (id := 8) 200 [] plan6_8 (by kernel_rfl) (by kernel_rfl) ?_); delta plan6_8)
      | (simp (maxSteps := 1000000) (disch := omega) only [go_sem, take_lm, List.take_succ_cons, List.take_zero])
      | ((with_reducible refine CallA.give [2,3] ?_ ?_ cE ?_); (· simp (disch := omega) only [go_sem, take_lm, List.take_succ_cons, List.take_zero]); (· simp (disch := omega) only [go_sem, take_lm, List.take_succ_cons, List.take_zero]); rintro _ _ ⟨rfl, rfl⟩)
      | ((with_reducible first | refine gDt ?_ ?_ | refine gDf ?_ ?_ | refine gNt ?_ ?_ | refine gNf ?_ ?_ | refine cD ?_ ?_ | refine cN ?_ ?_ | refine cB ?_ ?_ | refine gB ?_ ?_ | refine stepGuard_dect ?_ ?_ | refine stepGuard_decf ?_ ?_ | refine stepGuard_ndect ?_ ?_ | refine stepGuard_ndecf ?_ ?_ | refine stepGuard_by ?_ ?_) <;> intro h)
      | with_reducible first | refine And.intro ?_ ?_ | refine J_seq ?_ | refine J_block ?_ | refine J_inBlock ?_ | refine rC ?_ | refine rR ?_ | refine rE ?_ | refine rG ?_ | refine FinQ.now ?_ | refine FinQ.end ?_)))
    · skip
      refine J_for ([11, 12] ++ upto 64 93) (fun i : Nat => [(62, .raw (.int .i64 i))]) (fun i => [.box (encDk d3), .box (encNet n), .dead, .dead, .arr 1 ((bitsTo (useB n E) n.devs.length i).map encB), .arr 1 ((bitsTo (anyB n) n.devs.length i).map encB)]) (fun i => i ≤ n.devs.length) (fun i => n.devs.length - i) 0 (by omega) (.le (by simp [go_sem, encNet, bitsTo_zero]) (by simp)) ?_
      intro i hi
      simp only [encNet]
      have hul := bitsTo_len (p := useB n E) (N := n.devs.length) (k := i)
      have hal := bitsTo_len (p := anyB n) (N := n.devs.length) (k := i)
      by_cases hlt : i < n.devs.length
      · have hdv := getD_Dv hlt
        have cj := rJoins n.devs[i].kind
        have cHa := has E n.devs[i].a (by omega)
        have cHb := has E n.devs[i].b (by omega)
        have hu1 := bitsTo_next (p := useB n E) hlt
        have ha1 := bitsTo_next (p := anyB n) hlt
        have hse := set_encBb (out := bitsTo (anyB n) n.devs.length i) (k := i) (by omega) (anyB n i)
        have hsu := set_encBb (out := bitsTo (useB n E) n.devs.length i) (k := i) (by omega) (useB n E i)
        rw [← ha1] at hse
        rw [← hu1] at hsu
        have hgn := bitsTo_new (p := anyB n) hlt
        have eA : anyB n i = joinsK n.devs[i].kind := by unfold anyB; rw [getD_get hlt]
        have eU : useB n E i = (joinsK n.devs[i].kind && (!decide (n.devs[i].a ∈ E) && !decide (n.devs[i].b ∈ E))) := by unfold useB; rw [getD_get hlt]
        obtain ⟨jk, hjk⟩ : ∃ b, joinsK n.devs[i].kind = b := ⟨_, rfl⟩
        obtain ⟨b1, hb1⟩ : ∃ b, decide (n.devs[i].a ∈ E) = b := ⟨_, rfl⟩
        obtain ⟨b2, hb2⟩ : ∃ b, decide (n.devs[i].b ∈ E) = b := ⟨_, rfl⟩
        rw [hjk, hb1, hb2] at eU
        rw [hjk] at eA cj
        rw [hb1] at cHa
        rw [hb2] at cHb
        rw [eA] at hse hgn
        rw [eU] at hsu
        cases jk <;> cases b1 <;> cases b2
        all_goals
          simp only [Bool.and_true, Bool.and_false, Bool.true_and, Bool.false_and, Bool.not_true, Bool.not_false] at hsu
          refine J_run 200 ?_
          iterate 14 (all_goals (try (first
            | (simp (maxSteps := 1000000) (disch := omega) only [go_sem, hdv, hse, hgn])
            | ((with_reducible refine CallA.pure cj ?_ ?_); (· simp (disch := omega) only [go_sem, hdv, hse, hgn]); rintro _ _ ⟨rfl, rfl⟩)
            | ((with_reducible refine CallA.pure cHa ?_ ?_); (· simp (disch := omega) only [go_sem, hdv, hse, hgn]); rintro _ _ ⟨rfl, rfl⟩)
            | ((with_reducible refine CallA.pure cHb ?_ ?_); (· simp (disch := omega) only [go_sem, hdv, hse, hgn]); rintro _ _ ⟨rfl, rfl⟩)
            | ((with_reducible first | refine gDt ?_ ?_ | refine gDf ?_ ?_ | refine gNt ?_ ?_ | refine gNf ?_ ?_ | refine cD ?_ ?_ | refine cN ?_ ?_ | refine cB ?_ ?_ | refine gB ?_ ?_) <;> intro h)
            | with_reducible first | refine And.intro ?_ ?_ | refine J_seq ?_ | refine J_block ?_ | refine J_inBlock ?_ | refine rC ?_ | refine rR ?_ | refine rE ?_ | refine rG ?_ | refine FinQ.now ?_ | refine FinQ.end ?_)))
          refine .mk (i + 1) hlt (by omega) ?_ ?_
          · rw [← hsu]; simp [go_sem, encNet]
          · simp
      have hie : i = n.devs.length := by omega
      subst hie
      by_cases hvE : (vn : Int) ∈ E
      · rw [decide_eq_true hvE] at cHv
        have hgt : got = true := by rw [← hgot]; exact protB_own hno hvE
        subst hgt
        refine J_run 200 ?_
        iterate 20 (all_goals (try (first
          | (simp (maxSteps := 1000000) (disch := omega) only [go_sem, decide_true])
          | ((with_reducible refine CallA.pure cHv ?_ ?_); (· simp (disch := omega) only [go_sem, decide_true]); rintro _ _ ⟨rfl, rfl⟩)
          | ((with_reducible refine CallA.pure ca ?_ ?_); (· simp (disch := omega) only [go_sem, decide_true]); rintro _ _ ⟨rfl, rfl⟩)
          | ((with_reducible first | refine gDt ?_ ?_ | refine gDf ?_ ?_ | refine gNt ?_ ?_ | refine gNf ?_ ?_ | refine cD ?_ ?_ | refine cN ?_ ?_ | refine cB ?_ ?_ | refine gB ?_ ?_) <;> intro h)
          | with_reducible first | refine And.intro ?_ ?_ | refine J_seq ?_ | refine J_block ?_ | refine J_inBlock ?_ | refine rC ?_ | refine rR ?_ | refine rE ?_ | refine rG ?_ | refine FinQ.now ?_ | refine FinQ.end ?_)))
      · rw [decide_eq_false hvE] at cHv
        have hpw := prot_ways hno (fun x hx => (rising_mem hE hx).1) hvE
        rw [hgot] at hpw
        refine J_run 200 ?_
        iterate 10 (all_goals (try (first
          | (simp (maxSteps := 1000000) (disch := omega) only [go_sem])
          | ((with_reducible refine CallA.pure cHv ?_ ?_); (· simp (disch := omega) only [go_sem]); rintro _ _ ⟨rfl, rfl⟩)
          | ((with_reducible first | refine gDt ?_ ?_ | refine gDf ?_ ?_ | refine gNt ?_ ?_ | refine gNf ?_ ?_ | refine cD ?_ ?_ | refine cN ?_ ?_ | refine cB ?_ ?_ | refine gB ?_ ?_) <;> intro h)
          | with_reducible first | refine And.intro ?_ ?_ | refine J_seq ?_ | refine J_block ?_ | refine J_inBlock ?_ | refine rC ?_ | refine rR ?_ | refine rE ?_ | refine rG ?_ | refine FinQ.now ?_ | refine FinQ.end ?_)))
        refine J_frz [4, 5] ?_
        have htu : List.take n.devs.length ((bitsTo (useB n E) n.devs.length n.devs.length).map encB) = (bitsTo (useB n E) n.devs.length n.devs.length).map encB := List.take_of_length_le (by simp [bitsTo_len])
        have hta : List.take n.devs.length ((bitsTo (anyB n) n.devs.length n.devs.length).map encB) = (bitsTo (anyB n) n.devs.length n.devs.length).map encB := List.take_of_length_le (by simp [bitsTo_len])
        simp only [go_sem, htu, hta]
        refine J_for ([16, 17, 18, 19] ++ upto 104 131) (fun i : Nat => [(103, .raw (.int .i64 i)), (14, .raw (.bool (!pB (SrcWay n E vn i))))]) (fun _ => [.box (encDk d3), .box (encNet n)]) (fun i => i ≤ n.devs.length) (fun i => n.devs.length - i) 0 (by omega) (.le (by simp [go_sem, encNet, pB_false SrcWay.zero]) (by simp)) ?_
        intro i hi
        simp only [encNet]
        by_cases hlt : i < n.devs.length
        · have hdv := getD_Dv hlt
          have hok := hno.dev' hlt
          have ha0 := hok.a0; have hal2 := hok.al
          have cHa := has E n.devs[i].a (by omega)
          have cW := wayF n hno (bitsTo (useB n E) n.devs.length n.devs.length) bitsTo_len vn n.devs[i].a.toNat (by omega) (by omega)
          rw [Int.toNat_of_nonneg ha0] at cW
          simp only [encNet] at cW
          have hsucc := SrcWay.succ (n := n) (E := E) (v := vn) hlt
          have same : ¬ ((n.devs[i].kind = 5 ∨ n.devs[i].kind = 6) ∧ n.devs[i].a ∉ E ∧ From n (bitsTo (useB n E) n.devs.length n.devs.length) n.devs[i].a.toNat vn) → pB (SrcWay n E vn (i + 1)) = pB (SrcWay n E vn i) := fun h => pB_congr (hsucc.trans (or_iff_left h))
          obtain ⟨fr, hfr⟩ : ∃ b, pB (SrcWay n E vn i) = b := ⟨_, rfl⟩
          rw [hfr] at same ⊢
          by_cases h5 : n.devs[i].kind = 5
          · have e5 : decide (n.devs[i].kind = 5) = true := decide_eq_true h5
            have e6 := e5
            have hk : n.devs[i].kind = 5 ∨ n.devs[i].kind = 6 := .inl h5
            by_cases haE : n.devs[i].a ∈ E
            · rw [decide_eq_true haE] at cHa
              have hs := same fun h => h.2.1 haE
              refine J_run 200 ?_
              iterate 14 (all_goals (try (first
                | (simp (maxSteps := 1000000) (disch := omega) only [go_sem, hdv, e5, e6])
                | ((with_reducible refine CallA.pure cHa ?_ ?_); (· simp (disch := omega) only [go_sem, hdv, e5, e6]); rintro _ _ ⟨rfl, rfl⟩)
                | ((with_reducible first | refine gDt ?_ ?_ | refine gDf ?_ ?_ | refine gNt ?_ ?_ | refine gNf ?_ ?_ | refine cD ?_ ?_ | refine cN ?_ ?_ | refine cB ?_ ?_ | refine gB ?_ ?_) <;> intro h)
                | with_reducible first | refine And.intro ?_ ?_ | refine J_seq ?_ | refine J_block ?_ | refine J_inBlock ?_ | refine rC ?_ | refine rR ?_ | refine rE ?_ | refine rG ?_ | refine FinQ.now ?_ | refine FinQ.end ?_)))
              all_goals
                refine .mk (i + 1) hlt (by omega) ?_ ?_
                · rw [hs]; simp [go_sem, encNet]
                · simp
            · rw [decide_eq_false haE] at cHa
              obtain ⟨wb, hwb⟩ : ∃ b, wayB n (bitsTo (useB n E) n.devs.length n.devs.length) vn n.devs[i].a.toNat = b := ⟨_, rfl⟩
              unfold WayQ at cW
              rw [hwb] at cW
              cases wb with
              | false =>
                have hs := same fun h => by rw [wayB, pB_true h.2.2] at hwb; cases hwb
                refine J_run 200 ?_
                iterate 18 (all_goals (try (first
                  | (simp (maxSteps := 1000000) (disch := omega) only [go_sem, hdv, e5, e6])
                  | ((with_reducible refine CallA.pure cHa ?_ ?_); (· simp (disch := omega) only [go_sem, hdv, e5, e6]); rintro _ _ ⟨rfl, rfl⟩)
                  | ((with_reducible refine CallA.pure cW ?_ ?_); (· simp (disch := omega) only [go_sem, hdv, e5, e6]); rintro _ _ ⟨wl, rfl, rfl⟩)
                  | ((with_reducible first | refine gDt ?_ ?_ | refine gDf ?_ ?_ | refine gNt ?_ ?_ | refine gNf ?_ ?_ | refine cD ?_ ?_ | refine cN ?_ ?_ | refine cB ?_ ?_ | refine gB ?_ ?_) <;> intro h)
                  | with_reducible first | refine And.intro ?_ ?_ | refine J_seq ?_ | refine J_block ?_ | refine J_inBlock ?_ | refine rC ?_ | refine rR ?_ | refine rE ?_ | refine rG ?_ | refine FinQ.now ?_ | refine FinQ.end ?_)))
                all_goals
                  refine .mk (i + 1) hlt (by omega) ?_ ?_
                  · rw [hs]; simp [go_sem, encNet]
                  · simp
              | true =>
                have hs : pB (SrcWay n E vn (i + 1)) = true := pB_true (hsucc.2 (.inr ⟨hk, haE, pB_iff.1 hwb⟩))
                refine J_run 200 ?_
                iterate 18 (all_goals (try (first
                  | (simp (maxSteps := 1000000) (disch := omega) only [go_sem, hdv, e5, e6])
                  | ((with_reducible refine CallA.pure cHa ?_ ?_); (· simp (disch := omega) only [go_sem, hdv, e5, e6]); rintro _ _ ⟨rfl, rfl⟩)
                  | ((with_reducible refine CallA.pure cW ?_ ?_); (· simp (disch := omega) only [go_sem, hdv, e5, e6]); rintro _ _ ⟨wl, rfl, rfl⟩)
                  | ((with_reducible first | refine gDt ?_ ?_ | refine gDf ?_ ?_ | refine gNt ?_ ?_ | refine gNf ?_ ?_ | refine cD ?_ ?_ | refine cN ?_ ?_ | refine cB ?_ ?_ | refine gB ?_ ?_) <;> intro h)
                  | with_reducible first | refine And.intro ?_ ?_ | refine J_seq ?_ | refine J_block ?_ | refine J_inBlock ?_ | refine rC ?_ | refine rR ?_ | refine rE ?_ | refine rG ?_ | refine FinQ.now ?_ | refine FinQ.end ?_)))
                all_goals
                  refine .mk (i + 1) hlt (by omega) ?_ ?_
                  · rw [hs]; simp [go_sem, encNet]
                  · simp
          · have e5 : decide (n.devs[i].kind = 5) = false := decide_eq_false h5
            by_cases h6 : n.devs[i].kind = 6
            · have e6 : decide (n.devs[i].kind = 6) = true := decide_eq_true h6
              have hk : n.devs[i].kind = 5 ∨ n.devs[i].kind = 6 := .inr h6
              by_cases haE : n.devs[i].a ∈ E
              · rw [decide_eq_true haE] at cHa
                have hs := same fun h => h.2.1 haE
                refine J_run 200 ?_
                iterate 14 (all_goals (try (first
                  | (simp (maxSteps := 1000000) (disch := omega) only [go_sem, hdv, e5, e6])
                  | ((with_reducible refine CallA.pure cHa ?_ ?_); (· simp (disch := omega) only [go_sem, hdv, e5, e6]); rintro _ _ ⟨rfl, rfl⟩)
                  | ((with_reducible first | refine gDt ?_ ?_ | refine gDf ?_ ?_ | refine gNt ?_ ?_ | refine gNf ?_ ?_ | refine cD ?_ ?_ | refine cN ?_ ?_ | refine cB ?_ ?_ | refine gB ?_ ?_) <;> intro h)
                  | with_reducible first | refine And.intro ?_ ?_ | refine J_seq ?_ | refine J_block ?_ | refine J_inBlock ?_ | refine rC ?_ | refine rR ?_ | refine rE ?_ | refine rG ?_ | refine FinQ.now ?_ | refine FinQ.end ?_)))
                all_goals
                  refine .mk (i + 1) hlt (by omega) ?_ ?_
                  · rw [hs]; simp [go_sem, encNet]
                  · simp
              · rw [decide_eq_false haE] at cHa
                obtain ⟨wb, hwb⟩ : ∃ b, wayB n (bitsTo (useB n E) n.devs.length n.devs.length) vn n.devs[i].a.toNat = b := ⟨_, rfl⟩
                unfold WayQ at cW
                rw [hwb] at cW
                cases wb with
                | false =>
                  have hs := same fun h => by rw [wayB, pB_true h.2.2] at hwb; cases hwb
                  refine J_run 200 ?_
                  iterate 18 (all_goals (try (first
                    | (simp (maxSteps := 1000000) (disch := omega) only [go_sem, hdv, e5, e6])
                    | ((with_reducible refine CallA.pure cHa ?_ ?_); (· simp (disch := omega) only [go_sem, hdv, e5, e6]); rintro _ _ ⟨rfl, rfl⟩)
                    | ((with_reducible refine CallA.pure cW ?_ ?_); (· simp (disch := omega) only [go_sem, hdv, e5, e6]); rintro _ _ ⟨wl, rfl, rfl⟩)
                    | ((with_reducible first | refine gDt ?_ ?_ | refine gDf ?_ ?_ | refine gNt ?_ ?_ | refine gNf ?_ ?_ | refine cD ?_ ?_ | refine cN ?_ ?_ | refine cB ?_ ?_ | refine gB ?_ ?_) <;> intro h)
                    | with_reducible first | refine And.intro ?_ ?_ | refine J_seq ?_ | refine J_block ?_ | refine J_inBlock ?_ | refine rC ?_ | refine rR ?_ | refine rE ?_ | refine rG ?_ | refine FinQ.now ?_ | refine FinQ.end ?_)))
                  all_goals
                    refine .mk (i + 1) hlt (by omega) ?_ ?_
                    · rw [hs]; simp [go_sem, encNet]
                    · simp
                | true =>
                  have hs : pB (SrcWay n E vn (i + 1)) = true := pB_true (hsucc.2 (.inr ⟨hk, haE, pB_iff.1 hwb⟩))
                  refine J_run 200 ?_
                  iterate 18 (all_goals (try (first
                    | (simp (maxSteps := 1000000) (disch := omega) only [go_sem, hdv, e5, e6])
                    | ((with_reducible refine CallA.pure cHa ?_ ?_); (· simp (disch := omega) only [go_sem, hdv, e5, e6]); rintro _ _ ⟨rfl, rfl⟩)
                    | ((with_reducible refine CallA.pure cW ?_ ?_); (· simp (disch := omega) only [go_sem, hdv, e5, e6]); rintro _ _ ⟨wl, rfl, rfl⟩)
                    | ((with_reducible first | refine gDt ?_ ?_ | refine gDf ?_ ?_ | refine gNt ?_ ?_ | refine gNf ?_ ?_ | refine cD ?_ ?_ | refine cN ?_ ?_ | refine cB ?_ ?_ | refine gB ?_ ?_) <;> intro h)
                    | with_reducible first | refine And.intro ?_ ?_ | refine J_seq ?_ | refine J_block ?_ | refine J_inBlock ?_ | refine rC ?_ | refine rR ?_ | refine rE ?_ | refine rG ?_ | refine FinQ.now ?_ | refine FinQ.end ?_)))
                  all_goals
                    refine .mk (i + 1) hlt (by omega) ?_ ?_
                    · rw [hs]; simp [go_sem, encNet]
                    · simp
            · have e6 : decide (n.devs[i].kind = 6) = false := decide_eq_false h6
              have hs := same fun h => h.1.elim h5 h6
              refine J_run 200 ?_
              iterate 14 (all_goals (try (first
                | (simp (maxSteps := 1000000) (disch := omega) only [go_sem, hdv, e5, e6])
                | ((with_reducible refine CallA.pure cHa ?_ ?_); (· simp (disch := omega) only [go_sem, hdv, e5, e6]); rintro _ _ ⟨rfl, rfl⟩)
                | ((with_reducible first | refine gDt ?_ ?_ | refine gDf ?_ ?_ | refine gNt ?_ ?_ | refine gNf ?_ ?_ | refine cD ?_ ?_ | refine cN ?_ ?_ | refine cB ?_ ?_ | refine gB ?_ ?_) <;> intro h)
                | with_reducible first | refine And.intro ?_ ?_ | refine J_seq ?_ | refine J_block ?_ | refine J_inBlock ?_ | refine rC ?_ | refine rR ?_ | refine rE ?_ | refine rG ?_ | refine FinQ.now ?_ | refine FinQ.end ?_)))
              all_goals
                refine .mk (i + 1) hlt (by omega) ?_ ?_
                · rw [hs]; simp [go_sem, encNet]
                · simp
        · have hie : i = n.devs.length := by omega
          subst hie
          obtain ⟨fr, hfr⟩ : ∃ b, pB (SrcWay n E vn n.devs.length) = b := ⟨_, rfl⟩
          rw [hfr] at hpw ⊢
          refine J_run 200 ?_
          iterate 8 (all_goals (try (first
            | (simp (maxSteps := 1000000) (disch := omega) only [go_sem])
            | ((with_reducible first | refine gDt ?_ ?_ | refine gDf ?_ ?_ | refine gNt ?_ ?_ | refine gNf ?_ ?_ | refine cD ?_ ?_ | refine cN ?_ ?_ | refine cB ?_ ?_ | refine gB ?_ ?_) <;> intro h)
            | with_reducible first | refine And.intro ?_ ?_ | refine J_seq ?_ | refine J_block ?_ | refine J_inBlock ?_ | refine rC ?_ | refine rR ?_ | refine rE ?_ | refine rG ?_ | refine FinQ.now ?_ | refine FinQ.end ?_)))
          refine J_for ([21, 22, 23, 24] ++ upto 136 151) (fun j : Nat => [(135, .raw (.int .i64 j)), (13, .raw (.bool (pB (MetWay n E vn j))))]) (fun _ => [.box (encDk d3), .box (encNet n)]) (fun j => j ≤ E.length) (fun j => E.length - j) 0 (by omega) (.le (by simp [go_sem, encNet, pB_false MetWay.zero]) (by simp)) ?_
          intro j hj
          simp only [encNet]
          by_cases hjl : j < E.length
          · have hg := getD_N hjl
            have hej := rising_mem hE (List.getElem_mem hjl)
            have cW := wayF n hno (bitsTo (anyB n) n.devs.length n.devs.length) bitsTo_len vn E[j].toNat (by omega) (by omega)
            rw [Int.toNat_of_nonneg hej.1] at cW
            have hms : pB (MetWay n E vn (j + 1)) = (pB (MetWay n E vn j) || wayB n (bitsTo (anyB n) n.devs.length n.devs.length) vn E[j].toNat) := by
              rw [Bool.eq_iff_iff, Bool.or_eq_true, pB_iff, pB_iff, wayB, pB_iff]
              exact MetWay.succ hjl
            unfold WayQ at cW
            obtain ⟨wb, hwb⟩ : ∃ b, wayB n (bitsTo (anyB n) n.devs.length n.devs.length) vn E[j].toNat = b := ⟨_, rfl⟩
            obtain ⟨mb, hmb⟩ : ∃ b, pB (MetWay n E vn j) = b := ⟨_, rfl⟩
            rw [hwb] at cW hms
            rw [hmb] at hms ⊢
            simp only [encNet] at cW
            cases mb
            all_goals
              refine J_run 200 ?_
              iterate 16 (all_goals (try (first
                | (simp (maxSteps := 1000000) (disch := omega) only [go_sem, hg])
                | ((with_reducible refine CallA.pure cW ?_ ?_); (· simp (disch := omega) only [go_sem, hg]); rintro _ _ ⟨wl, rfl, rfl⟩)
                | ((with_reducible first | refine gDt ?_ ?_ | refine gDf ?_ ?_ | refine gNt ?_ ?_ | refine gNf ?_ ?_ | refine cD ?_ ?_ | refine cN ?_ ?_ | refine cB ?_ ?_ | refine gB ?_ ?_) <;> intro h)
                | with_reducible first | refine And.intro ?_ ?_ | refine J_seq ?_ | refine J_block ?_ | refine J_inBlock ?_ | refine rC ?_ | refine rR ?_ | refine rE ?_ | refine rG ?_ | refine FinQ.now ?_ | refine FinQ.end ?_)))
              refine .mk (j + 1) hjl (by omega) ?_ ?_
              · rw [hms]; simp [go_sem, encNet]
              · simp
          · have hje : j = E.length := by omega
            subst hje
            obtain ⟨mb, hmb⟩ : ∃ b, pB (MetWay n E vn E.length) = b := ⟨_, rfl⟩
            rw [hmb] at hpw ⊢
            subst hpw
            cases mb <;> cases fr
            all_goals
              refine J_run 200 ?_
              iterate 14 (all_goals (try (first
                | (simp (maxSteps := 1000000) (disch := omega) only [go_sem, decide_true])
                | ((with_reducible refine CallA.pure ca ?_ ?_); (· simp (disch := omega) only [go_sem, decide_true]); rintro _ _ ⟨rfl, rfl⟩)
                | ((with_reducible first | refine gDt ?_ ?_ | refine gDf ?_ ?_ | refine gNt ?_ ?_ | refine gNf ?_ ?_ | refine cD ?_ ?_ | refine cN ?_ ?_ | refine cB ?_ ?_ | refine gB ?_ ?_) <;> intro h)
                | with_reducible first | refine And.intro ?_ ?_ | refine J_seq ?_ | refine J_block ?_ | refine J_inBlock ?_ | refine rC ?_ | refine rR ?_ | refine rE ?_ | refine rG ?_ | refine FinQ.now ?_ | refine FinQ.end ?_)))
    · skip
      refine J_for ([11, 12] ++ upto 64 93) (fun i : Nat => [(62, .raw (.int .i64 i))]) (fun i => [.box (encDk d3), .box (encNet n), .dead, .dead, .arr 1 ((bitsTo (anyB n) n.devs.length i).map encB), .arr 1 ((bitsTo (useB n E) n.devs.length i).map encB)]) (fun i => i ≤ n.devs.length) (fun i => n.devs.length - i) 0 (by omega) (.le (by simp [go_sem, encNet, bitsTo_zero]) (by simp)) ?_
      intro i hi
      simp only [encNet]
      have hul := bitsTo_len (p := useB n E) (N := n.devs.length) (k := i)
      have hal := bitsTo_len (p := anyB n) (N := n.devs.length) (k := i)
      by_cases hlt : i < n.devs.length
      · have hdv := getD_Dv hlt
        have cj := rJoins n.devs[i].kind
        have cHa := has E n.devs[i].a (by omega)
        have cHb := has E n.devs[i].b (by omega)
        have hu1 := bitsTo_next (p := useB n E) hlt
        have ha1 := bitsTo_next (p := anyB n) hlt
        have hse := set_encBb (out := bitsTo (anyB n) n.devs.length i) (k := i) (by omega) (anyB n i)
        have hsu := set_encBb (out := bitsTo (useB n E) n.devs.length i) (k := i) (by omega) (useB n E i)
        rw [← ha1] at hse
        rw [← hu1] at hsu
        have hgn := bitsTo_new (p := anyB n) hlt
        have eA : anyB n i = joinsK n.devs[i].kind := by unfold anyB; rw [getD_get hlt]
        have eU : useB n E i = (joinsK n.devs[i].kind && (!decide (n.devs[i].a ∈ E) && !decide (n.devs[i].b ∈ E))) := by unfold useB; rw [getD_get hlt]
        obtain ⟨jk, hjk⟩ : ∃ b, joinsK n.devs[i].kind = b := ⟨_, rfl⟩
        obtain ⟨b1, hb1⟩ : ∃ b, decide (n.devs[i].a ∈ E) = b := ⟨_, rfl⟩
        obtain ⟨b2, hb2⟩ : ∃ b, decide (n.devs[i].b ∈ E) = b := ⟨_, rfl⟩
        rw [hjk, hb1, hb2] at eU
        rw [hjk] at eA cj
        rw [hb1] at cHa
        rw [hb2] at cHb
        rw [eA] at hse hgn
        rw [eU] at hsu
        cases jk <;> cases b1 <;> cases b2
        all_goals
          simp only [Bool.and_true, Bool.and_false, Bool.true_and, Bool.false_and, Bool.not_true, Bool.not_false] at hsu
          refine J_run 200 ?_
          iterate 14 (all_goals (try (first
            | (simp (maxSteps := 1000000) (disch := omega) only [go_sem, hdv, hse, hgn])
            | ((with_reducible refine CallA.pure cj ?_ ?_); (· simp (disch := omega) only [go_sem, hdv, hse, hgn]); rintro _ _ ⟨rfl, rfl⟩)
            | ((with_reducible refine CallA.pure cHa ?_ ?_); (· simp (disch := omega) only [go_sem, hdv, hse, hgn]); rintro _ _ ⟨rfl, rfl⟩)
            | ((with_reducible refine CallA.pure cHb ?_ ?_); (· simp (disch := omega) only [go_sem, hdv, hse, hgn]); rintro _ _ ⟨rfl, rfl⟩)
            | ((with_reducible first | refine gDt ?_ ?_ | refine gDf ?_ ?_ | refine gNt ?_ ?_ | refine gNf ?_ ?_ | refine cD ?_ ?_ | refine cN ?_ ?_ | refine cB ?_ ?_ | refine gB ?_ ?_) <;> intro h)
            | with_reducible first | refine And.intro ?_ ?_ | refine J_seq ?_ | refine J_block ?_ | refine J_inBlock ?_ | refine rC ?_ | refine rR ?_ | refine rE ?_ | refine rG ?_ | refine FinQ.now ?_ | refine FinQ.end ?_)))
          refine .mk (i + 1) hlt (by omega) ?_ ?_
          · rw [← hsu]; simp [go_sem, encNet]
          · simp
      have hie : i = n.devs.length := by omega
      subst hie
      by_cases hvE : (vn : Int) ∈ E
      · rw [decide_eq_true hvE] at cHv
        have hgt : got = true := by rw [← hgot]; exact protB_own hno hvE
        subst hgt
        refine J_run 200 ?_
        iterate 20 (all_goals (try (first
          | (simp (maxSteps := 1000000) (disch := omega) only [go_sem, decide_true])
          | ((with_reducible refine CallA.pure cHv ?_ ?_); (· simp (disch := omega) only [go_sem, decide_true]); rintro _ _ ⟨rfl, rfl⟩)
          | ((with_reducible refine CallA.pure ca ?_ ?_); (· simp (disch := omega) only [go_sem, decide_true]); rintro _ _ ⟨rfl, rfl⟩)
          | ((with_reducible first | refine gDt ?_ ?_ | refine gDf ?_ ?_ | refine gNt ?_ ?_ | refine gNf ?_ ?_ | refine cD ?_ ?_ | refine cN ?_ ?_ | refine cB ?_ ?_ | refine gB ?_ ?_) <;> intro h)
          | with_reducible first | refine And.intro ?_ ?_ | refine J_seq ?_ | refine J_block ?_ | refine J_inBlock ?_ | refine rC ?_ | refine rR ?_ | refine rE ?_ | refine rG ?_ | refine FinQ.now ?_ | refine FinQ.end ?_)))
      · rw [decide_eq_false hvE] at cHv
        have hpw := prot_ways hno (fun x hx => (rising_mem hE hx).1) hvE
        rw [hgot] at hpw
        refine J_run 200 ?_
        iterate 10 (all_goals (try (first
          | (simp (maxSteps := 1000000) (disch := omega) only [go_sem])
          | ((with_reducible refine CallA.pure cHv ?_ ?_); (· simp (disch := omega) only [go_sem]); rintro _ _ ⟨rfl, rfl⟩)
          | ((with_reducible first | refine gDt ?_ ?_ | refine gDf ?_ ?_ | refine gNt ?_ ?_ | refine gNf ?_ ?_ | refine cD ?_ ?_ | refine cN ?_ ?_ | refine cB ?_ ?_ | refine gB ?_ ?_) <;> intro h)
          | with_reducible first | refine And.intro ?_ ?_ | refine J_seq ?_ | refine J_block ?_ | refine J_inBlock ?_ | refine rC ?_ | refine rR ?_ | refine rE ?_ | refine rG ?_ | refine FinQ.now ?_ | refine FinQ.end ?_)))
        refine J_frz [4, 5] ?_
        have htu : List.take n.devs.length ((bitsTo (useB n E) n.devs.length n.devs.length).map encB) = (bitsTo (useB n E) n.devs.length n.devs.length).map encB := List.take_of_length_le (by simp [bitsTo_len])
        have hta : List.take n.devs.length ((bitsTo (anyB n) n.devs.length n.devs.length).map encB) = (bitsTo (anyB n) n.devs.length n.devs.length).map encB := List.take_of_length_le (by simp [bitsTo_len])
        simp only [go_sem, htu, hta]
        refine J_for ([16, 17, 18, 19] ++ upto 104 131) (fun i : Nat => [(103, .raw (.int .i64 i)), (14, .raw (.bool (!pB (SrcWay n E vn i))))]) (fun _ => [.box (encDk d3), .box (encNet n)]) (fun i => i ≤ n.devs.length) (fun i => n.devs.length - i) 0 (by omega) (.le (by simp [go_sem, encNet, pB_false SrcWay.zero]) (by simp)) ?_
        intro i hi
        simp only [encNet]
        by_cases hlt : i < n.devs.length
        · have hdv := getD_Dv hlt
          have hok := hno.dev' hlt
          have ha0 := hok.a0; have hal2 := hok.al
          have cHa := has E n.devs[i].a (by omega)
          have cW := wayF n hno (bitsTo (useB n E) n.devs.length n.devs.length) bitsTo_len vn n.devs[i].a.toNat (by omega) (by omega)
          rw [Int.toNat_of_nonneg ha0] at cW
          simp only [encNet] at cW
          have hsucc := SrcWay.succ (n := n) (E := E) (v := vn) hlt
          have same : ¬ ((n.devs[i].kind = 5 ∨ n.devs[i].kind = 6) ∧ n.devs[i].a ∉ E ∧ From n (bitsTo (useB n E) n.devs.length n.devs.length) n.devs[i].a.toNat vn) → pB (SrcWay n E vn (i + 1)) = pB (SrcWay n E vn i) := fun h => pB_congr (hsucc.trans (or_iff_left h))
          obtain ⟨fr, hfr⟩ : ∃ b, pB (SrcWay n E vn i) = b := ⟨_, rfl⟩
          rw [hfr] at same ⊢
          by_cases h5 : n.devs[i].kind = 5
          · have e5 : decide (n.devs[i].kind = 5) = true := decide_eq_true h5
            have e6 := e5
            have hk : n.devs[i].kind = 5 ∨ n.devs[i].kind = 6 := .inl h5
            by_cases haE : n.devs[i].a ∈ E
            · rw [decide_eq_true haE] at cHa
              have hs := same fun h => h.2.1 haE
              refine J_run 200 ?_
              iterate 14 (all_goals (try (first
                | (simp (maxSteps := 1000000) (disch := omega) only [go_sem, hdv, e5, e6])
                | ((with_reducible refine CallA.pure cHa ?_ ?_); (· simp (disch := omega) only [go_sem, hdv, e5, e6]); rintro _ _ ⟨rfl, rfl⟩)
                | ((with_reducible first | refine gDt ?_ ?_ | refine gDf ?_ ?_ | refine gNt ?_ ?_ | refine gNf ?_ ?_ | refine cD ?_ ?_ | refine cN ?_ ?_ | refine cB ?_ ?_ | refine gB ?_ ?_) <;> intro h)
                | with_reducible first | refine And.intro ?_ ?_ | refine J_seq ?_ | refine J_block ?_ | refine J_inBlock ?_ | refine rC ?_ | refine rR ?_ | refine rE ?_ | refine rG ?_ | refine FinQ.now ?_ | refine FinQ.end ?_)))
              all_goals
                refine .mk (i + 1) hlt (by omega) ?_ ?_
                · rw [hs]; simp [go_sem, encNet]
                · simp
            · rw [decide_eq_false haE] at cHa
              obtain ⟨wb, hwb⟩ : ∃ b, wayB n (bitsTo (useB n E) n.devs.length n.devs.length) vn n.devs[i].a.toNat = b := ⟨_, rfl⟩
              unfold WayQ at cW
              rw [hwb] at cW
              cases wb with
              | false =>
                have hs := same fun h => by rw [wayB, pB_true h.2.2] at hwb; cases hwb
                refine J_run 200 ?_
                iterate 18 (all_goals (try (first
                  | (simp (maxSteps := 1000000) (disch := omega) only [go_sem, hdv, e5, e6])
                  | ((with_reducible refine CallA.pure cHa ?_ ?_); (· simp (disch := omega) only [go_sem, hdv, e5, e6]); rintro _ _ ⟨rfl, rfl⟩)
                  | ((with_reducible refine CallA.pure cW ?_ ?_); (· simp (disch := omega) only [go_sem, hdv, e5, e6]); rintro _ _ ⟨wl, rfl, rfl⟩)
                  | ((with_reducible first | refine gDt ?_ ?_ | refine gDf ?_ ?_ | refine gNt ?_ ?_ | refine gNf ?_ ?_ | refine cD ?_ ?_ | refine cN ?_ ?_ | refine cB ?_ ?_ | refine gB ?_ ?_) <;> intro h)
                  | with_reducible first | refine And.intro ?_ ?_ | refine J_seq ?_ | refine J_block ?_ | refine J_inBlock ?_ | refine rC ?_ | refine rR ?_ | refine rE ?_ | refine rG ?_ | refine FinQ.now ?_ | refine FinQ.end ?_)))
                all_goals
                  refine .mk (i + 1) hlt (by omega) ?_ ?_
                  · rw [hs]; simp [go_sem, encNet]
                  · simp
              | true =>
                have hs : pB (SrcWay n E vn (i + 1)) = true := pB_true (hsucc.2 (.inr ⟨hk, haE, pB_iff.1 hwb⟩))
                refine J_run 200 ?_
                iterate 18 (all_goals (try (first
                  | (simp (maxSteps := 1000000) (disch := omega) only [go_sem, hdv, e5, e6])
                  | ((with_reducible refine CallA.pure cHa ?_ ?_); (· simp (disch := omega) only [go_sem, hdv, e5, e6]); rintro _ _ ⟨rfl, rfl⟩)
                  | ((with_reducible refine CallA.pure cW ?_ ?_); (· simp (disch := omega) only [go_sem, hdv, e5, e6]); rintro _ _ ⟨wl, rfl, rfl⟩)
                  | ((with_reducible first | refine gDt ?_ ?_ | refine gDf ?_ ?_ | refine gNt ?_ ?_ | refine gNf ?_ ?_ | refine cD ?_ ?_ | refine cN ?_ ?_ | refine cB ?_ ?_ | refine gB ?_ ?_) <;> intro h)
                  | with_reducible first | refine And.intro ?_ ?_ | refine J_seq ?_ | refine J_block ?_ | refine J_inBlock ?_ | refine rC ?_ | refine rR ?_ | refine rE ?_ | refine rG ?_ | refine FinQ.now ?_ | refine FinQ.end ?_)))
                all_goals
                  refine .mk (i + 1) hlt (by omega) ?_ ?_
                  · rw [hs]; simp [go_sem, encNet]
                  · simp
          · have e5 : decide (n.devs[i].kind = 5) = false := decide_eq_false h5
            by_cases h6 : n.devs[i].kind = 6
            · have e6 : decide (n.devs[i].kind = 6) = true := decide_eq_true h6
              have hk : n.devs[i].kind = 5 ∨ n.devs[i].kind = 6 := .inr h6
              by_cases haE : n.devs[i].a ∈ E
              · rw [decide_eq_true haE] at cHa
                have hs := same fun h => h.2.1 haE
                refine J_run 200 ?_
                iterate 14 (all_goals (try (first
                  | (simp (maxSteps := 1000000) (disch := omega) only [go_sem, hdv, e5, e6])
                  | ((with_reducible refine CallA.pure cHa ?_ ?_); (· simp (disch := omega) only [go_sem, hdv, e5, e6]); rintro _ _ ⟨rfl, rfl⟩)
                  | ((with_reducible first | refine gDt ?_ ?_ | refine gDf ?_ ?_ | refine gNt ?_ ?_ | refine gNf ?_ ?_ | refine cD ?_ ?_ | refine cN ?_ ?_ | refine cB ?_ ?_ | refine gB ?_ ?_) <;> intro h)
                  | with_reducible first | refine And.intro ?_ ?_ | refine J_seq ?_ | refine J_block ?_ | refine J_inBlock ?_ | refine rC ?_ | refine rR ?_ | refine rE ?_ | refine rG ?_ | refine FinQ.now ?_ | refine FinQ.end ?_)))
                all_goals
                  refine .mk (i + 1) hlt (by omega) ?_ ?_
                  · rw [hs]; simp [go_sem, encNet]
                  · simp
              · rw [decide_eq_false haE] at cHa
                obtain ⟨wb, hwb⟩ : ∃ b, wayB n (bitsTo (useB n E) n.devs.length n.devs.length) vn n.devs[i].a.toNat = b := ⟨_, rfl⟩
                unfold WayQ at cW
                rw [hwb] at cW
                cases wb with
                | false =>
                  have hs := same fun h => by rw [wayB, pB_true h.2.2] at hwb; cases hwb
                  refine J_run 200 ?_
                  iterate 18 (all_goals (try (first
                    | (simp (maxSteps := 1000000) (disch := omega) only [go_sem, hdv, e5, e6])
                    | ((with_reducible refine CallA.pure cHa ?_ ?_); (· simp (disch := omega) only [go_sem, hdv, e5, e6]); rintro _ _ ⟨rfl, rfl⟩)
                    | ((with_reducible refine CallA.pure cW ?_ ?_); (· simp (disch := omega) only [go_sem, hdv, e5, e6]); rintro _ _ ⟨wl, rfl, rfl⟩)
                    | ((with_reducible first | refine gDt ?_ ?_ | refine gDf ?_ ?_ | refine gNt ?_ ?_ | refine gNf ?_ ?_ | refine cD ?_ ?_ | refine cN ?_ ?_ | refine cB ?_ ?_ | refine gB ?_ ?_) <;> intro h)
                    | with_reducible first | refine And.intro ?_ ?_ | refine J_seq ?_ | refine J_block ?_ | refine J_inBlock ?_ | refine rC ?_ | refine rR ?_ | refine rE ?_ | refine rG ?_ | refine FinQ.now ?_ | refine FinQ.end ?_)))
                  all_goals
                    refine .mk (i + 1) hlt (by omega) ?_ ?_
                    · rw [hs]; simp [go_sem, encNet]
                    · simp
                | true =>
                  have hs : pB (SrcWay n E vn (i + 1)) = true := pB_true (hsucc.2 (.inr ⟨hk, haE, pB_iff.1 hwb⟩))
                  refine J_run 200 ?_
                  iterate 18 (all_goals (try (first
                    | (simp (maxSteps := 1000000) (disch := omega) only [go_sem, hdv, e5, e6])
                    | ((with_reducible refine CallA.pure cHa ?_ ?_); (· simp (disch := omega) only [go_sem, hdv, e5, e6]); rintro _ _ ⟨rfl, rfl⟩)
                    | ((with_reducible refine CallA.pure cW ?_ ?_); (· simp (disch := omega) only [go_sem, hdv, e5, e6]); rintro _ _ ⟨wl, rfl, rfl⟩)
                    | ((with_reducible first | refine gDt ?_ ?_ | refine gDf ?_ ?_ | refine gNt ?_ ?_ | refine gNf ?_ ?_ | refine cD ?_ ?_ | refine cN ?_ ?_ | refine cB ?_ ?_ | refine gB ?_ ?_) <;> intro h)
                    | with_reducible first | refine And.intro ?_ ?_ | refine J_seq ?_ | refine J_block ?_ | refine J_inBlock ?_ | refine rC ?_ | refine rR ?_ | refine rE ?_ | refine rG ?_ | refine FinQ.now ?_ | refine FinQ.end ?_)))
                  all_goals
                    refine .mk (i + 1) hlt (by omega) ?_ ?_
                    · rw [hs]; simp [go_sem, encNet]
                    · simp
            · have e6 : decide (n.devs[i].kind = 6) = false := decide_eq_false h6
              have hs := same fun h => h.1.elim h5 h6
              refine J_run 200 ?_
              iterate 14 (all_goals (try (first
                | (simp (maxSteps := 1000000) (disch := omega) only [go_sem, hdv, e5, e6])
                | ((with_reducible refine CallA.pure cHa ?_ ?_); (· simp (disch := omega) only [go_sem, hdv, e5, e6]); rintro _ _ ⟨rfl, rfl⟩)
                | ((with_reducible first | refine gDt ?_ ?_ | refine gDf ?_ ?_ | refine gNt ?_ ?_ | refine gNf ?_ ?_ | refine cD ?_ ?_ | refine cN ?_ ?_ | refine cB ?_ ?_ | refine gB ?_ ?_) <;> intro h)
                | with_reducible first | refine And.intro ?_ ?_ | refine J_seq ?_ | refine J_block ?_ | refine J_inBlock ?_ | refine rC ?_ | refine rR ?_ | refine rE ?_ | refine rG ?_ | refine FinQ.now ?_ | refine FinQ.end ?_)))
              all_goals
                refine .mk (i + 1) hlt (by omega) ?_ ?_
                · rw [hs]; simp [go_sem, encNet]
                · simp
        · have hie : i = n.devs.length := by omega
          subst hie
          obtain ⟨fr, hfr⟩ : ∃ b, pB (SrcWay n E vn n.devs.length) = b := ⟨_, rfl⟩
          rw [hfr] at hpw ⊢
          refine J_run 200 ?_
          iterate 8 (all_goals (try (first
            | (simp (maxSteps := 1000000) (disch := omega) only [go_sem])
            | ((with_reducible first | refine gDt ?_ ?_ | refine gDf ?_ ?_ | refine gNt ?_ ?_ | refine gNf ?_ ?_ | refine cD ?_ ?_ | refine cN ?_ ?_ | refine cB ?_ ?_ | refine gB ?_ ?_) <;> intro h)
            | with_reducible first | refine And.intro ?_ ?_ | refine J_seq ?_ | refine J_block ?_ | refine J_inBlock ?_ | refine rC ?_ | refine rR ?_ | refine rE ?_ | refine rG ?_ | refine FinQ.now ?_ | refine FinQ.end ?_)))
          refine J_for ([21, 22, 23, 24] ++ upto 136 151) (fun j : Nat => [(135, .raw (.int .i64 j)), (13, .raw (.bool (pB (MetWay n E vn j))))]) (fun _ => [.box (encDk d3), .box (encNet n)]) (fun j => j ≤ E.length) (fun j => E.length - j) 0 (by omega) (.le (by simp [go_sem, encNet, pB_false MetWay.zero]) (by simp)) ?_
          intro j hj
          simp only [encNet]
          by_cases hjl : j < E.length
          · have hg := getD_N hjl
            have hej := rising_mem hE (List.getElem_mem hjl)
            have cW := wayF n hno (bitsTo (anyB n) n.devs.length n.devs.length) bitsTo_len vn E[j].toNat (by omega) (by omega)
            rw [Int.toNat_of_nonneg hej.1] at cW
            have hms : pB (MetWay n E vn (j + 1)) = (pB (MetWay n E vn j) || wayB n (bitsTo (anyB n) n.devs.length n.devs.length) vn E[j].toNat) := by
              rw [Bool.eq_iff_iff, Bool.or_eq_true, pB_iff, pB_iff, wayB, pB_iff]
              exact MetWay.succ hjl
            unfold WayQ at cW
            obtain ⟨wb, hwb⟩ : ∃ b, wayB n (bitsTo (anyB n) n.devs.length n.devs.length) vn E[j].toNat = b := ⟨_, rfl⟩
            obtain ⟨mb, hmb⟩ : ∃ b, pB (MetWay n E vn j) = b := ⟨_, rfl⟩
            rw [hwb] at cW hms
            rw [hmb] at hms ⊢
            simp only [encNet] at cW
            cases mb
            all_goals
              refine J_run 200 ?_
              iterate 16 (all_goals (try (first
                | (simp (maxSteps := 1000000) (disch := omega) only [go_sem, hg])
                | ((with_reducible refine CallA.pure cW ?_ ?_); (· simp (disch := omega) only [go_sem, hg]); rintro _ _ ⟨wl, rfl, rfl⟩)
                | ((with_reducible first | refine gDt ?_ ?_ | refine gDf ?_ ?_ | refine gNt ?_ ?_ | refine gNf ?_ ?_ | refine cD ?_ ?_ | refine cN ?_ ?_ | refine cB ?_ ?_ | refine gB ?_ ?_) <;> intro h)
                | with_reducible first | refine And.intro ?_ ?_ | refine J_seq ?_ | refine J_block ?_ | refine J_inBlock ?_ | refine rC ?_ | refine rR ?_ | refine rE ?_ | refine rG ?_ | refine FinQ.now ?_ | refine FinQ.end ?_)))
              refine .mk (j + 1) hjl (by omega) ?_ ?_
              · rw [hms]; simp [go_sem, encNet]
              · simp
          · have hje : j = E.length := by omega
            subst hje
            obtain ⟨mb, hmb⟩ : ∃ b, pB (MetWay n E vn E.length) = b := ⟨_, rfl⟩
            rw [hmb] at hpw ⊢
            subst hpw
            cases mb <;> cases fr
            all_goals
              refine J_run 200 ?_
              iterate 14 (all_goals (try (first
                | (simp (maxSteps := 1000000) (disch := omega) only [go_sem, decide_true])
                | ((with_reducible refine CallA.pure ca ?_ ?_); (· simp (disch := omega) only [go_sem, decide_true]); rintro _ _ ⟨rfl, rfl⟩)
                | ((with_reducible first | refine gDt ?_ ?_ | refine gDf ?_ ?_ | refine gNt ?_ ?_ | refine gNf ?_ ?_ | refine cD ?_ ?_ | refine cN ?_ ?_ | refine cB ?_ ?_ | refine gB ?_ ?_) <;> intro h)
                | with_reducible first | refine And.intro ?_ ?_ | refine J_seq ?_ | refine J_block ?_ | refine J_inBlock ?_ | refine rC ?_ | refine rR ?_ | refine rE ?_ | refine rG ?_ | refine FinQ.now ?_ | refine FinQ.end ?_)))
  · rw [decide_eq_false h400] at cf
    refine holds_of Tryd.func6 rfl rfl ?_
    refine J_run 200 ?_
    delta Tryd.f6
    repeat' (first
      | (simp (maxSteps := 1000000) (disch := omega) only [go_sem])
      | ((with_reducible refine CallA.pure ca ?_ ?_); (· simp (disch := omega) only [go_sem]); rintro _ _ ⟨rfl, rfl⟩)
      | ((with_reducible refine CallA.pure cf ?_ ?_); (· simp (disch := omega) only [go_sem]); rintro _ _ ⟨rfl, rfl⟩)
      | ((with_reducible first | refine gDt ?_ ?_ | refine gDf ?_ ?_ | refine gNt ?_ ?_ | refine gNf ?_ ?_ | refine cD ?_ ?_ | refine cN ?_ ?_ | refine cB ?_ ?_ | refine gB ?_ ?_) <;> intro h)
      | with_reducible first | refine And.intro ?_ ?_ | refine J_seq ?_ | refine J_block ?_ | refine J_inBlock ?_ | refine rC ?_ | refine rR ?_ | refine rE ?_ | refine rG ?_ | refine FinQ.now ?_ | refine FinQ.end ?_)
theorem earthingWays_av (x : (Sh.slice (.int .i64)).Den) (o : (Sh.slice (.int .i64)).Ok x) : Fn1 Tryd.prog GT0 6 [(Sh.slice (.int .i64)).av x] (.raw (.bool true)) [] := earthingWays x (nums_ok o)
end Go.Proofs.YthgcmeniecaemaaDoor.Abs
