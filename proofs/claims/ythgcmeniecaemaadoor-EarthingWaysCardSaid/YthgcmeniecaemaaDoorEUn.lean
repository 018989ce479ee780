/- EarthingUnion, walked: it returns true. -/
import Derived.Test.YthgcmeniecaemaaDoorEE
import Derived.Test.YthgcmeniecaemaaDoorZMore
import Derived.Test.YthgcmeniecaemaaDoorAbsS
namespace Go.Proofs.YthgcmeniecaemaaDoor.Abs
set_option linter.unusedSimpArgs false
set_option linter.unusedVariables false
set_option maxRecDepth 100000
open Go Go.RowKit

noncomputable def eachTo (n : Net) (E z : List Int) (i : Nat) : Bool := (z.take i).all fun v => protB n E v.toNat
theorem eachTo_next {n : Net} {E z : List Int} {i : Nat} (hi : i < z.length) : eachTo n E z (i + 1) = (eachTo n E z i && protB n E z[i].toNat) := by
  unfold eachTo
  rw [List.take_succ_eq_append_getElem hi, List.all_append]
  simp
theorem missL_each' {n : Net} {E z : List Int} : decide (missL n z E = []) = eachTo n E z z.length := by
  rw [eachTo, List.take_length, Bool.eq_iff_iff, decide_eq_true_eq, List.all_eq_true, missL_nil]
  exact forall_congr' fun v => imp_congr_right fun _ => pB_iff.symm
theorem earthE_ok {n : Net} {z E : List Int} (hz : zoneChk n z = 0) (hE : rising E n.nodes.length = true) : earthE n z E = (decide (missL n z E = []), 0) := by
  unfold earthE
  rw [if_neg (by simp [hz]), if_neg (by simp [hE])]
theorem earthE_one {n : Net} (hn : n.ok) {v : Int} (hv : 0 ≤ v ∧ v < n.nodes.length) {E : List Int} (hE : rising E n.nodes.length = true) : earthE n [v] E = (protB n E v.toNat, 0) := by
  have hr : rising [v] n.nodes.length = true := by simp [rising, risingFrom]; omega
  rw [earthE_ok (zoneChk_ok hn (by simp) hr) hE, missL_each']
  simp [eachTo]
set_option maxHeartbeats 8000000 in
theorem earthingUnion (l : List Int) (hl : NumsOk l) : Fn1 Tryd.prog GT0 7 [.lst 1 (l.map encN)] (.raw (.bool true)) [] := by
  have ca := awake16
  have cf := few l hl.len
  by_cases h400 : l.length ≤ 400
  · have cn := newDeck l
    rw [decide_eq_true h400] at cf
    have cw := networkD _ hl.deck 7 12 (by omega) (by omega)
    refine holds_of Tryd.func7 rfl rfl ?_
    refine J_run 200 ?_
    delta Tryd.f7
    iterate 6 (all_goals (try (first
      | (simp (maxSteps := 1000000) (disch := omega) only [go_sem])
      | ((with_reducible refine CallA.pure cf ?_ ?_); (· simp (disch := omega) only [go_sem]); rintro _ _ ⟨rfl, rfl⟩)
      | ((with_reducible refine CallA.pure cn ?_ ?_); (· simp (disch := omega) only [go_sem]); rintro _ _ ⟨rfl, rfl⟩)
      | ((with_reducible first | refine gDt ?_ ?_ | refine gDf ?_ ?_ | refine gNt ?_ ?_ | refine gNf ?_ ?_ | refine cD ?_ ?_ | refine cN ?_ ?_ | refine cB ?_ ?_ | refine gB ?_ ?_) <;> intro h)
      | with_reducible first | refine And.intro ?_ ?_ | refine J_seq ?_ | refine J_block ?_ | refine J_inBlock ?_ | refine rC ?_ | refine rR ?_ | refine rE ?_ | refine rG ?_ | refine FinQ.now ?_ | refine FinQ.end ?_)))
    refine CallA.mut [0] ?_ ?_ ?_ ?_ cw ?_
    · simp only [go_sem]
    · simp only [go_sem]
    · simp only [go_sem]
    · simp only [go_sem]
    rintro _ _ ⟨n, k, d1, hd1, hM, hk2, hk7, hdl, hd1', rfl, rfl⟩
    have hnl := hM.nl
    have hno := hM.ok (by omega) (by omega)
    have cz := zoneD d1 hd1 n (by omega) (by omega)
    have cs := fun (d : Dk) (hd : d.ok) => setD d hd n.nodes.length 3 (by omega)
    simp only [encNet] at cz ⊢
    iterate 12 (all_goals (try (first
      | (simp (maxSteps := 1000000) (disch := omega) only [go_sem])
      | ((with_reducible refine CallA.mut [0] ?_ ?_ ?_ ?_ cz ?_); (· simp (disch := omega) only [go_sem]); (· simp (disch := omega) only [go_sem]); (· simp (disch := omega) only [go_sem]); (· simp (disch := omega) only [go_sem]); rintro _ _ ⟨z, d2, hd2, hz0, hz, rfl, rfl⟩)
      | ((with_reducible refine CallA.mut [0] ?_ ?_ ?_ ?_ (cs _ hd2) ?_); (· simp (disch := omega) only [go_sem]); (· simp (disch := omega) only [go_sem]); (· simp (disch := omega) only [go_sem]); (· simp (disch := omega) only [go_sem]); rintro _ _ ⟨E, d3, hd3, hE, rfl, rfl⟩)
      | ((with_reducible first | refine gDt ?_ ?_ | refine gDf ?_ ?_ | refine gNt ?_ ?_ | refine gNf ?_ ?_ | refine cD ?_ ?_ | refine cN ?_ ?_ | refine cB ?_ ?_ | refine gB ?_ ?_) <;> intro h)
      | with_reducible first | refine And.intro ?_ ?_ | refine J_seq ?_ | refine J_block ?_ | refine J_inBlock ?_ | refine rC ?_ | refine rR ?_ | refine rE ?_ | refine rG ?_ | refine FinQ.now ?_ | refine FinQ.end ?_)))
    rw [if_neg (by omega)] at hE
    have hzl := rising_len (by omega) hz
    have hEl := rising_len (by omega) hE
    have zz : zoneChk n z = 0 := zoneChk_ok hno hz0 hz
    have c1 := EarthF n hno.sized z E (by omega) (by omega)
    rw [earthE_ok zz hE, missL_each'] at c1
    have cv := fun (v : Int) (hv : 0 ≤ v ∧ v < n.nodes.length) => EarthF n hno.sized [v] E (by simp) (by omega)
    have cy := EarthF chainNet chainNet_ok.sized [1, 2, 3] [1] (by simp) (by simp)
    have cn2 := EarthF chainNet chainNet_ok.sized [0] [1] (by simp) (by simp)
    rw [chain_yes] at cy
    rw [chain_no] at cn2
    simp only [encNet, chainNet, List.map_cons, List.map_nil, encNd, encDv, encN] at cy cn2
    simp only [encNet, List.map_cons, List.map_nil] at c1 cv
    iterate 12 (all_goals (try (first
      | (simp (maxSteps := 1000000) (disch := omega) only [go_sem, take_lm])
      | ((with_reducible refine CallA.give [2] ?_ ?_ c1 ?_); (· simp (disch := omega) only [go_sem, take_lm]); (· simp (disch := omega) only [go_sem, take_lm]); rintro _ _ ⟨rfl, rfl⟩)
      | ((with_reducible first | refine gDt ?_ ?_ | refine gDf ?_ ?_ | refine gNt ?_ ?_ | refine gNf ?_ ?_ | refine cD ?_ ?_ | refine cN ?_ ?_ | refine cB ?_ ?_ | refine gB ?_ ?_) <;> intro h)
      | with_reducible first | refine And.intro ?_ ?_ | refine J_seq ?_ | refine J_block ?_ | refine J_inBlock ?_ | refine rC ?_ | refine rR ?_ | refine rE ?_ | refine rG ?_ | refine FinQ.now ?_ | refine FinQ.end ?_)))
    refine J_for ([11, 12, 13] ++ upto 45 62) (fun i : Nat => [(44, .raw (.int .i64 i)), (9, .raw (.bool (eachTo n E z i)))]) (fun _ => [.box (encDk d3), .box (encNet n)]) (fun i => i ≤ z.length) (fun i => z.length - i) 0 (by omega) (.le (by simp [go_sem, encNet, eachTo]) (by simp)) ?_
    intro i hi
    simp only [encNet]
    by_cases hlt : i < z.length
    · have hg := getD_N hlt
      have hzm := rising_mem hz (List.getElem_mem hlt)
      have cp := cv z[i] hzm
      rw [earthE_one hno hzm hE] at cp
      have hnx := eachTo_next (n := n) (E := E) hlt
      obtain ⟨a, ha⟩ : ∃ b, eachTo n E z i = b := ⟨_, rfl⟩
      obtain ⟨b, hb⟩ : ∃ b, protB n E z[i].toNat = b := ⟨_, rfl⟩
      rw [ha, hb] at hnx
      rw [hb] at cp
      rw [ha]
      simp only [encN] at cp
      cases a
      all_goals
        refine J_run 200 ?_
        iterate 20 (all_goals (try (first
          | (simp (maxSteps := 1000000) (disch := omega) only [go_sem, hg, List.take_succ_cons, List.take_zero])
          | ((with_reducible refine CallA.give [2] ?_ ?_ cp ?_); (· simp (disch := omega) only [go_sem, hg, List.take_succ_cons, List.take_zero]); (· simp (disch := omega) only [go_sem, hg, List.take_succ_cons, List.take_zero]); rintro _ _ ⟨rfl, rfl⟩)
          | ((with_reducible first | refine gDt ?_ ?_ | refine gDf ?_ ?_ | refine gNt ?_ ?_ | refine gNf ?_ ?_ | refine cD ?_ ?_ | refine cN ?_ ?_ | refine cB ?_ ?_ | refine gB ?_ ?_) <;> intro h)
          | with_reducible first | refine And.intro ?_ ?_ | refine J_seq ?_ | refine J_block ?_ | refine J_inBlock ?_ | refine rC ?_ | refine rR ?_ | refine rE ?_ | refine rG ?_ | refine FinQ.now ?_ | refine FinQ.end ?_)))
        refine .mk (i + 1) hlt (by omega) ?_ ?_
        · rw [hnx]; simp [go_sem, encNet]
        · simp
    have hie : i = z.length := by omega
    subst hie
    obtain ⟨a, ha⟩ : ∃ b, eachTo n E z z.length = b := ⟨_, rfl⟩
    rw [ha]
    cases a
    all_goals
      refine J_run 200 ?_
      iterate 30 (all_goals (try (first
        | (simp (maxSteps := 1000000) (disch := omega) only [go_sem, List.take_succ_cons, List.take_zero])
        | ((with_reducible refine CallA.give [2,3,5,6] ?_ ?_ cy ?_); (· simp (disch := omega) only [go_sem, List.take_succ_cons, List.take_zero]); (· simp (disch := omega) only [go_sem, List.take_succ_cons, List.take_zero]); rintro _ _ ⟨rfl, rfl⟩)
        | ((with_reducible refine CallA.give [7,8] ?_ ?_ cn2 ?_); (· simp (disch := omega) only [go_sem, List.take_succ_cons, List.take_zero]); (· simp (disch := omega) only [go_sem, List.take_succ_cons, List.take_zero]); rintro _ _ ⟨rfl, rfl⟩)
        | ((with_reducible refine CallA.pure ca ?_ ?_); (· simp (disch := omega) only [go_sem, List.take_succ_cons, List.take_zero]); rintro _ _ ⟨rfl, rfl⟩)
        | ((with_reducible first | refine gDt ?_ ?_ | refine gDf ?_ ?_ | refine gNt ?_ ?_ | refine gNf ?_ ?_ | refine cD ?_ ?_ | refine cN ?_ ?_ | refine cB ?_ ?_ | refine gB ?_ ?_) <;> intro h)
        | with_reducible first | refine And.intro ?_ ?_ | refine J_seq ?_ | refine J_block ?_ | refine J_inBlock ?_ | refine rC ?_ | refine rR ?_ | refine rE ?_ | refine rG ?_ | refine FinQ.now ?_ | refine FinQ.end ?_)))
  · rw [decide_eq_false h400] at cf
    refine holds_of Tryd.func7 rfl rfl ?_
    refine J_run 200 ?_
    delta Tryd.f7
    repeat' (first
      | (simp (maxSteps := 1000000) (disch := omega) only [go_sem])
      | ((with_reducible refine CallA.pure ca ?_ ?_); (· simp (disch := omega) only [go_sem]); rintro _ _ ⟨rfl, rfl⟩)
      | ((with_reducible refine CallA.pure cf ?_ ?_); (· simp (disch := omega) only [go_sem]); rintro _ _ ⟨rfl, rfl⟩)
      | ((with_reducible first | refine gDt ?_ ?_ | refine gDf ?_ ?_ | refine gNt ?_ ?_ | refine gNf ?_ ?_ | refine cD ?_ ?_ | refine cN ?_ ?_ | refine cB ?_ ?_ | refine gB ?_ ?_) <;> intro h)
      | with_reducible first | refine And.intro ?_ ?_ | refine J_seq ?_ | refine J_block ?_ | refine J_inBlock ?_ | refine rC ?_ | refine rR ?_ | refine rE ?_ | refine rG ?_ | refine FinQ.now ?_ | refine FinQ.end ?_)
theorem earthingUnion_av (x : (Sh.slice (.int .i64)).Den) (o : (Sh.slice (.int .i64)).Ok x) : Fn1 Tryd.prog GT0 7 [(Sh.slice (.int .i64)).av x] (.raw (.bool true)) [] := earthingUnion x (nums_ok o)
end Go.Proofs.YthgcmeniecaemaaDoor.Abs
