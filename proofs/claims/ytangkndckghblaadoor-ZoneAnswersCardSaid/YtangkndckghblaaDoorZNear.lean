/- ZoneNearest, walked: it returns true. -/
import Derived.Test.YtangkndckghblaaDoorZ4
import Derived.Test.YtangkndckghblaaDoorZ3
import Derived.Test.YtangkndckghblaaDoorZ2
import Derived.Test.YtangkndckghblaaDoorT3
namespace Go.Proofs.YtangkndckghblaaDoor.Abs
set_option linter.unusedSimpArgs false
set_option linter.unusedVariables false
set_option maxRecDepth 100000
open Go Go.RowKit

/-- Lists of numbers that come in. -/
structure NumsOk (l : List Int) : Prop where
  len : l.length ≤ 9223372036854775807
  ls : ∀ x, x ∈ l → inI x
theorem NumsOk.deck {l : List Int} (h : NumsOk l) : Dk.ok ⟨l, 0, 88172645463325252⟩ := ⟨h.len, by simp, by simp, by simp, by simp, h.ls⟩
theorem cuts_len {n : Net} : (cuts n).length ≤ n.devs.length := cutsTo_len
theorem near_len {n : Net} {z : List Int} : (nearestR n z).1.length ≤ n.devs.length := by
  unfold nearestR
  split
  · simp
  · split
    · simp
    · exact Nat.le_trans (List.length_filter_le _ _) cuts_len
theorem reg_len {n : Net} {z g : List Int} : (regL n z g).length ≤ n.nodes.length := by
  unfold regL trues
  rw [List.length_map]
  refine Nat.le_trans (List.length_filter_le _ _) ?_
  simp [regB_len]
set_option maxHeartbeats 4000000 in
theorem zoneNearest (l : List Int) (hl : NumsOk l) : Fn1 Tryd.prog GT0 3 [.lst 1 (l.map encN)] (.raw (.bool true)) [] := by
  have ca := awake15
  have cf := few l hl.len
  by_cases h400 : l.length ≤ 400
  · have cn := newDeck l
    rw [decide_eq_true h400] at cf
    have cw := networkD _ hl.deck 7 12 (by omega) (by omega)
    refine holds_of Tryd.func3 rfl rfl ?_
    refine J_run 200 ?_
    delta Tryd.f3
    iterate 6 (all_goals (try (first
      | (simp (maxSteps := 1000000) (disch := omega) only [go_sem])
      | ((with_reducible refine CallA.pure cf ?_ ?_); (· simp (disch := omega) only [go_sem]); rintro _ _ ⟨rfl, rfl⟩)
      | ((with_reducible refine CallA.pure cn ?_ ?_); (· simp (disch := omega) only [go_sem]); rintro _ _ ⟨rfl, rfl⟩)
      | ((with_reducible first | refine gDt ?_ ?_ | refine gDf ?_ ?_ | refine gNt ?_ ?_ | refine gNf ?_ ?_ | refine cD ?_ ?_ | refine cN ?_ ?_ | refine cB ?_ ?_ | refine gB ?_ ?_) <;> intro h)
      | with_reducible first | refine And.intro ?_ ?_ | refine J_seq ?_ | refine J_block ?_ | refine J_inBlock ?_ | refine rC ?_ | refine rR ?_ | refine rE ?_ | refine rG ?_ | refine FinQ.now ?_ | refine FinQ.end ?_)))
    refine CallA.mut [0] ?_ ?_ ?_ ?_ cw ?_
    · simp only [go_sem]
    · simp only [go_sem]
    · simp only [go_sem]
    · simp only [go_sem]
    rintro _ _ ⟨n, k, d1, hd1, hM, hk2, hk7, hdl, hd1', rfl, rfl⟩
    have hnl := hM.nl
    have hno := hM.ok (by omega) (by omega)
    have cz := zoneD d1 hd1 n (by omega) (by omega)
    simp only [encNet] at cz ⊢
    iterate 3 (all_goals (try (first
      | (simp (maxSteps := 1000000) (disch := omega) only [go_sem])
      | ((with_reducible first | refine gDt ?_ ?_ | refine gDf ?_ ?_ | refine gNt ?_ ?_ | refine gNf ?_ ?_ | refine cD ?_ ?_ | refine cN ?_ ?_ | refine cB ?_ ?_ | refine gB ?_ ?_) <;> intro h)
      | with_reducible first | refine And.intro ?_ ?_ | refine J_seq ?_ | refine J_block ?_ | refine J_inBlock ?_ | refine rC ?_ | refine rR ?_ | refine rE ?_ | refine rG ?_ | refine FinQ.now ?_ | refine FinQ.end ?_)))
    refine CallA.mut [0] ?_ ?_ ?_ ?_ cz ?_
    · simp only [go_sem]
    · simp only [go_sem]
    · simp only [go_sem]
    · simp only [go_sem]
    rintro _ _ ⟨z, d2, hd2, hz0, hz, rfl, rfl⟩
    have hzl := rising_len (by omega) hz
    iterate 8 (all_goals (try (first
      | (simp (maxSteps := 1000000) (disch := omega) only [go_sem])
      | ((with_reducible first | refine gDt ?_ ?_ | refine gDf ?_ ?_ | refine gNt ?_ ?_ | refine gNf ?_ ?_ | refine cD ?_ ?_ | refine cN ?_ ?_ | refine cB ?_ ?_ | refine gB ?_ ?_) <;> intro h)
      | with_reducible first | refine And.intro ?_ ?_ | refine J_seq ?_ | refine J_block ?_ | refine J_inBlock ?_ | refine rC ?_ | refine rR ?_ | refine rE ?_ | refine rG ?_ | refine FinQ.now ?_ | refine FinQ.end ?_)))
    refine J_nilName 6 1 (by simp only [go_sem]) ?_
    simp only [go_sem]
    refine J_for ([7, 8] ++ upto 34 50) (fun i : Nat => [(33, .raw (.int .i64 i)), (6, .own 2 1 0 (cutsTo n i).length)]) (fun i => [.box (encDk d2), .box [.lst 3 (n.nodes.map encNd), .lst 5 (n.devs.map encDv)], .arr 1 ((cutsTo n i).map encN)]) (fun i => i ≤ n.devs.length) (fun i => n.devs.length - i) 0 (by omega) (.le (by simp [go_sem, cutsTo]) (by simp)) ?_
    intro i hi
    have htl := cutsTo_len (n := n) (i := i)
    by_cases hlt : i < n.devs.length
    · have hdv := getD_DvL hlt
      have ht := cutsTo_next (n := n) (i := i)
      have hic : isCut n i = decide (n.devs[i].kind = 3 ∨ n.devs[i].kind = 6) := by unfold isCut; rw [getD_get hlt]
      by_cases h3 : n.devs[i].kind = 3
      · rw [hic, decide_eq_true (.inl h3), if_pos rfl] at ht
        rw [h3] at hdv
        refine J_run 200 ?_
        iterate 14 (all_goals (try (first
          | (simp (maxSteps := 1000000) (disch := omega) only [go_sem, hdv])
          | ((with_reducible first | refine gDt ?_ ?_ | refine gDf ?_ ?_ | refine gNt ?_ ?_ | refine gNf ?_ ?_ | refine cD ?_ ?_ | refine cN ?_ ?_ | refine cB ?_ ?_ | refine gB ?_ ?_) <;> intro h)
          | with_reducible first | refine And.intro ?_ ?_ | refine J_seq ?_ | refine J_block ?_ | refine J_inBlock ?_ | refine rC ?_ | refine rR ?_ | refine rE ?_ | refine rG ?_ | refine FinQ.now ?_ | refine FinQ.end ?_)))
        refine .mk (i + 1) hlt (by omega) ?_ ?_
        · rw [ht]; simp [go_sem, encN]
        · simp
      by_cases h6 : n.devs[i].kind = 6
      · rw [hic, decide_eq_true (.inr h6), if_pos rfl] at ht
        rw [h6] at hdv
        refine J_run 200 ?_
        iterate 14 (all_goals (try (first
          | (simp (maxSteps := 1000000) (disch := omega) only [go_sem, hdv])
          | ((with_reducible first | refine gDt ?_ ?_ | refine gDf ?_ ?_ | refine gNt ?_ ?_ | refine gNf ?_ ?_ | refine cD ?_ ?_ | refine cN ?_ ?_ | refine cB ?_ ?_ | refine gB ?_ ?_) <;> intro h)
          | with_reducible first | refine And.intro ?_ ?_ | refine J_seq ?_ | refine J_block ?_ | refine J_inBlock ?_ | refine rC ?_ | refine rR ?_ | refine rE ?_ | refine rG ?_ | refine FinQ.now ?_ | refine FinQ.end ?_)))
        refine .mk (i + 1) hlt (by omega) ?_ ?_
        · rw [ht]; simp [go_sem, encN]
        · simp
      rw [hic, decide_eq_false (by omega), if_neg (by simp), List.append_nil] at ht
      refine J_run 200 ?_
      iterate 14 (all_goals (try (first
        | (simp (maxSteps := 1000000) (disch := omega) only [go_sem, hdv, h3, h6])
        | ((with_reducible first | refine gDt ?_ ?_ | refine gDf ?_ ?_ | refine gNt ?_ ?_ | refine gNf ?_ ?_ | refine cD ?_ ?_ | refine cN ?_ ?_ | refine cB ?_ ?_ | refine gB ?_ ?_) <;> intro h)
        | with_reducible first | refine And.intro ?_ ?_ | refine J_seq ?_ | refine J_block ?_ | refine J_inBlock ?_ | refine rC ?_ | refine rR ?_ | refine rE ?_ | refine rG ?_ | refine FinQ.now ?_ | refine FinQ.end ?_)))
      refine .mk (i + 1) hlt (by omega) ?_ ?_
      · rw [ht]; simp [go_sem, encN]
      · simp
    have hie : i = n.devs.length := by omega
    subst hie
    rw [← cuts_eq] at *
    have hn : zoneChk n z = 0 := zoneChk_ok hno hz0 hz
    have hcl := cuts_len (n := n)
    have hnl' := near_len (n := n) (z := z)
    have cN := NearestF n hno.sized z (by omega)
    have cE := EnoughF n hno.sized z (cuts n) (by omega) (by omega)
    have heq := nearest_enough hno hn
    have hes : (enoughR n z (cuts n)).2 = 0 := by unfold enoughR; rw [if_neg (by simp [fault_ok hn (cuts_gaps n)])]
    have hrs : regionR n z (cuts n) = (regL n z (cuts n), 0) := by unfold regionR; rw [if_neg (by simp [fault_ok hn (cuts_gaps n)])]
    rw [hes, ← heq] at cE
    by_cases h0 : (nearestR n z).2 = 0
    · obtain ⟨s1, s2, s3⟩ := nearest_some hn h0
      have cE2 := EnoughF n hno.sized z (nearestR n z).1 (by omega) (by omega)
      have cR := RegionF n hno.sized z (nearestR n z).1 (by omega) (by omega)
      have cR2 := RegionF n hno.sized z (cuts n) (by omega) (by omega)
      have hrl := reg_len (n := n) (z := z) (g := cuts n)
      have cI := ints (regL n z (cuts n)) (regL n z (cuts n)) (by omega) (by omega)
      rw [decide_eq_true rfl] at cI
      rw [s2] at cE2
      rw [s3] at cR
      rw [hrs] at cR2
      rw [decide_eq_true h0] at cE
      rw [h0] at cN
      simp only [encNet] at cN cE cE2 cR cR2
      refine J_run 200 ?_
      repeat' (first
        | (simp (maxSteps := 1000000) (disch := omega) only [go_sem, take_lm])
        | ((with_reducible refine CallA.pure cN ?_ ?_); (· simp (disch := omega) only [go_sem, take_lm]); rintro _ _ ⟨rfl, rfl⟩)
        | ((with_reducible refine CallA.give [2] ?_ ?_ cE ?_); (· simp (disch := omega) only [go_sem, take_lm]); (· simp (disch := omega) only [go_sem, take_lm]); rintro _ _ ⟨rfl, rfl⟩)
        | ((with_reducible refine CallA.pure cE2 ?_ ?_); (· simp (disch := omega) only [go_sem, take_lm]); rintro _ _ ⟨rfl, rfl⟩)
        | ((with_reducible refine CallA.pure cR ?_ ?_); (· simp (disch := omega) only [go_sem, take_lm]); rintro _ _ ⟨rfl, rfl⟩)
        | ((with_reducible refine CallA.pure cR2 ?_ ?_); (· simp (disch := omega) only [go_sem, take_lm]); rintro _ _ ⟨rfl, rfl⟩)
        | ((with_reducible refine CallA.pure cI ?_ ?_); (· simp (disch := omega) only [go_sem, take_lm]); rintro _ _ ⟨rfl, rfl⟩)
        | ((with_reducible refine CallA.pure ca ?_ ?_); (· simp (disch := omega) only [go_sem, take_lm]); rintro _ _ ⟨rfl, rfl⟩)
        | ((with_reducible first | refine gDt ?_ ?_ | refine gDf ?_ ?_ | refine gNt ?_ ?_ | refine gNf ?_ ?_ | refine cD ?_ ?_ | refine cN ?_ ?_ | refine cB ?_ ?_ | refine gB ?_ ?_) <;> intro h)
        | with_reducible first | refine And.intro ?_ ?_ | refine J_seq ?_ | refine J_block ?_ | refine J_inBlock ?_ | refine rC ?_ | refine rR ?_ | refine rE ?_ | refine rG ?_ | refine FinQ.now ?_ | refine FinQ.end ?_)
    · have hnn := nearest_none hn h0
      rw [decide_eq_false h0] at cE
      rw [hnn] at cN
      simp only [encNet] at cN cE
      refine J_run 200 ?_
      repeat' (first
        | (simp (maxSteps := 1000000) (disch := omega) only [go_sem, take_lm])
        | ((with_reducible refine CallA.pure cN ?_ ?_); (· simp (disch := omega) only [go_sem, take_lm]); rintro _ _ ⟨rfl, rfl⟩)
        | ((with_reducible refine CallA.give [2] ?_ ?_ cE ?_); (· simp (disch := omega) only [go_sem, take_lm]); (· simp (disch := omega) only [go_sem, take_lm]); rintro _ _ ⟨rfl, rfl⟩)
        | ((with_reducible refine CallA.pure ca ?_ ?_); (· simp (disch := omega) only [go_sem, take_lm]); rintro _ _ ⟨rfl, rfl⟩)
        | ((with_reducible first | refine gDt ?_ ?_ | refine gDf ?_ ?_ | refine gNt ?_ ?_ | refine gNf ?_ ?_ | refine cD ?_ ?_ | refine cN ?_ ?_ | refine cB ?_ ?_ | refine gB ?_ ?_) <;> intro h)
        | with_reducible first | refine And.intro ?_ ?_ | refine J_seq ?_ | refine J_block ?_ | refine J_inBlock ?_ | refine rC ?_ | refine rR ?_ | refine rE ?_ | refine rG ?_ | refine FinQ.now ?_ | refine FinQ.end ?_)
  · rw [decide_eq_false h400] at cf
    refine holds_of Tryd.func3 rfl rfl ?_
    refine J_run 200 ?_
    delta Tryd.f3
    repeat' (first
      | (simp (maxSteps := 1000000) (disch := omega) only [go_sem])
      | ((with_reducible refine CallA.pure ca ?_ ?_); (· simp (disch := omega) only [go_sem]); rintro _ _ ⟨rfl, rfl⟩)
      | ((with_reducible refine CallA.pure cf ?_ ?_); (· simp (disch := omega) only [go_sem]); rintro _ _ ⟨rfl, rfl⟩)
      | ((with_reducible first | refine gDt ?_ ?_ | refine gDf ?_ ?_ | refine gNt ?_ ?_ | refine gNf ?_ ?_ | refine cD ?_ ?_ | refine cN ?_ ?_ | refine cB ?_ ?_ | refine gB ?_ ?_) <;> intro h)
      | with_reducible first | refine And.intro ?_ ?_ | refine J_seq ?_ | refine J_block ?_ | refine J_inBlock ?_ | refine rC ?_ | refine rR ?_ | refine rE ?_ | refine rG ?_ | refine FinQ.now ?_ | refine FinQ.end ?_)
theorem nums_ok {x : (Sh.slice (.int .i64)).Den} (h : (Sh.slice (.int .i64)).Ok x) : NumsOk x :=
  ⟨Nat.le_trans h.1 (by decide), fun y hy => by have := bounds_i64 (h.2 y hy); exact this⟩
theorem nums_av (x : (Sh.slice (.int .i64)).Den) : (Sh.slice (.int .i64)).av x = .lst 1 (List.map encN x) := rfl
theorem zoneNearest_av (x : (Sh.slice (.int .i64)).Den) (o : (Sh.slice (.int .i64)).Ok x) : Fn1 Tryd.prog GT0 3 [(Sh.slice (.int .i64)).av x] (.raw (.bool true)) [] := zoneNearest x (nums_ok o)
end Go.Proofs.YtangkndckghblaaDoor.Abs
