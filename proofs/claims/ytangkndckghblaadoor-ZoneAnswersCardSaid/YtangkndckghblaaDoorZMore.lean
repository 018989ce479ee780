/- ZoneMore, walked: it returns true. -/
import Derived.Test.YtangkndckghblaaDoorZNear
namespace Go.Proofs.YtangkndckghblaaDoor.Abs
set_option linter.unusedSimpArgs false
set_option linter.unusedVariables false
set_option maxRecDepth 100000
open Go Go.RowKit

/-- Two lists of gaps, so far. -/
structure FM (n : Net) (i : Nat) (few more : List Int) : Prop where
  rf : rising few i = true
  rm : rising more i = true
  sub : ∀ g, g ∈ few → g ∈ more
  gap : ∀ g, g ∈ more → gapK (n.devs.getD g.toNat ⟨⟨#[]⟩, 0, 0, 0, 0⟩).kind = true
theorem FM.zero (n : Net) : FM n 0 [] [] := ⟨rfl, rfl, fun _ h => (by cases h), fun _ h => (by cases h)⟩
theorem FM.skip {n : Net} {i : Nat} {few more : List Int} (h : FM n i few more) : FM n (i + 1) few more := ⟨rising_mono h.rf (by omega), rising_mono h.rm (by omega), h.sub, h.gap⟩
theorem FM.one {n : Net} {i : Nat} {few more : List Int} (h : FM n i few more) (hi : i < n.devs.length) (hg : gapK n.devs[i].kind = true) : FM n (i + 1) few (more ++ [(i : Int)]) :=
  ⟨rising_mono h.rf (by omega), rising_snoc h.rm (by omega) (by omega), fun g hg => List.mem_append_left _ (h.sub g hg), fun g hm => by
    rcases List.mem_append.1 hm with hm | hm
    · exact h.gap g hm
    · rw [List.mem_singleton] at hm; subst hm; rw [Int.toNat_natCast, getD_get hi]; exact hg⟩
theorem FM.both {n : Net} {i : Nat} {few more : List Int} (h : FM n i few more) (hi : i < n.devs.length) (hg : gapK n.devs[i].kind = true) : FM n (i + 1) (few ++ [(i : Int)]) (more ++ [(i : Int)]) :=
  ⟨rising_snoc h.rf (by omega) (by omega), (h.one hi hg).rm, fun g hm => by
    rcases List.mem_append.1 hm with hm | hm
    · exact List.mem_append_left _ (h.sub g hm)
    · exact List.mem_append_right _ hm, (h.one hi hg).gap⟩
theorem FM.few {n : Net} {few more : List Int} (h : FM n n.devs.length few more) : Gaps n few := ⟨h.rf, fun g hg => h.gap g (h.sub g hg)⟩
theorem FM.more {n : Net} {few more : List Int} (h : FM n n.devs.length few more) : Gaps n more := ⟨h.rm, h.gap⟩
theorem enoughR_ok {n : Net} {z g : List Int} (h : zoneChk n z = 0) (hg : Gaps n g) : enoughR n z g = (enoughB n z g, 0) := by unfold enoughR; rw [if_neg (by simp [fault_ok h hg])]
theorem regionR_ok {n : Net} {z g : List Int} (h : zoneChk n z = 0) (hg : Gaps n g) : regionR n z g = (regL n z g, 0) := by unfold regionR; rw [if_neg (by simp [fault_ok h hg])]
set_option maxHeartbeats 8000000 in
theorem zoneMore (l : List Int) (hl : NumsOk l) : Fn1 Tryd.prog GT0 4 [.lst 1 (l.map encN)] (.raw (.bool true)) [] := by
  have ca := awake15
  have cf := few l hl.len
  by_cases h400 : l.length ≤ 400
  · have cn := newDeck l
    rw [decide_eq_true h400] at cf
    have cw := networkD _ hl.deck 7 12 (by omega) (by omega)
    refine holds_of Tryd.func4 rfl rfl ?_
    refine J_run 200 ?_
    delta Tryd.f4
    iterate 6 (all_goals (try (first
      | (simp (maxSteps := 1000000) (disch := omega) only [go_sem])
      | ((with_reducible refine CallA.pure cf ?_ ?_); (· simp (disch := omega) only [go_sem]); rintro _ _ ⟨rfl, rfl⟩)
      | ((with_reducible refine CallA.pure cn ?_ ?_); (· simp (disch := omega) only [go_sem]); rintro _ _ ⟨rfl, rfl⟩)
      | ((with_reducible first | refine gDt ?_ ?_ | refine gDf ?_ ?_ | refine gNt ?_ ?_ | refine gNf ?_ ?_ | refine cD ?_ ?_ | refine cN ?_ ?_ | refine cB ?_ ?_ | refine gB ?_ ?_) <;> intro h)
      | with_reducible first | refine And.intro ?_ ?_ | refine J_seq ?_ | refine J_block ?_ | refine J_inBlock ?_ | refine rC ?_ | refine rR ?_ | refine rE ?_ | refine rG ?_ | refine FinQ.now ?_ | refine FinQ.end ?_)))
    refine CallA.mut [0] ?_ ?_ ?_ ?_ cw ?_
    · simp only [go_sem]
    · simp only [go_sem]
    · simp only [go_sem]
    · simp only [go_sem]
    rintro _ _ ⟨n, k, d1, hd1, hM, hk2, hk7, hdl, hd1', rfl, rfl⟩
    have hnl := hM.nl
    have hno := hM.ok (by omega) (by omega)
    have cz := zoneD d1 hd1 n (by omega) (by omega)
    simp only [encNet] at cz ⊢
    iterate 3 (all_goals (try (first
      | (simp (maxSteps := 1000000) (disch := omega) only [go_sem])
      | ((with_reducible first | refine gDt ?_ ?_ | refine gDf ?_ ?_ | refine gNt ?_ ?_ | refine gNf ?_ ?_ | refine cD ?_ ?_ | refine cN ?_ ?_ | refine cB ?_ ?_ | refine gB ?_ ?_) <;> intro h)
      | with_reducible first | refine And.intro ?_ ?_ | refine J_seq ?_ | refine J_block ?_ | refine J_inBlock ?_ | refine rC ?_ | refine rR ?_ | refine rE ?_ | refine rG ?_ | refine FinQ.now ?_ | refine FinQ.end ?_)))
    refine CallA.mut [0] ?_ ?_ ?_ ?_ cz ?_
    · simp only [go_sem]
    · simp only [go_sem]
    · simp only [go_sem]
    · simp only [go_sem]
    rintro _ _ ⟨z, d2, hd2, hz0, hz, rfl, rfl⟩
    have hzl := rising_len (by omega) hz
    iterate 8 (all_goals (try (first
      | (simp (maxSteps := 1000000) (disch := omega) only [go_sem])
      | ((with_reducible first | refine gDt ?_ ?_ | refine gDf ?_ ?_ | refine gNt ?_ ?_ | refine gNf ?_ ?_ | refine cD ?_ ?_ | refine cN ?_ ?_ | refine cB ?_ ?_ | refine gB ?_ ?_) <;> intro h)
      | with_reducible first | refine And.intro ?_ ?_ | refine J_seq ?_ | refine J_block ?_ | refine J_inBlock ?_ | refine rC ?_ | refine rR ?_ | refine rE ?_ | refine rG ?_ | refine FinQ.now ?_ | refine FinQ.end ?_)))
    refine J_nilName 6 1 (by simp only [go_sem]) ?_
    refine J_nilName 7 1 (by simp only [go_sem]) ?_
    simp only [go_sem]
    refine J_for ([8, 9, 10] ++ upto 41 65) (fun x : Nat × List Int × List Int × Dk => [(40, .raw (.int .i64 x.1)), (6, .own 2 1 0 x.2.1.length), (7, .own 3 1 0 x.2.2.1.length)]) (fun x => [.box (encDk x.2.2.2), .box [.lst 3 (n.nodes.map encNd), .lst 5 (n.devs.map encDv)], .arr 1 (x.2.1.map encN), .arr 1 (x.2.2.1.map encN)]) (fun x => x.1 ≤ n.devs.length ∧ FM n x.1 x.2.1 x.2.2.1 ∧ x.2.2.2.ok) (fun x => n.devs.length - x.1) (0, [], [], d2) ⟨by simp only; omega, FM.zero n, hd2⟩ (.le (by simp [go_sem]) (by simp)) ?_
    rintro ⟨i, few, more, d3⟩ ⟨hi, hF, hd3⟩
    have hlf := rising_len (by omega) hF.rf
    have hlm := rising_len (by omega) hF.rm
    simp only at hi hlf hlm ⊢
    by_cases hlt : i < n.devs.length
    · have hdv := getD_DvL hlt
      have cg := refGap n.devs[i].kind
      cases hgk : gapK n.devs[i].kind with
      | false =>
        rw [hgk] at cg
        refine J_run 200 ?_
        iterate 10 (all_goals (try (first
          | (simp (maxSteps := 1000000) (disch := omega) only [go_sem, hdv])
          | ((with_reducible refine CallA.pure cg ?_ ?_); (· simp (disch := omega) only [go_sem, hdv]); rintro _ _ ⟨rfl, rfl⟩)
          | ((with_reducible first | refine gDt ?_ ?_ | refine gDf ?_ ?_ | refine gNt ?_ ?_ | refine gNf ?_ ?_ | refine cD ?_ ?_ | refine cN ?_ ?_ | refine cB ?_ ?_ | refine gB ?_ ?_) <;> intro h)
          | with_reducible first | refine And.intro ?_ ?_ | refine J_seq ?_ | refine J_block ?_ | refine J_inBlock ?_ | refine rC ?_ | refine rR ?_ | refine rE ?_ | refine rG ?_ | refine FinQ.now ?_ | refine FinQ.end ?_)))
        refine .mk (i + 1, few, more, d3) ⟨by simp only; omega, hF.skip, hd3⟩ (by simp only; omega) ?_ ?_
        · simp [go_sem, encN]
        · simp
      | true =>
        rw [hgk] at cg
        have co := fun (d : Dk) (hd : d.ok) => one d hd 2 (by decide)
        refine J_run 200 ?_
        iterate 20 (all_goals (try (first
          | (simp (maxSteps := 1000000) (disch := omega) only [go_sem, hdv])
          | ((with_reducible refine CallA.pure cg ?_ ?_); (· simp (disch := omega) only [go_sem, hdv]); rintro _ _ ⟨rfl, rfl⟩)
          | ((with_reducible refine CallA.mut [0] ?_ ?_ ?_ ?_ (co _ (by assumption)) ?_); (· simp (disch := omega) only [go_sem, hdv]); (· simp (disch := omega) only [go_sem, hdv]); (· simp (disch := omega) only [go_sem, hdv]); (· simp (disch := omega) only [go_sem, hdv]); rintro _ _ ⟨(_|_), d4, hd4, rfl, rfl⟩)
          | ((with_reducible first | refine gDt ?_ ?_ | refine gDf ?_ ?_ | refine gNt ?_ ?_ | refine gNf ?_ ?_ | refine cD ?_ ?_ | refine cN ?_ ?_ | refine cB ?_ ?_ | refine gB ?_ ?_) <;> intro h)
          | with_reducible first | refine And.intro ?_ ?_ | refine J_seq ?_ | refine J_block ?_ | refine J_inBlock ?_ | refine rC ?_ | refine rR ?_ | refine rE ?_ | refine rG ?_ | refine FinQ.now ?_ | refine FinQ.end ?_)))
        · refine .mk (i + 1, few, more, d4) ⟨by simp only; omega, hF.skip, hd4⟩ (by simp only; omega) ?_ ?_
          · simp [go_sem, encN]
          · simp
        · refine .mk (i + 1, few, more ++ [(i : Int)], d4) ⟨by simp only; omega, hF.one hlt hgk, hd4⟩ (by simp only; omega) ?_ ?_
          · simp [go_sem, encN]
          · simp
        · refine .mk (i + 1, few ++ [(i : Int)], more ++ [(i : Int)], d4) ⟨by simp only; omega, hF.both hlt hgk, hd4⟩ (by simp only; omega) ?_ ?_
          · simp [go_sem, encN]
          · simp
    have hie : i = n.devs.length := by omega
    subst hie
    have hn : zoneChk n z = 0 := zoneChk_ok hno hz0 hz
    have cE1 := EnoughF n hno.sized z few (by omega) (by omega)
    have cE2 := EnoughF n hno.sized z more (by omega) (by omega)
    have cR1 := RegionF n hno.sized z few (by omega) (by omega)
    have cR2 := RegionF n hno.sized z more (by omega) (by omega)
    have hr1 := reg_len (n := n) (z := z) (g := few)
    have hr2 := reg_len (n := n) (z := z) (g := more)
    rw [enoughR_ok hn hF.few] at cE1
    rw [enoughR_ok hn hF.more] at cE2
    rw [regionR_ok hn hF.few] at cR1
    rw [regionR_ok hn hF.more] at cR2
    simp only [encNet] at cE1 cE2 cR1 cR2
    have hee : enoughB n z few = true → enoughB n z more = true := more_enough hF.sub
    have hp : ∀ v, v ∈ regL n z more → v ∈ regL n z few := fun v hv => by
      rw [regL_mem hno hz] at hv ⊢
      exact ⟨hv.1, RG.mono (fun _ h => h) hF.sub hv.2⟩
    obtain ⟨e1, he1⟩ : ∃ e, enoughB n z few = e := ⟨_, rfl⟩
    obtain ⟨e2, he2⟩ : ∃ e, enoughB n z more = e := ⟨_, rfl⟩
    rw [he1] at cE1
    rw [he2] at cE2
    have h12 : (e1 = true ∧ e2 = true) ∨ e1 = false := by
      rw [he1, he2] at hee
      cases e1 with
      | false => exact .inr rfl
      | true => exact .inl ⟨rfl, hee rfl⟩
    refine J_run 200 ?_
    iterate 12 (all_goals (try (first
      | (simp (maxSteps := 1000000) (disch := omega) only [go_sem, take_lm])
      | ((with_reducible refine CallA.give [2] ?_ ?_ cE1 ?_); (· simp (disch := omega) only [go_sem, take_lm]); (· simp (disch := omega) only [go_sem, take_lm]); rintro _ _ ⟨rfl, rfl⟩)
      | ((with_reducible refine CallA.give [3] ?_ ?_ cE2 ?_); (· simp (disch := omega) only [go_sem, take_lm]); (· simp (disch := omega) only [go_sem, take_lm]); rintro _ _ ⟨rfl, rfl⟩)
      | ((with_reducible refine CallA.pure cR1 ?_ ?_); (· simp (disch := omega) only [go_sem, take_lm]); rintro _ _ ⟨rfl, rfl⟩)
      | ((with_reducible refine CallA.pure cR2 ?_ ?_); (· simp (disch := omega) only [go_sem, take_lm]); rintro _ _ ⟨rfl, rfl⟩)
      | ((with_reducible first | refine gDt ?_ ?_ | refine gDf ?_ ?_ | refine gNt ?_ ?_ | refine gNf ?_ ?_ | refine cD ?_ ?_ | refine cN ?_ ?_ | refine cB ?_ ?_ | refine gB ?_ ?_) <;> intro h)
      | with_reducible first | refine And.intro ?_ ?_ | refine J_seq ?_ | refine J_block ?_ | refine J_inBlock ?_ | refine rC ?_ | refine rR ?_ | refine rE ?_ | refine rG ?_ | refine FinQ.now ?_ | refine FinQ.end ?_)))
    have hnext : ∀ (i : Nat) (hi : i < z.length), (z.take (i + 1)).all (fun v => enoughB n [v] few) = ((z.take i).all (fun v => enoughB n [v] few) && enoughB n [z[i]] few) := fun i hi => by
      rw [List.take_succ_eq_append_getElem hi, List.all_append]; simp
    have hall : (z.take z.length).all (fun v => enoughB n [v] few) = enoughB n z few := by
      rw [List.take_length, Bool.eq_iff_iff, each_enough hno hz, List.all_eq_true]
    rcases h12 with ⟨rfl, rfl⟩ | rfl
    all_goals refine J_reg 200 ?_
    iterate 4 (all_goals (try (first
      | (simp (maxSteps := 1000000) (disch := omega) only [go_sem])
      | ((with_reducible first | refine gDt ?_ ?_ | refine gDf ?_ ?_ | refine gNt ?_ ?_ | refine gNf ?_ ?_ | refine cD ?_ ?_ | refine cN ?_ ?_ | refine cB ?_ ?_ | refine gB ?_ ?_) <;> intro h)
      | with_reducible first | refine And.intro ?_ ?_ | refine J_seq ?_ | refine J_block ?_ | refine J_inBlock ?_ | refine rC ?_ | refine rR ?_ | refine rE ?_ | refine rG ?_ | refine FinQ.now ?_ | refine FinQ.end ?_)))
    all_goals
      refine J_for ([20] ++ upto 118 125) (fun i : Nat => [(117, .raw (.int .i64 i))]) (fun _ => [.box (encDk d3), .box [.lst 3 (n.nodes.map encNd), .lst 5 (n.devs.map encDv)]]) (fun i => i ≤ (regL n z more).length) (fun i => (regL n z more).length - i) 0 (by omega) (.le (by simp [go_sem]) (by simp)) ?_
      intro i hi
      by_cases hlt : i < (regL n z more).length
      · have hg := getD_N hlt
        have ch := has (regL n z few) (regL n z more)[i] (by omega)
        rw [decide_eq_true (hp _ (List.getElem_mem hlt))] at ch
        refine J_run 200 ?_
        iterate 14 (all_goals (try (first
          | (simp (maxSteps := 1000000) (disch := omega) only [go_sem, hg])
          | ((with_reducible refine CallA.pure ch ?_ ?_); (· simp (disch := omega) only [go_sem, hg]); rintro _ _ ⟨rfl, rfl⟩)
          | ((with_reducible first | refine gDt ?_ ?_ | refine gDf ?_ ?_ | refine gNt ?_ ?_ | refine gNf ?_ ?_ | refine cD ?_ ?_ | refine cN ?_ ?_ | refine cB ?_ ?_ | refine gB ?_ ?_) <;> intro h)
          | with_reducible first | refine And.intro ?_ ?_ | refine J_seq ?_ | refine J_block ?_ | refine J_inBlock ?_ | refine rC ?_ | refine rR ?_ | refine rE ?_ | refine rG ?_ | refine FinQ.now ?_ | refine FinQ.end ?_)))
        refine .mk (i + 1) hlt (by omega) ?_ ?_
        · simp [go_sem]
        · simp
      refine J_run 200 ?_
      iterate 6 (all_goals (try (first
        | (simp (maxSteps := 1000000) (disch := omega) only [go_sem])
        | ((with_reducible first | refine gDt ?_ ?_ | refine gDf ?_ ?_ | refine gNt ?_ ?_ | refine gNf ?_ ?_ | refine cD ?_ ?_ | refine cN ?_ ?_ | refine cB ?_ ?_ | refine gB ?_ ?_) <;> intro h)
        | with_reducible first | refine And.intro ?_ ?_ | refine J_seq ?_ | refine J_block ?_ | refine J_inBlock ?_ | refine rC ?_ | refine rR ?_ | refine rE ?_ | refine rG ?_ | refine FinQ.now ?_ | refine FinQ.end ?_)))
      refine J_for ([23, 24, 25] ++ upto 129 152) (fun i : Nat => [(128, .raw (.int .i64 i)), (21, .raw (.bool ((z.take i).all (fun v => enoughB n [v] few))))]) (fun _ => [.box (encDk d3), .box [.lst 3 (n.nodes.map encNd), .lst 5 (n.devs.map encDv)]]) (fun i => i ≤ z.length) (fun i => z.length - i) 0 (by omega) (.le (by simp [go_sem]) (by simp)) ?_
      intro i hi
      by_cases hlt : i < z.length
      · have hg := getD_N hlt
        have hzi := rising_mem hz (List.getElem_mem hlt)
        have ch := has (regL n z few) z[i] (by omega)
        rw [decide_eq_true ((regL_mem hno hz).2 ⟨hzi.1, .base (by rw [Int.toNat_of_nonneg hzi.1]; exact List.getElem_mem hlt)⟩)] at ch
        have cE := EnoughF n hno.sized [z[i]] few (by simp) (by omega)
        rw [enoughR_ok (zoneChk_ok hno (by simp) (by simp [rising, risingFrom]; omega)) hF.few] at cE
        simp only [encNet, List.map_cons, List.map_nil, encN] at cE
        have hn1 := hnext i hlt
        obtain ⟨o, ho⟩ : ∃ e, enoughB n [z[i]] few = e := ⟨_, rfl⟩
        obtain ⟨pb, hpb⟩ : ∃ e, (z.take i).all (fun v => enoughB n [v] few) = e := ⟨_, rfl⟩
        rw [ho, hpb] at hn1
        rw [ho] at cE
        rw [hpb]
        cases pb
        all_goals
          refine J_run 200 ?_
          iterate 14 (all_goals (try (first
            | (simp (maxSteps := 1000000) (disch := omega) only [go_sem, hg])
            | ((with_reducible refine CallA.give [2] ?_ ?_ cE ?_); (· simp (disch := omega) only [go_sem, hg]); (· simp (disch := omega) only [go_sem, hg]); rintro _ _ ⟨rfl, rfl⟩)
            | ((with_reducible refine CallA.pure ch ?_ ?_); (· simp (disch := omega) only [go_sem, hg]); rintro _ _ ⟨rfl, rfl⟩)
            | ((with_reducible first | refine gDt ?_ ?_ | refine gDf ?_ ?_ | refine gNt ?_ ?_ | refine gNf ?_ ?_ | refine cD ?_ ?_ | refine cN ?_ ?_ | refine cB ?_ ?_ | refine gB ?_ ?_) <;> intro h)
            | with_reducible first | refine And.intro ?_ ?_ | refine J_seq ?_ | refine J_block ?_ | refine J_inBlock ?_ | refine rC ?_ | refine rR ?_ | refine rE ?_ | refine rG ?_ | refine FinQ.now ?_ | refine FinQ.end ?_)))
          refine .mk (i + 1) hlt (by omega) ?_ ?_
          · rw [hn1]; simp [go_sem]
          · simp
      have hie : i = z.length := by omega
      subst hie
      rw [hall, he1]
      refine J_run 200 ?_
      repeat' (first
        | (simp (maxSteps := 1000000) (disch := omega) only [go_sem])
        | ((with_reducible refine CallA.pure ca ?_ ?_); (· simp (disch := omega) only [go_sem]); rintro _ _ ⟨rfl, rfl⟩)
        | ((with_reducible first | refine gDt ?_ ?_ | refine gDf ?_ ?_ | refine gNt ?_ ?_ | refine gNf ?_ ?_ | refine cD ?_ ?_ | refine cN ?_ ?_ | refine cB ?_ ?_ | refine gB ?_ ?_) <;> intro h)
        | with_reducible first | refine And.intro ?_ ?_ | refine J_seq ?_ | refine J_block ?_ | refine J_inBlock ?_ | refine rC ?_ | refine rR ?_ | refine rE ?_ | refine rG ?_ | refine FinQ.now ?_ | refine FinQ.end ?_)
  · rw [decide_eq_false h400] at cf
    refine holds_of Tryd.func4 rfl rfl ?_
    refine J_run 200 ?_
    delta Tryd.f4
    repeat' (first
      | (simp (maxSteps := 1000000) (disch := omega) only [go_sem])
      | ((with_reducible refine CallA.pure ca ?_ ?_); (· simp (disch := omega) only [go_sem]); rintro _ _ ⟨rfl, rfl⟩)
      | ((with_reducible refine CallA.pure cf ?_ ?_); (· simp (disch := omega) only [go_sem]); rintro _ _ ⟨rfl, rfl⟩)
      | ((with_reducible first | refine gDt ?_ ?_ | refine gDf ?_ ?_ | refine gNt ?_ ?_ | refine gNf ?_ ?_ | refine cD ?_ ?_ | refine cN ?_ ?_ | refine cB ?_ ?_ | refine gB ?_ ?_) <;> intro h)
      | with_reducible first | refine And.intro ?_ ?_ | refine J_seq ?_ | refine J_block ?_ | refine J_inBlock ?_ | refine rC ?_ | refine rR ?_ | refine rE ?_ | refine rG ?_ | refine FinQ.now ?_ | refine FinQ.end ?_)
theorem zoneMore_av (x : (Sh.slice (.int .i64)).Den) (o : (Sh.slice (.int .i64)).Ok x) : Fn1 Tryd.prog GT0 4 [(Sh.slice (.int .i64)).av x] (.raw (.bool true)) [] := zoneMore x (nums_ok o)
end Go.Proofs.YtangkndckghblaaDoor.Abs
