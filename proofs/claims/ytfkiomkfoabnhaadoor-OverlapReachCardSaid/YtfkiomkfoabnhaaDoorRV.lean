/- References: zones; what is reached from a zone. -/
import Derived.Test.YtfkiomkfoabnhaaDoorRVA
import Derived.Test.YtfkiomkfoabnhaaDoorR1
import Derived.Test.YtfkiomkfoabnhaaDoorZ4
import Derived.Test.YtfkiomkfoabnhaaDoorZ3
import Derived.Test.YtfkiomkfoabnhaaDoorT3
namespace Go.Proofs.YtfkiomkfoabnhaaDoor.Abs
set_option linter.unusedSimpArgs false
set_option linter.unusedVariables false
set_option maxRecDepth 100000
open Go Go.RowKit

theorem rZone (n : Net) (hs : n.sized) (zone : List Int) (hzl : zone.length ≤ 1000000) : Fn1 Tryd.prog GT0 29 [.agg (encNet n), .lst 1 (zone.map encN)] (.raw (.int .i64 (zoneChk n zone))) [] := by
  have c := refCheck n hs
  have cr := rSet zone n.nodes.length (by omega)
  have hdl := hs.nl
  by_cases h0 : n.chk = 0
  · rw [h0] at c
    by_cases hz : zone = []
    · have e : zoneChk n zone = 16 := by unfold zoneChk; rw [if_neg (by simp [h0]), if_pos hz]
      rw [e]
      subst hz
      refine holds_of Tryd.func29 rfl rfl ?_
      refine J_run 200 ?_
      delta Tryd.f29
      simp only [encNet] at c ⊢
      iterate 12 (all_goals (try (first
        | (simp (maxSteps := 1000000) (disch := omega) only [go_sem, List.length_nil])
        | ((with_reducible refine CallA.pure c ?_ ?_); (· simp (disch := omega) only [go_sem, List.length_nil]); rintro _ _ ⟨rfl, rfl⟩)
        | ((with_reducible first | refine gDt ?_ ?_ | refine gDf ?_ ?_ | refine gNt ?_ ?_ | refine gNf ?_ ?_ | refine cD ?_ ?_ | refine cN ?_ ?_ | refine cB ?_ ?_ | refine gB ?_ ?_) <;> intro h)
        | with_reducible first | refine And.intro ?_ ?_ | refine J_seq ?_ | refine J_block ?_ | refine J_inBlock ?_ | refine rC ?_ | refine rR ?_ | refine rE ?_ | refine rG ?_ | refine FinQ.now ?_ | refine FinQ.end ?_)))
    · have hzl' : 0 < zone.length := List.length_pos_iff.2 hz
      have e : zoneChk n zone = if rising zone n.nodes.length = false then 7 else 0 := by unfold zoneChk; rw [if_neg (by simp [h0]), if_neg hz]
      rw [e]
      obtain ⟨b, hb⟩ : ∃ b, rising zone n.nodes.length = b := ⟨_, rfl⟩
      rw [hb] at cr ⊢
      cases b
      all_goals
        simp only [Bool.true_eq_false, if_true, if_false]
        refine holds_of Tryd.func29 rfl rfl ?_
        refine J_run 200 ?_
        delta Tryd.f29
        simp only [encNet] at c ⊢
        iterate 14 (all_goals (try (first
          | (simp (maxSteps := 1000000) (disch := omega) only [go_sem])
          | ((with_reducible refine CallA.pure c ?_ ?_); (· simp (disch := omega) only [go_sem]); rintro _ _ ⟨rfl, rfl⟩)
          | ((with_reducible refine CallA.pure cr ?_ ?_); (· simp (disch := omega) only [go_sem]); rintro _ _ ⟨rfl, rfl⟩)
          | ((with_reducible first | refine gDt ?_ ?_ | refine gDf ?_ ?_ | refine gNt ?_ ?_ | refine gNf ?_ ?_ | refine cD ?_ ?_ | refine cN ?_ ?_ | refine cB ?_ ?_ | refine gB ?_ ?_) <;> intro h)
          | with_reducible first | refine And.intro ?_ ?_ | refine J_seq ?_ | refine J_block ?_ | refine J_inBlock ?_ | refine rC ?_ | refine rR ?_ | refine rE ?_ | refine rG ?_ | refine FinQ.now ?_ | refine FinQ.end ?_)))
  · have e : zoneChk n zone = n.chk := by unfold zoneChk; rw [if_pos h0]
    rw [e]
    refine holds_of Tryd.func29 rfl rfl ?_
    refine J_run 200 ?_
    delta Tryd.f29
    simp only [encNet] at c ⊢
    iterate 12 (all_goals (try (first
      | (simp (maxSteps := 1000000) (disch := omega) only [go_sem, h0, ne_eq, not_false_eq_true, decide_true])
      | ((with_reducible refine CallA.pure c ?_ ?_); (· simp (disch := omega) only [go_sem, h0, ne_eq, not_false_eq_true, decide_true]); rintro _ _ ⟨rfl, rfl⟩)
      | ((with_reducible first | refine gDt ?_ ?_ | refine gDf ?_ ?_ | refine gNt ?_ ?_ | refine gNf ?_ ?_ | refine cD ?_ ?_ | refine cN ?_ ?_ | refine cB ?_ ?_ | refine gB ?_ ?_) <;> intro h)
      | with_reducible first | refine And.intro ?_ ?_ | refine J_seq ?_ | refine J_block ?_ | refine J_inBlock ?_ | refine rC ?_ | refine rR ?_ | refine rE ?_ | refine rG ?_ | refine FinQ.now ?_ | refine FinQ.end ?_)))
set_option maxHeartbeats 8000000 in
theorem rReach (n : Net) (hn : n.ok) (zone but : List Int) (hz : ∀ x, x ∈ zone → 0 ≤ x ∧ x < n.nodes.length) (hzl : zone.length ≤ 1000000) (hbl : but.length ≤ 1000000) :
    Fn1 Tryd.prog GT0 44 [.agg (encNet n), .lst 1 (zone.map encN), .lst 1 (but.map encN)] (.lst 1 ((regL n zone but).map encN)) [] := by
  have hnl := hn.nl
  have hdl := hn.dl
  refine holds_of Tryd.func44 rfl rfl ?_
  refine J_run 200 ?_
  delta Tryd.f44
  simp only [encNet]
  iterate 10 (all_goals (try (first
    | (simp (maxSteps := 1000000) (disch := omega) only [go_sem])
    | ((with_reducible first | refine gDt ?_ ?_ | refine gDf ?_ ?_ | refine gNt ?_ ?_ | refine gNf ?_ ?_ | refine cD ?_ ?_ | refine cN ?_ ?_ | refine cB ?_ ?_ | refine gB ?_ ?_) <;> intro h)
    | with_reducible first | refine And.intro ?_ ?_ | refine J_seq ?_ | refine J_block ?_ | refine J_inBlock ?_ | refine rC ?_ | refine rR ?_ | refine rE ?_ | refine rG ?_ | refine FinQ.now ?_ | refine FinQ.end ?_)))
  refine J_for (upto 18 88) (fun x : Nat × List Bool => [(8, .raw (.int .i64 x.1))]) (fun x => [.box (encNet n), .arr 1 (x.2.map encB)]) (fun x => x.1 ≤ zone.length ∧ Marks n zone but x.2 ∧ ∀ y, y ∈ zone.take x.1 → x.2.getD y.toNat false = true) (fun x => zone.length - x.1) (0, List.replicate n.nodes.length false) ⟨by simp, .zero, by simp⟩ (.le (by simp [go_sem, encNet, encB]) (by simp)) ?_
  rintro ⟨i, T⟩ ⟨hi, hM, hB⟩
  simp only [encNet] at hi hM hB ⊢
  have hTl := hM.len
  by_cases hlt : i < zone.length
  · have hg := getD_N hlt
    have hzi := hz _ (List.getElem_mem hlt)
    have hse := set_encB (out := T) (k := zone[i].toNat) (by omega)
    refine J_run 200 ?_
    iterate 14 (all_goals (try (first
      | (simp (maxSteps := 1000000) (disch := omega) only [go_sem, hg])
      | ((with_reducible first | refine gDt ?_ ?_ | refine gDf ?_ ?_ | refine gNt ?_ ?_ | refine gNf ?_ ?_ | refine cD ?_ ?_ | refine cN ?_ ?_ | refine cB ?_ ?_ | refine gB ?_ ?_) <;> intro h)
      | with_reducible first | refine And.intro ?_ ?_ | refine J_seq ?_ | refine J_block ?_ | refine J_inBlock ?_ | refine rC ?_ | refine rR ?_ | refine rE ?_ | refine rG ?_ | refine FinQ.now ?_ | refine FinQ.end ?_)))
    refine .mk (i + 1, T.set zone[i].toNat true) ⟨hlt, hM.set (.base (by rw [Int.toNat_of_nonneg hzi.1]; exact List.getElem_mem hlt)), fun y hy => ?_⟩ (by simp only; omega) ?_ ?_
    · rw [List.take_succ_eq_append_getElem hlt, List.mem_append] at hy
      rcases hy with hy | hy
      · exact getD_set_mono (hB y hy)
      · rw [List.mem_singleton.1 hy, getD_set, if_pos ⟨rfl, by omega⟩]
    · simp only [← hse]; simp [go_sem, encNet]
    · simp
  have hie : i = zone.length := by omega
  subst hie
  rw [List.take_length] at hB
  refine J_run 200 ?_
  iterate 10 (all_goals (try (first
    | (simp (maxSteps := 1000000) (disch := omega) only [go_sem])
    | ((with_reducible first | refine gDt ?_ ?_ | refine gDf ?_ ?_ | refine gNt ?_ ?_ | refine gNf ?_ ?_ | refine cD ?_ ?_ | refine cN ?_ ?_ | refine cB ?_ ?_ | refine gB ?_ ?_) <;> intro h)
    | with_reducible first | refine And.intro ?_ ?_ | refine J_seq ?_ | refine J_block ?_ | refine J_inBlock ?_ | refine rC ?_ | refine rR ?_ | refine rE ?_ | refine rG ?_ | refine FinQ.now ?_ | refine FinQ.end ?_)))
  refine J_for ([10, 11] ++ upto 30 88) (fun x : Bool × List Bool => [(9, .raw (.bool x.1))]) (fun x => [.box (encNet n), .arr 1 (x.2.map encB)]) (fun x => Marks n zone but x.2 ∧ Based zone x.2 ∧ (x.1 = false → ∀ i, i < n.devs.length → EqI n but x.2 i)) (fun x => 2 * x.2.count false + (if x.1 then 1 else 0)) (true, T) ⟨hM, hB, by simp⟩ (.le (by simp [go_sem, encNet]) (by simp)) ?_
  rintro ⟨ch, out⟩ ⟨hM1, hB1, hE1⟩
  simp only [encNet] at hM1 hB1 hE1 ⊢
  have hol := hM1.len
  cases ch with
  | false =>
    have hre := marks_all hn hM1 hB1 (fun x hx => (hz x hx).1) (hE1 rfl)
    subst hre
    refine J_run 200 ?_
    iterate 6 (all_goals (try (first
      | (simp (maxSteps := 1000000) (disch := omega) only [go_sem])
      | ((with_reducible first | refine gDt ?_ ?_ | refine gDf ?_ ?_ | refine gNt ?_ ?_ | refine gNf ?_ ?_ | refine cD ?_ ?_ | refine cN ?_ ?_ | refine cB ?_ ?_ | refine gB ?_ ?_) <;> intro h)
      | with_reducible first | refine And.intro ?_ ?_ | refine J_seq ?_ | refine J_block ?_ | refine J_inBlock ?_ | refine rC ?_ | refine rR ?_ | refine rE ?_ | refine rG ?_ | refine FinQ.now ?_ | refine FinQ.end ?_)))
    refine J_nilName 12 1 (by simp only [go_sem]) ?_
    simp only [go_sem]
    refine J_for (upto 73 87) (fun i : Nat => [(13, .raw (.int .i64 i)), (12, .own 2 1 0 (truesTo (regB n zone but) i).length)]) (fun i => [.box (encNet n), .arr 1 ((regB n zone but).map encB), .arr 1 ((truesTo (regB n zone but) i).map encN)]) (fun i => i ≤ n.nodes.length) (fun i => n.nodes.length - i) 0 (by omega) (.le (by simp [go_sem, encNet, truesTo]) (by simp)) ?_
    intro i hi
    simp only [encNet]
    have htl := truesTo_len (l := regB n zone but) (i := i)
    by_cases hlt : i < n.nodes.length
    · have hg := getD_B (l := regB n zone but) (i := i) (by omega)
      have hgd : (regB n zone but).getD i false = (regB n zone but)[i] := getD_get (by omega)
      have ht := truesTo_next (l := regB n zone but) (i := i)
      obtain ⟨o, ho⟩ : ∃ o, (regB n zone but)[i]'(by omega) = o := ⟨_, rfl⟩
      rw [hgd, ho] at ht
      rw [ho] at hg
      cases o
      all_goals
        refine J_run 200 ?_
        iterate 14 (all_goals (try (first
          | (simp (maxSteps := 1000000) (disch := omega) only [go_sem, hg])
          | ((with_reducible first | refine gDt ?_ ?_ | refine gDf ?_ ?_ | refine gNt ?_ ?_ | refine gNf ?_ ?_ | refine cD ?_ ?_ | refine cN ?_ ?_ | refine cB ?_ ?_ | refine gB ?_ ?_) <;> intro h)
          | with_reducible first | refine And.intro ?_ ?_ | refine J_seq ?_ | refine J_block ?_ | refine J_inBlock ?_ | refine rC ?_ | refine rR ?_ | refine rE ?_ | refine rG ?_ | refine FinQ.now ?_ | refine FinQ.end ?_)))
        refine .mk (i + 1) hlt (by omega) ?_ ?_
        · rw [ht]; simp [go_sem, encNet, encN]
        · simp
    have hie : i = n.nodes.length := by omega
    subst hie
    refine J_run 200 ?_
    iterate 12 (all_goals (try (first
      | (simp (maxSteps := 1000000) (disch := omega) only [go_sem])
      | ((with_reducible first | refine gDt ?_ ?_ | refine gDf ?_ ?_ | refine gNt ?_ ?_ | refine gNf ?_ ?_ | refine cD ?_ ?_ | refine cN ?_ ?_ | refine cB ?_ ?_ | refine gB ?_ ?_) <;> intro h)
      | with_reducible first | refine And.intro ?_ ?_ | refine J_seq ?_ | refine J_block ?_ | refine J_inBlock ?_ | refine rC ?_ | refine rR ?_ | refine rE ?_ | refine rG ?_)))
    refine .frz [2] (.now ?_)
    simp only [go_sem]
    have e : regL n zone but = truesTo (regB n zone but) n.nodes.length := by unfold regL trues truesTo; rw [regB_len]
    rw [e, List.take_of_length_le (by simp)]
  | true =>
    refine J_run 200 ?_
    iterate 8 (all_goals (try (first
      | (simp (maxSteps := 1000000) (disch := omega) only [go_sem])
      | ((with_reducible first | refine gDt ?_ ?_ | refine gDf ?_ ?_ | refine gNt ?_ ?_ | refine gNf ?_ ?_ | refine cD ?_ ?_ | refine cN ?_ ?_ | refine cB ?_ ?_ | refine gB ?_ ?_) <;> intro h)
      | with_reducible first | refine And.intro ?_ ?_ | refine J_seq ?_ | refine J_block ?_ | refine J_inBlock ?_ | refine rC ?_ | refine rR ?_ | refine rE ?_ | refine rG ?_ | refine FinQ.now ?_ | refine FinQ.end ?_)))
    refine J_for ([11] ++ upto 31 88) (fun x : Nat × Bool × List Bool => [(10, .raw (.int .i64 x.1)), (9, .raw (.bool x.2.1))]) (fun x => [.box (encNet n), .arr 1 (x.2.2.map encB)]) (fun x => x.1 ≤ n.devs.length ∧ Marks n zone but x.2.2 ∧ Based zone x.2.2 ∧ x.2.2.count false ≤ out.count false ∧ (x.2.1 = true → x.2.2.count false < out.count false) ∧ (x.2.1 = false → ∀ j, j < x.1 → EqI n but x.2.2 j)) (fun x => n.devs.length - x.1) (0, false, out) ⟨by simp only; omega, hM1, hB1, Nat.le_refl _, by simp, fun _ j hj => absurd hj (by simp)⟩ (.le (by simp [go_sem, encNet]) (by simp)) ?_
    rintro ⟨i, ch, o⟩ ⟨hi, hM2, hB2, hs1, hs2, hE⟩
    simp only [encNet] at hi hM2 hB2 hs1 hs2 hE ⊢
    have hol2 := hM2.len
    by_cases hlt : i < n.devs.length
    · have hdv := getD_Dv hlt
      have hd? : n.devs[i]? = some n.devs[i] := List.getElem?_eq_getElem hlt
      have cj := rJoins n.devs[i].kind
      have cb := has but i (by omega)
      have hok := hn.dev' hlt
      have ha0 := hok.a0; have hal := hok.al
      have skip : (joinsK n.devs[i].kind = false ∨ (i : Int) ∈ but ∨ o.getD n.devs[i].a.toNat false = o.getD n.devs[i].b.toNat false) → ch = false → ∀ j, j < i + 1 → EqI n but o j := fun hx hc j hj => by
        rcases Nat.lt_succ_iff_lt_or_eq.1 hj with h3 | rfl
        · exact hE hc j h3
        · intro d hd h2 hjk
          rw [hd?] at hd; cases hd
          rcases hx with h | h | h
          · rw [h] at h2; cases h2
          · exact absurd h hjk
          · exact h
      obtain ⟨jk, hjk⟩ : ∃ b, joinsK n.devs[i].kind = b := ⟨_, rfl⟩
      rw [hjk] at cj
      cases jk with
      | false =>
        refine J_run 200 ?_
        iterate 20 (all_goals (try (first
          | ((with_reducible refine J_draw (id := 13) 200 [] plan44_13 (by kernel_rfl) (by kernel_rfl) ?_); delta plan44_13)
          | (simp (maxSteps := 1000000) (disch := omega) only [go_sem, hdv])
          | ((with_reducible refine CallA.pure cj ?_ ?_); (· simp (disch := omega) only [go_sem, hdv]); rintro _ _ ⟨rfl, rfl⟩)
          | ((with_reducible first | refine gDt ?_ ?_ | refine gDf ?_ ?_ | refine gNt ?_ ?_ | refine gNf ?_ ?_ | refine cD ?_ ?_ | refine cN ?_ ?_ | refine cB ?_ ?_ | refine gB ?_ ?_ | refine stepGuard_dect ?_ ?_ | refine stepGuard_decf ?_ ?_ | refine stepGuard_ndect ?_ ?_ | refine stepGuard_ndecf ?_ ?_ | refine stepGuard_by ?_ ?_) <;> intro h)
          | with_reducible first | refine And.intro ?_ ?_ | refine J_seq ?_ | refine J_block ?_ | refine J_inBlock ?_ | refine rC ?_ | refine rR ?_ | refine rE ?_ | refine rG ?_ | refine FinQ.now ?_ | refine FinQ.end ?_)))
        all_goals
          refine .mk (i + 1, ch, o) ⟨by simp only; omega, hM2, hB2, hs1, hs2, skip (.inl hjk)⟩ (by simp only; omega) ?_ ?_
          · simp [go_sem, encNet]
          · simp
      | true =>
        have hb := hok.j hjk
        have hga := getD_B (l := o) (i := n.devs[i].a.toNat) (by omega)
        have hgb := getD_B (l := o) (i := n.devs[i].b.toNat) (by omega)
        have ea : o.getD n.devs[i].a.toNat false = o[n.devs[i].a.toNat]'(by omega) := getD_get (by omega)
        have eb : o.getD n.devs[i].b.toNat false = o[n.devs[i].b.toNat]'(by omega) := getD_get (by omega)
        by_cases hbut : (i : Int) ∈ but
        · rw [decide_eq_true hbut] at cb
          refine J_run 200 ?_
          iterate 20 (all_goals (try (first
            | ((with_reducible refine J_draw (id := 13) 200 [] plan44_13 (by kernel_rfl) (by kernel_rfl) ?_); delta plan44_13)
            | (simp (maxSteps := 1000000) (disch := omega) only [go_sem, hdv])
            | ((with_reducible refine CallA.pure cj ?_ ?_); (· simp (disch := omega) only [go_sem, hdv]); rintro _ _ ⟨rfl, rfl⟩)
            | ((with_reducible refine CallA.pure cb ?_ ?_); (· simp (disch := omega) only [go_sem, hdv]); rintro _ _ ⟨rfl, rfl⟩)
            | ((with_reducible first | refine gDt ?_ ?_ | refine gDf ?_ ?_ | refine gNt ?_ ?_ | refine gNf ?_ ?_ | refine cD ?_ ?_ | refine cN ?_ ?_ | refine cB ?_ ?_ | refine gB ?_ ?_ | refine stepGuard_dect ?_ ?_ | refine stepGuard_decf ?_ ?_ | refine stepGuard_ndect ?_ ?_ | refine stepGuard_ndecf ?_ ?_ | refine stepGuard_by ?_ ?_) <;> intro h)
            | with_reducible first | refine And.intro ?_ ?_ | refine J_seq ?_ | refine J_block ?_ | refine J_inBlock ?_ | refine rC ?_ | refine rR ?_ | refine rE ?_ | refine rG ?_ | refine FinQ.now ?_ | refine FinQ.end ?_)))
          all_goals
            refine .mk (i + 1, ch, o) ⟨by simp only; omega, hM2, hB2, hs1, hs2, skip (.inr (.inl hbut))⟩ (by simp only; omega) ?_ ?_
            · simp [go_sem, encNet]
            · simp
        · rw [decide_eq_false hbut] at cb
          by_cases heq : o[n.devs[i].a.toNat]'(by omega) = o[n.devs[i].b.toNat]'(by omega)
          · rw [heq] at hga
            refine J_run 200 ?_
            iterate 20 (all_goals (try (first
              | ((with_reducible refine J_draw (id := 13) 200 [] plan44_13 (by kernel_rfl) (by kernel_rfl) ?_); delta plan44_13)
              | (simp (maxSteps := 1000000) (disch := omega) only [go_sem, hdv, hga, hgb, decide_true, ne_eq, not_true_eq_false, decide_false])
              | ((with_reducible refine CallA.pure cj ?_ ?_); (· simp (disch := omega) only [go_sem, hdv, hga, hgb, decide_true, ne_eq, not_true_eq_false, decide_false]); rintro _ _ ⟨rfl, rfl⟩)
              | ((with_reducible refine CallA.pure cb ?_ ?_); (· simp (disch := omega) only [go_sem, hdv, hga, hgb, decide_true, ne_eq, not_true_eq_false, decide_false]); rintro _ _ ⟨rfl, rfl⟩)
              | ((with_reducible first | refine gDt ?_ ?_ | refine gDf ?_ ?_ | refine gNt ?_ ?_ | refine gNf ?_ ?_ | refine cD ?_ ?_ | refine cN ?_ ?_ | refine cB ?_ ?_ | refine gB ?_ ?_ | refine stepGuard_dect ?_ ?_ | refine stepGuard_decf ?_ ?_ | refine stepGuard_ndect ?_ ?_ | refine stepGuard_ndecf ?_ ?_ | refine stepGuard_by ?_ ?_) <;> intro h)
              | with_reducible first | refine And.intro ?_ ?_ | refine J_seq ?_ | refine J_block ?_ | refine J_inBlock ?_ | refine rC ?_ | refine rR ?_ | refine rE ?_ | refine rG ?_ | refine FinQ.now ?_ | refine FinQ.end ?_)))
            all_goals
              refine .mk (i + 1, ch, o) ⟨by simp only; omega, hM2, hB2, hs1, hs2, skip (.inr (.inr (by rw [ea, eb, heq])))⟩ (by simp only; omega) ?_ ?_
              · simp [go_sem, encNet]
              · simp
          · have hed : Edge n (fun i => (i : Int) ∉ but) n.devs[i].a.toNat n.devs[i].b.toNat := ⟨i, _, hd?, hjk, hbut, .inl ⟨by omega, by omega⟩⟩
            obtain ⟨hM3, hB3, hs3⟩ := marks_both hM2 hB2 (a := n.devs[i].a.toNat) (b := n.devs[i].b.toNat) (by omega) (by omega) hed heq
            have hse1 : (o.map encB).set n.devs[i].a.toNat [.raw (.bool true)] = (o.set n.devs[i].a.toNat true).map encB := by rw [List.map_set]; rfl
            have hse2 := set_encB (out := o.set n.devs[i].a.toNat true) (k := n.devs[i].b.toNat) (by simp; omega)
            refine J_run 200 ?_
            iterate 30 (all_goals (try (first
              | ((with_reducible refine J_draw (id := 13) 200 [] plan44_13 (by kernel_rfl) (by kernel_rfl) ?_); delta plan44_13)
              | ((with_reducible refine J_draw (id := 14) 200 [] plan44_14 (by kernel_rfl) (by kernel_rfl) ?_); delta plan44_14)
              | (simp (maxSteps := 1000000) (disch := omega) only [go_sem, hdv, hga, hgb, heq, decide_true, ne_eq, not_false_eq_true, decide_false])
              | ((with_reducible refine CallA.pure cj ?_ ?_); (· simp (disch := omega) only [go_sem, hdv, hga, hgb, heq, decide_true, ne_eq, not_false_eq_true, decide_false]); rintro _ _ ⟨rfl, rfl⟩)
              | ((with_reducible refine CallA.pure cb ?_ ?_); (· simp (disch := omega) only [go_sem, hdv, hga, hgb, heq, decide_true, ne_eq, not_false_eq_true, decide_false]); rintro _ _ ⟨rfl, rfl⟩)
              | ((with_reducible first | refine gDt ?_ ?_ | refine gDf ?_ ?_ | refine gNt ?_ ?_ | refine gNf ?_ ?_ | refine cD ?_ ?_ | refine cN ?_ ?_ | refine cB ?_ ?_ | refine gB ?_ ?_ | refine stepGuard_dect ?_ ?_ | refine stepGuard_decf ?_ ?_ | refine stepGuard_ndect ?_ ?_ | refine stepGuard_ndecf ?_ ?_ | refine stepGuard_by ?_ ?_) <;> intro h)
              | with_reducible first | refine And.intro ?_ ?_ | refine J_seq ?_ | refine J_block ?_ | refine J_inBlock ?_ | refine rC ?_ | refine rR ?_ | refine rE ?_ | refine rG ?_ | refine FinQ.now ?_ | refine FinQ.end ?_)))
            all_goals
              refine .mk (i + 1, true, (o.set n.devs[i].a.toNat true).set n.devs[i].b.toNat true) ⟨by simp only; omega, hM3, hB3, by simp only; omega, fun _ => by simp only; omega, fun h => by cases h⟩ (by simp only; omega) ?_ ?_
              · simp only [hse1, hse2]
                simp [go_sem, encNet]
              · simp
    · have hie : i = n.devs.length := by omega
      subst hie
      refine J_run 200 ?_
      iterate 20 (all_goals (try (first
        | (simp (maxSteps := 1000000) (disch := omega) only [go_sem])
        | ((with_reducible first | refine gDt ?_ ?_ | refine gDf ?_ ?_ | refine gNt ?_ ?_ | refine gNf ?_ ?_ | refine cD ?_ ?_ | refine cN ?_ ?_ | refine cB ?_ ?_ | refine gB ?_ ?_) <;> intro h)
        | with_reducible first | refine And.intro ?_ ?_ | refine J_seq ?_ | refine J_block ?_ | refine J_inBlock ?_ | refine rC ?_ | refine rR ?_ | refine rE ?_ | refine rG ?_ | refine FinQ.now ?_ | refine FinQ.end ?_)))
      refine J_nil ?_
      simp only [go_sem]
      refine .mk (ch, o) ⟨hM2, hB2, hE⟩ ?_ ?_ ?_
      · cases ch
        · simp only [Bool.false_eq_true, if_false, if_true]; omega
        · have := hs2 rfl
          simp only [if_true]; omega
      · simp [go_sem, encNet]
      · simp
end Go.Proofs.YtfkiomkfoabnhaaDoor.Abs
