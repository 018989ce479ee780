/- References: devices beside a region, points of isolation, nearest gaps. -/
import Derived.Test.YtfkiomkfoabnhaaDoorRW
namespace Go.Proofs.YtfkiomkfoabnhaaDoor.Abs
set_option linter.unusedSimpArgs false
set_option linter.unusedVariables false
set_option maxRecDepth 100000
open Go Go.RowKit

theorem regOk {n : Net} {z g : List Int} (h : zoneChk n z = 0) (hg : Gaps n g) : regionR n z g = (regL n z g, 0) := by unfold regionR; rw [if_neg (by simp [fault_ok h hg])]
theorem cutsLen {n : Net} : (cuts n).length ≤ n.devs.length := cutsTo_len
def besB (n : Net) (R : List Int) (g : Int) : Bool := decide ((n.devs.getD g.toNat ⟨⟨#[]⟩, 0, 0, 0, 0⟩).a ∈ R) || (joinsK (n.devs.getD g.toNat ⟨⟨#[]⟩, 0, 0, 0, 0⟩).kind && decide ((n.devs.getD g.toNat ⟨⟨#[]⟩, 0, 0, 0, 0⟩).b ∈ R))
def besTo (n : Net) (R l : List Int) (i : Nat) : List Int := (l.take i).filter (besB n R)
theorem besTo_next {n : Net} {R l : List Int} {i : Nat} (hi : i < l.length) : besTo n R l (i + 1) = besTo n R l i ++ (if besB n R l[i] then [l[i]] else []) := by
  unfold besTo
  rw [List.take_succ_eq_append_getElem hi, List.filter_append]
  congr 1
  simp only [List.filter_cons, List.filter_nil]
theorem besTo_len {n : Net} {R l : List Int} {i : Nat} : (besTo n R l i).length ≤ i := by
  unfold besTo
  exact Nat.le_trans (List.length_filter_le _ _) (by simp; omega)
theorem besB_at {n : Net} (hn : n.ok) {zone gaps : List Int} (hz : rising zone n.nodes.length = true) {g : Int} (h0 : 0 ≤ g) (hg : g < n.devs.length) : besB n (regL n zone gaps) g = atB n zone gaps g := by
  obtain ⟨k, rfl⟩ := Int.eq_ofNat_of_zero_le h0
  have hk : k < n.devs.length := by omega
  have hok := hn.dev' hk
  rw [Bool.eq_iff_iff, besB, Int.toNat_natCast, getD_get hk]
  simp only [Bool.or_eq_true, Bool.and_eq_true, decide_eq_true_eq, atB, Int.toNat_natCast, List.getElem?_eq_getElem hk, Option.some.injEq, exists_eq_left', regL_mem hn hz]
  constructor
  · rintro (h | ⟨h, h2⟩)
    · exact .inl h.2
    · exact .inr ⟨h, h2.2⟩
  · rintro (h | ⟨h, h2⟩)
    · exact .inl ⟨hok.a0, h⟩
    · exact .inr ⟨h, (hok.j h).1, h2⟩
set_option maxHeartbeats 8000000 in
theorem rBeside (n : Net) (hdl : n.devs.length ≤ 64) (R l : List Int) (hR : R.length ≤ 1000000) (hll : l.length ≤ 1000000) (hl : ∀ g, g ∈ l → 0 ≤ g ∧ g < n.devs.length) :
    Fn1 Tryd.prog GT0 43 [.agg (encNet n), .lst 1 (R.map encN), .lst 1 (l.map encN)] (.lst 1 ((l.filter (besB n R)).map encN)) [] := by
  refine holds_of Tryd.func43 rfl rfl ?_
  refine J_run 200 ?_
  delta Tryd.f43
  simp only [encNet]
  iterate 10 (all_goals (try (first
    | (simp (maxSteps := 1000000) (disch := omega) only [go_sem])
    | ((with_reducible first | refine gDt ?_ ?_ | refine gDf ?_ ?_ | refine gNt ?_ ?_ | refine gNf ?_ ?_ | refine cD ?_ ?_ | refine cN ?_ ?_ | refine cB ?_ ?_ | refine gB ?_ ?_) <;> intro h)
    | with_reducible first | refine And.intro ?_ ?_ | refine J_seq ?_ | refine J_block ?_ | refine J_inBlock ?_ | refine rC ?_ | refine rR ?_ | refine rE ?_ | refine rG ?_ | refine FinQ.now ?_ | refine FinQ.end ?_)))
  refine J_nilName 7 1 (by simp only [go_sem]) ?_
  simp only [go_sem]
  refine J_for ([9] ++ upto 10 47) (fun i : Nat => [(8, .raw (.int .i64 i)), (7, .own 1 1 0 (besTo n R l i).length)]) (fun i => [.box (encNet n), .arr 1 ((besTo n R l i).map encN)]) (fun i => i ≤ l.length) (fun i => l.length - i) 0 (by omega) (.le (by simp [go_sem, encNet, besTo]) (by simp)) ?_
  intro i hi
  simp only [encNet]
  have hbl := besTo_len (n := n) (R := R) (l := l) (i := i)
  by_cases hlt : i < l.length
  · have hgl := getD_N hlt
    have hgr := hl _ (List.getElem_mem hlt)
    have hdv := getD_Dv (l := n.devs) (i := l[i].toNat) (by omega)
    have hgd : n.devs.getD l[i].toNat ⟨⟨#[]⟩, 0, 0, 0, 0⟩ = n.devs[l[i].toNat]'(by omega) := getD_get (by omega)
    have ht := besTo_next (n := n) (R := R) hlt
    have hbb : besB n R l[i] = (decide ((n.devs[l[i].toNat]'(by omega)).a ∈ R) || (joinsK (n.devs[l[i].toNat]'(by omega)).kind && decide ((n.devs[l[i].toNat]'(by omega)).b ∈ R))) := by unfold besB; rw [hgd]
    have ca := has R (n.devs[l[i].toNat]'(by omega)).a (by omega)
    have cb := has R (n.devs[l[i].toNat]'(by omega)).b (by omega)
    have cj := rJoins (n.devs[l[i].toNat]'(by omega)).kind
    obtain ⟨a, ha⟩ : ∃ b, decide ((n.devs[l[i].toNat]'(by omega)).a ∈ R) = b := ⟨_, rfl⟩
    obtain ⟨b, hb⟩ : ∃ b, decide ((n.devs[l[i].toNat]'(by omega)).b ∈ R) = b := ⟨_, rfl⟩
    obtain ⟨j, hj⟩ : ∃ b, joinsK (n.devs[l[i].toNat]'(by omega)).kind = b := ⟨_, rfl⟩
    rw [ha] at ca hbb
    rw [hb] at cb hbb
    rw [hj] at cj hbb
    rw [hbb] at ht
    cases a <;> cases j <;> cases b
    all_goals
      refine J_run 200 ?_
      iterate 24 (all_goals (try (first
        | ((with_reducible refine J_draw (id := 5) 200 [] plan43_5 (by kernel_rfl) (by kernel_rfl) ?_); delta plan43_5)
        | (simp (maxSteps := 1000000) (disch := omega) only [go_sem, hgl, hdv])
        | ((with_reducible refine CallA.pure ca ?_ ?_); (· simp (disch := omega) only [go_sem, hgl, hdv]); rintro _ _ ⟨rfl, rfl⟩)
        | ((with_reducible refine CallA.pure cj ?_ ?_); (· simp (disch := omega) only [go_sem, hgl, hdv]); rintro _ _ ⟨rfl, rfl⟩)
        | ((with_reducible refine CallA.pure cb ?_ ?_); (· simp (disch := omega) only [go_sem, hgl, hdv]); rintro _ _ ⟨rfl, rfl⟩)
        | ((with_reducible first | refine gDt ?_ ?_ | refine gDf ?_ ?_ | refine gNt ?_ ?_ | refine gNf ?_ ?_ | refine cD ?_ ?_ | refine cN ?_ ?_ | refine cB ?_ ?_ | refine gB ?_ ?_ | refine stepGuard_dect ?_ ?_ | refine stepGuard_decf ?_ ?_ | refine stepGuard_ndect ?_ ?_ | refine stepGuard_ndecf ?_ ?_ | refine stepGuard_by ?_ ?_) <;> intro h)
        | with_reducible first | refine And.intro ?_ ?_ | refine J_seq ?_ | refine J_block ?_ | refine J_inBlock ?_ | refine rC ?_ | refine rR ?_ | refine rE ?_ | refine rG ?_ | refine FinQ.now ?_ | refine FinQ.end ?_)))
      all_goals
        refine .mk (i + 1) hlt (by omega) ?_ ?_
        · rw [ht]; simp [go_sem, encNet, encN]
        · simp
  have hie : i = l.length := by omega
  subst hie
  refine J_run 200 ?_
  iterate 12 (all_goals (try (first
    | (simp (maxSteps := 1000000) (disch := omega) only [go_sem])
    | ((with_reducible first | refine gDt ?_ ?_ | refine gDf ?_ ?_ | refine gNt ?_ ?_ | refine gNf ?_ ?_ | refine cD ?_ ?_ | refine cN ?_ ?_ | refine cB ?_ ?_ | refine gB ?_ ?_) <;> intro h)
    | with_reducible first | refine And.intro ?_ ?_ | refine J_seq ?_ | refine J_block ?_ | refine J_inBlock ?_ | refine rC ?_ | refine rR ?_ | refine rE ?_ | refine rG ?_)))
  refine .frz [1] (.now ?_)
  simp only [go_sem]
  have e : l.filter (besB n R) = besTo n R l l.length := by unfold besTo; rw [List.take_length]
  rw [e, List.take_of_length_le (by simp)]
theorem bes_filter {n : Net} (hn : n.ok) {zone gaps l : List Int} (hz : rising zone n.nodes.length = true) (hl : ∀ g, g ∈ l → 0 ≤ g ∧ g < n.devs.length) : l.filter (besB n (regL n zone gaps)) = l.filter (atB n zone gaps) :=
  List.filter_congr fun g hg => besB_at hn hz (hl g hg).1 (hl g hg).2
set_option maxHeartbeats 8000000 in
theorem rNearest (n : Net) (hs : n.sized) (zone : List Int) (hzl : zone.length ≤ 1000000) :
    Fn1 Tryd.prog GT0 14 [.agg (encNet n), .lst 1 (zone.map encN)] (.tup [.lst 1 ((nearestR n zone).1.map encN), .raw (.int .i64 (nearestR n zone).2)]) [] := by
  have c := rZone n hs zone hzl
  by_cases h0 : zoneChk n zone = 0
  · obtain ⟨hn, hz0, hz⟩ := zoneChk_zero h0
    have hnl := hn.nl
    have hdl := hn.dl
    rw [h0] at c
    have hcl : (cuts n).length ≤ n.devs.length := cutsLen
    have cE := rEnough n hs zone (cuts n) hzl (by omega)
    have cR := rReach n hn zone (cuts n) (fun x hx => rising_mem hz hx) hzl (by omega)
    have hrg : ∀ g, g ∈ cuts n → 0 ≤ g ∧ g < n.devs.length := fun g hg => rising_mem (cuts_gaps n).up hg
    have hrl := regLen (n := n) (z := zone) (g := cuts n)
    have cB := rBeside n hdl (regL n zone (cuts n)) (cuts n) (by omega) (by omega) hrg
    rw [bes_filter hn hz hrg] at cB
    have hne := nearest_enough hn h0
    have he2 : (enoughR n zone (cuts n)).2 = 0 := by unfold enoughR; rw [if_neg (by simp [fault_ok h0 (cuts_gaps n)])]
    rw [he2, ← hne] at cE
    by_cases hn0 : (nearestR n zone).2 = 0
    · have hs1 := (nearest_some h0 hn0).1
      rw [decide_eq_true hn0] at cE
      have e : nearestR n zone = ((cuts n).filter (atB n zone (cuts n)), 0) := Prod.ext hs1 hn0
      rw [e]
      refine holds_ofV Tryd.func14 rfl rfl ?_
      refine J_run 200 ?_
      delta Tryd.f14
      simp only [encNet] at c cE cR cB ⊢
      iterate 14 (all_goals (try (first
        | (simp (maxSteps := 1000000) (disch := omega) only [go_sem])
        | ((with_reducible refine CallA.pure c ?_ ?_); (· simp (disch := omega) only [go_sem]); rintro _ _ ⟨rfl, rfl⟩)
        | ((with_reducible first | refine gDt ?_ ?_ | refine gDf ?_ ?_ | refine gNt ?_ ?_ | refine gNf ?_ ?_ | refine cD ?_ ?_ | refine cN ?_ ?_ | refine cB ?_ ?_ | refine gB ?_ ?_) <;> intro h)
        | with_reducible first | refine And.intro ?_ ?_ | refine J_seq ?_ | refine J_block ?_ | refine J_inBlock ?_ | refine rC ?_ | refine rR ?_ | refine rE ?_ | refine rG ?_ | refine FinQ.now ?_ | refine FinQ.end ?_)))
      refine J_nilName 7 1 (by simp only [go_sem]) ?_
      simp only [go_sem]
      refine J_for ([9] ++ upto 18 57) (fun i : Nat => [(8, .raw (.int .i64 i)), (7, .own 1 1 0 (cutsTo n i).length)]) (fun i => [.box (encNet n), .arr 1 ((cutsTo n i).map encN)]) (fun i => i ≤ n.devs.length) (fun i => n.devs.length - i) 0 (by omega) (.le (by simp [go_sem, encNet, cutsTo]) (by simp)) ?_
      intro i hi
      simp only [encNet]
      have htl := cutsTo_len (n := n) (i := i)
      by_cases hlt : i < n.devs.length
      · have hdv := getD_Dv hlt
        have ht := cutsTo_next (n := n) (i := i)
        have hic : isCut n i = decide (n.devs[i].kind = 3 ∨ n.devs[i].kind = 6) := by unfold isCut; rw [getD_get hlt]
        by_cases h36 : n.devs[i].kind = 3 ∨ n.devs[i].kind = 6
        · rw [hic, decide_eq_true h36, if_pos rfl] at ht
          refine J_run 200 ?_
          iterate 18 (all_goals (try (first
            | (exfalso; omega)
            | (simp (maxSteps := 1000000) (disch := omega) only [go_sem, hdv])
            | ((with_reducible first | refine gDt ?_ ?_ | refine gDf ?_ ?_ | refine gNt ?_ ?_ | refine gNf ?_ ?_ | refine cD ?_ ?_ | refine cN ?_ ?_ | refine cB ?_ ?_ | refine gB ?_ ?_) <;> intro h)
            | with_reducible first | refine And.intro ?_ ?_ | refine J_seq ?_ | refine J_block ?_ | refine J_inBlock ?_ | refine rC ?_ | refine rR ?_ | refine rE ?_ | refine rG ?_ | refine FinQ.now ?_ | refine FinQ.end ?_)))
          all_goals
            refine .mk (i + 1) hlt (by omega) ?_ ?_
            · rw [ht]; simp [go_sem, encNet, encN]
            · simp
        · rw [hic, decide_eq_false h36, if_neg (by simp), List.append_nil] at ht
          refine J_run 200 ?_
          iterate 18 (all_goals (try (first
            | (exfalso; omega)
            | (simp (maxSteps := 1000000) (disch := omega) only [go_sem, hdv])
            | ((with_reducible first | refine gDt ?_ ?_ | refine gDf ?_ ?_ | refine gNt ?_ ?_ | refine gNf ?_ ?_ | refine cD ?_ ?_ | refine cN ?_ ?_ | refine cB ?_ ?_ | refine gB ?_ ?_) <;> intro h)
            | with_reducible first | refine And.intro ?_ ?_ | refine J_seq ?_ | refine J_block ?_ | refine J_inBlock ?_ | refine rC ?_ | refine rR ?_ | refine rE ?_ | refine rG ?_ | refine FinQ.now ?_ | refine FinQ.end ?_)))
          all_goals
            refine .mk (i + 1) hlt (by omega) ?_ ?_
            · rw [ht]; simp [go_sem, encNet, encN]
            · simp
      have hie : i = n.devs.length := by omega
      subst hie
      rw [← cuts_eq] at *
      refine J_run 200 ?_
      iterate 30 (all_goals (try (first
        | ((with_reducible refine J_draw (id := 14) 200 [] plan14_14 (by kernel_rfl) (by kernel_rfl) ?_); delta plan14_14)
        | (simp (maxSteps := 1000000) (disch := omega) only [go_sem, take_lm])
        | ((with_reducible refine CallA.give [1] ?_ ?_ cE ?_); (· simp (disch := omega) only [go_sem, take_lm]); (· simp (disch := omega) only [go_sem, take_lm]); rintro _ _ ⟨rfl, rfl⟩)
        | ((with_reducible refine CallA.pure cR ?_ ?_); (· simp (disch := omega) only [go_sem, take_lm]); rintro _ _ ⟨rfl, rfl⟩)
        | ((with_reducible refine CallA.pure cB ?_ ?_); (· simp (disch := omega) only [go_sem, take_lm]); rintro _ _ ⟨rfl, rfl⟩)
        | ((with_reducible first | refine gDt ?_ ?_ | refine gDf ?_ ?_ | refine gNt ?_ ?_ | refine gNf ?_ ?_ | refine cD ?_ ?_ | refine cN ?_ ?_ | refine cB ?_ ?_ | refine gB ?_ ?_ | refine stepGuard_dect ?_ ?_ | refine stepGuard_decf ?_ ?_ | refine stepGuard_ndect ?_ ?_ | refine stepGuard_ndecf ?_ ?_ | refine stepGuard_by ?_ ?_) <;> intro h)
        | with_reducible first | refine And.intro ?_ ?_ | refine J_seq ?_ | refine J_block ?_ | refine J_inBlock ?_ | refine rC ?_ | refine rR ?_ | refine rE ?_ | refine rG ?_ | refine FinQ.now ?_ | refine FinQ.end ?_)))
      exact ⟨_, VLe.refl _, rfl, rfl⟩
    · rw [decide_eq_false hn0] at cE
      rw [nearest_none h0 hn0]
      refine holds_ofV Tryd.func14 rfl rfl ?_
      refine J_run 200 ?_
      delta Tryd.f14
      simp only [encNet] at c cE cR cB ⊢
      iterate 14 (all_goals (try (first
        | (simp (maxSteps := 1000000) (disch := omega) only [go_sem])
        | ((with_reducible refine CallA.pure c ?_ ?_); (· simp (disch := omega) only [go_sem]); rintro _ _ ⟨rfl, rfl⟩)
        | ((with_reducible first | refine gDt ?_ ?_ | refine gDf ?_ ?_ | refine gNt ?_ ?_ | refine gNf ?_ ?_ | refine cD ?_ ?_ | refine cN ?_ ?_ | refine cB ?_ ?_ | refine gB ?_ ?_) <;> intro h)
        | with_reducible first | refine And.intro ?_ ?_ | refine J_seq ?_ | refine J_block ?_ | refine J_inBlock ?_ | refine rC ?_ | refine rR ?_ | refine rE ?_ | refine rG ?_ | refine FinQ.now ?_ | refine FinQ.end ?_)))
      refine J_nilName 7 1 (by simp only [go_sem]) ?_
      simp only [go_sem]
      refine J_for ([9] ++ upto 18 57) (fun i : Nat => [(8, .raw (.int .i64 i)), (7, .own 1 1 0 (cutsTo n i).length)]) (fun i => [.box (encNet n), .arr 1 ((cutsTo n i).map encN)]) (fun i => i ≤ n.devs.length) (fun i => n.devs.length - i) 0 (by omega) (.le (by simp [go_sem, encNet, cutsTo]) (by simp)) ?_
      intro i hi
      simp only [encNet]
      have htl := cutsTo_len (n := n) (i := i)
      by_cases hlt : i < n.devs.length
      · have hdv := getD_Dv hlt
        have ht := cutsTo_next (n := n) (i := i)
        have hic : isCut n i = decide (n.devs[i].kind = 3 ∨ n.devs[i].kind = 6) := by unfold isCut; rw [getD_get hlt]
        by_cases h36 : n.devs[i].kind = 3 ∨ n.devs[i].kind = 6
        · rw [hic, decide_eq_true h36, if_pos rfl] at ht
          refine J_run 200 ?_
          iterate 18 (all_goals (try (first
            | (exfalso; omega)
            | (simp (maxSteps := 1000000) (disch := omega) only [go_sem, hdv])
            | ((with_reducible first | refine gDt ?_ ?_ | refine gDf ?_ ?_ | refine gNt ?_ ?_ | refine gNf ?_ ?_ | refine cD ?_ ?_ | refine cN ?_ ?_ | refine cB ?_ ?_ | refine gB ?_ ?_) <;> intro h)
            | with_reducible first | refine And.intro ?_ ?_ | refine J_seq ?_ | refine J_block ?_ | refine J_inBlock ?_ | refine rC ?_ | refine rR ?_ | refine rE ?_ | refine rG ?_ | refine FinQ.now ?_ | refine FinQ.end ?_)))
          all_goals
            refine .mk (i + 1) hlt (by omega) ?_ ?_
            · rw [ht]; simp [go_sem, encNet, encN]
            · simp
        · rw [hic, decide_eq_false h36, if_neg (by simp), List.append_nil] at ht
          refine J_run 200 ?_
          iterate 18 (all_goals (try (first
            | (exfalso; omega)
            | (simp (maxSteps := 1000000) (disch := omega) only [go_sem, hdv])
            | ((with_reducible first | refine gDt ?_ ?_ | refine gDf ?_ ?_ | refine gNt ?_ ?_ | refine gNf ?_ ?_ | refine cD ?_ ?_ | refine cN ?_ ?_ | refine cB ?_ ?_ | refine gB ?_ ?_) <;> intro h)
            | with_reducible first | refine And.intro ?_ ?_ | refine J_seq ?_ | refine J_block ?_ | refine J_inBlock ?_ | refine rC ?_ | refine rR ?_ | refine rE ?_ | refine rG ?_ | refine FinQ.now ?_ | refine FinQ.end ?_)))
          all_goals
            refine .mk (i + 1) hlt (by omega) ?_ ?_
            · rw [ht]; simp [go_sem, encNet, encN]
            · simp
      have hie : i = n.devs.length := by omega
      subst hie
      rw [← cuts_eq] at *
      refine J_run 200 ?_
      iterate 30 (all_goals (try (first
        | (simp (maxSteps := 1000000) (disch := omega) only [go_sem, take_lm])
        | ((with_reducible refine CallA.give [1] ?_ ?_ cE ?_); (· simp (disch := omega) only [go_sem, take_lm]); (· simp (disch := omega) only [go_sem, take_lm]); rintro _ _ ⟨rfl, rfl⟩)
        | ((with_reducible first | refine gDt ?_ ?_ | refine gDf ?_ ?_ | refine gNt ?_ ?_ | refine gNf ?_ ?_ | refine cD ?_ ?_ | refine cN ?_ ?_ | refine cB ?_ ?_ | refine gB ?_ ?_) <;> intro h)
        | with_reducible first | refine And.intro ?_ ?_ | refine J_seq ?_ | refine J_block ?_ | refine J_inBlock ?_ | refine rC ?_ | refine rR ?_ | refine rE ?_ | refine rG ?_ | refine FinQ.now ?_ | refine FinQ.end ?_)))
      exact ⟨_, .tup (.cons (.nilLst 1) (VLes.refl _)), rfl, rfl⟩
  · have e : nearestR n zone = ([], zoneChk n zone) := by unfold nearestR; rw [if_pos h0]
    rw [e]
    refine holds_ofV Tryd.func14 rfl rfl ?_
    refine J_run 200 ?_
    delta Tryd.f14
    simp only [encNet] at c ⊢
    iterate 12 (all_goals (try (first
      | (simp (maxSteps := 1000000) (disch := omega) only [go_sem, h0, ne_eq, not_false_eq_true, decide_true])
      | ((with_reducible refine CallA.pure c ?_ ?_); (· simp (disch := omega) only [go_sem, h0, ne_eq, not_false_eq_true, decide_true]); rintro _ _ ⟨rfl, rfl⟩)
      | ((with_reducible first | refine gDt ?_ ?_ | refine gDf ?_ ?_ | refine gNt ?_ ?_ | refine gNf ?_ ?_ | refine cD ?_ ?_ | refine cN ?_ ?_ | refine cB ?_ ?_ | refine gB ?_ ?_) <;> intro h)
      | with_reducible first | refine And.intro ?_ ?_ | refine J_seq ?_ | refine J_block ?_ | refine J_inBlock ?_ | refine rC ?_ | refine rR ?_ | refine rE ?_ | refine rG ?_ | refine FinQ.now ?_ | refine FinQ.end ?_)))
    exact ⟨_, .tup (.cons (.nilLst 1) (VLes.refl _)), rfl, rfl⟩
end Go.Proofs.YtfkiomkfoabnhaaDoor.Abs
