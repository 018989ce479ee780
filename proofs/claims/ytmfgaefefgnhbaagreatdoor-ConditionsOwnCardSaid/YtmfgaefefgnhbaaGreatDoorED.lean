/- Earthing in the program: what counts, what is missing. -/
import Derived.Test.YtmfgaefefgnhbaaGreatDoorEC
import Derived.Test.YtmfgaefefgnhbaaGreatDoorR4
import Derived.Test.YtmfgaefefgnhbaaGreatDoorZ4
import Derived.Test.YtmfgaefefgnhbaaGreatDoorZNear
namespace Go.Proofs.YtmfgaefefgnhbaaGreatDoor.Abs
set_option linter.unusedSimpArgs false
set_option linter.unusedVariables false
set_option maxRecDepth 100000
open Go Go.RowKit

theorem frzTup {xs : List Int} {e : AV} (he : e.leafs (frzOwn 1 (xs.map encN)) = e) : (AV.tup [.own 0 1 0 xs.length, e]).leafs (frzOwn 1 (xs.map encN)) = .tup [.lst 1 (xs.map encN), e] := by
  simp only [AV.leafs, AV.leafsL, frzOwn, if_true, List.drop_zero]
  rw [List.take_of_length_le (by simp), he]
noncomputable def earthsR (n : Net) (l : List Lk) : List Int × Int := if lockChk n l ≠ 0 then ([], lockChk n l) else (earthsOf n l, 0)
theorem gapsL (n : Net) (hs : n.sized) (l : List Lk) (hl : l.length ≤ 1000000) :
    Fn1 Tryz.prog GT0 102 [.agg (encNet n), .lst 3 (l.map encLk)] (.tup [.lst 1 ((gapsR n l).1.map encN), .raw (.int .i64 (gapsR n l).2)]) [] := by
  have e : thoseR n l 1 gapK = gapsR n l := by unfold thoseR gapsR; rw [gapsOf_those]
  have c := gapsF n hs l hl
  rw [e] at c
  exact c.lst _ (frzTup rfl)
theorem earths1 (k : Int) : Fn1 Tryz.prog GT0 145 [.raw (.int .i64 k)] (.raw (.bool (decide (k = 4)))) [] := by
  refine holds_of Tryz.func145 rfl rfl ?_
  refine J_run 200 ?_
  delta Tryz.f145
  repeat' (first
    | (simp (maxSteps := 1000000) (disch := omega) only [go_sem])
    | ((with_reducible first | refine gDt ?_ ?_ | refine gDf ?_ ?_ | refine gNt ?_ ?_ | refine gNf ?_ ?_ | refine cD ?_ ?_ | refine cN ?_ ?_ | refine cB ?_ ?_ | refine gB ?_ ?_) <;> intro h)
    | with_reducible first | refine And.intro ?_ ?_ | refine J_seq ?_ | refine J_block ?_ | refine J_inBlock ?_ | refine rC ?_ | refine rR ?_ | refine rE ?_ | refine rG ?_ | refine FinQ.now ?_ | refine FinQ.end ?_)
theorem earthsF (n : Net) (hs : n.sized) (l : List Lk) (hl : l.length ≤ 1000000) :
    Fn1 Tryz.prog GT0 131 [.agg (encNet n), .lst 3 (l.map encLk)] (.tup [.lst 1 ((earthsR n l).1.map encN), .raw (.int .i64 (earthsR n l).2)]) [] := by
  have c := thoseF n hs l hl 2 145 (fun k => decide (k = 4)) earths1
  have e : thoseR n l 2 (fun k => decide (k = 4)) = earthsR n l := by unfold thoseR earthsR; rw [earthsOf_those]
  rw [e] at c
  have c2 := c.lst (.tup [.lst 1 ((earthsR n l).1.map encN), .raw (.int .i64 (earthsR n l).2)]) (frzTup rfl)
  refine holds_of Tryz.func131 rfl rfl ?_
  refine J_run 200 ?_
  delta Tryz.f131
  simp only [encNet] at c2 ⊢
  repeat' (first
    | (simp (maxSteps := 1000000) (disch := omega) only [go_sem])
    | ((with_reducible refine CallA.pure c2 ?_ ?_); (· simp (disch := omega) only [go_sem]); rintro _ _ ⟨rfl, rfl⟩)
    | ((with_reducible first | refine gDt ?_ ?_ | refine gDf ?_ ?_ | refine gNt ?_ ?_ | refine gNf ?_ ?_ | refine cD ?_ ?_ | refine cN ?_ ?_ | refine cB ?_ ?_ | refine gB ?_ ?_) <;> intro h)
    | with_reducible first | refine And.intro ?_ ?_ | refine J_seq ?_ | refine J_block ?_ | refine J_inBlock ?_ | refine rC ?_ | refine rR ?_ | refine rE ?_ | refine rG ?_ | refine FinQ.now ?_ | refine FinQ.end ?_)
theorem earthsOf_len {n : Net} {l : List Lk} : (earthsOf n l).length ≤ n.devs.length := by rw [earthsOf_those]; exact thoseTo_len
theorem mem_earthsOf {n : Net} {l : List Lk} {i : Int} (h : i ∈ earthsOf n l) : 0 ≤ i ∧ i < n.devs.length := by
  simp only [earthsOf, List.mem_map, List.mem_filter, List.mem_range] at h
  obtain ⟨j, ⟨h1, _⟩, rfl⟩ := h
  exact ⟨Int.natCast_nonneg _, by show (j : Int) < _; omega⟩
set_option maxHeartbeats 2000000 in
theorem RegionO (n : Net) (hs : n.sized) (zone gaps : List Int) (hzl : zone.length ≤ 1000000) (hgl : gaps.length ≤ 1000000) :
    Fn1 Tryz.prog GT0 132 [.agg (encNet n), .lst 1 (zone.map encN), .lst 1 (gaps.map encN)] (.tup [.own 0 1 0 (regionR n zone gaps).1.length, .raw (.int .i64 (regionR n zone gaps).2)]) [.arr 1 ((regionR n zone gaps).1.map encN)] := by
  have c := faultF n hs zone gaps hzl hgl
  by_cases h0 : fault n zone gaps = 0
  · obtain ⟨hn, hz0, hz⟩ := zoneChk_zero (fault_zone h0)
    have hnl := hn.nl
    have ce := regionF n hn zone gaps (fun x hx => rising_mem hz hx) hzl hgl
    have hr : regionR n zone gaps = (regL n zone gaps, 0) := by unfold regionR; rw [if_neg (by simp [h0])]
    have hL := regB_len (n := n) (zone := zone) (gaps := gaps)
    rw [h0] at c
    rw [hr]
    refine holds_of Tryz.func132 rfl rfl ?_
    refine J_run 200 ?_
    delta Tryz.f132
    simp only [encNet] at c ce ⊢
    repeat' (first
      | (simp (maxSteps := 1000000) (disch := omega) only [go_sem])
      | ((with_reducible refine CallA.pure c ?_ ?_); (· simp (disch := omega) only [go_sem]); rintro _ _ ⟨rfl, rfl⟩)
      | ((with_reducible refine CallA.pure ce ?_ ?_); (· simp (disch := omega) only [go_sem]); rintro _ _ ⟨rfl, rfl⟩)
      | ((with_reducible first | refine gDt ?_ ?_ | refine gDf ?_ ?_ | refine gNt ?_ ?_ | refine gNf ?_ ?_ | refine cD ?_ ?_ | refine cN ?_ ?_ | refine cB ?_ ?_ | refine gB ?_ ?_) <;> intro h)
      | with_reducible first | refine And.intro ?_ ?_ | refine J_seq ?_ | refine J_block ?_ | refine J_inBlock ?_ | refine rC ?_ | refine rR ?_ | refine rE ?_ | refine rG ?_ | refine FinQ.now ?_ | refine FinQ.end ?_)
    refine J_nilName 9 1 (by simp only [go_sem]) ?_
    simp only [go_sem]
    refine J_for ([10, 11] ++ upto 25 34) (fun i : Nat => [(24, .raw (.int .i64 i)), (9, .own 1 1 0 (truesTo (regB n zone gaps) i).length)]) (fun i => [.box [.lst 3 (n.nodes.map encNd), .lst 5 (n.devs.map encDv)], .arr 1 ((truesTo (regB n zone gaps) i).map encN)]) (fun i => i ≤ n.nodes.length) (fun i => n.nodes.length - i) 0 (by omega) (.le (by simp [go_sem, truesTo]) (by simp)) ?_
    intro i hi
    have htl := truesTo_len (l := regB n zone gaps) (i := i)
    by_cases hlt : i < n.nodes.length
    · have hg := getD_B (l := regB n zone gaps) (i := i) (by omega)
      have hgd : (regB n zone gaps).getD i false = (regB n zone gaps)[i] := by simp [List.getD_eq_getElem?_getD, show i < (regB n zone gaps).length by omega]
      have ht := truesTo_next (l := regB n zone gaps) (i := i)
      obtain ⟨o, ho⟩ : ∃ o, (regB n zone gaps)[i]'(by omega) = o := ⟨_, rfl⟩
      rw [hgd, ho] at ht
      rw [ho] at hg
      cases o
      all_goals
        refine J_run 200 ?_
        iterate 14 (all_goals (try (first
          | (simp (maxSteps := 1000000) (disch := omega) only [go_sem, hg])
          | ((with_reducible first | refine gDt ?_ ?_ | refine gDf ?_ ?_ | refine gNt ?_ ?_ | refine gNf ?_ ?_ | refine cD ?_ ?_ | refine cN ?_ ?_ | refine cB ?_ ?_ | refine gB ?_ ?_) <;> intro h)
          | with_reducible first | refine And.intro ?_ ?_ | refine J_seq ?_ | refine J_block ?_ | refine J_inBlock ?_ | refine rC ?_ | refine rR ?_ | refine rE ?_ | refine rG ?_ | refine FinQ.now ?_ | refine FinQ.end ?_)))
        refine .mk (i + 1) hlt (by omega) ?_ ?_
        · rw [ht]; simp [go_sem, encN]
        · simp
    have hie : i = n.nodes.length := by omega
    subst hie
    have e : regL n zone gaps = truesTo (regB n zone gaps) n.nodes.length := by unfold regL trues truesTo; rw [hL]
    rw [e]
    refine J_run 200 ?_
    iterate 12 (all_goals (try (first
      | (simp (maxSteps := 1000000) (disch := omega) only [go_sem])
      | ((with_reducible first | refine gDt ?_ ?_ | refine gDf ?_ ?_ | refine gNt ?_ ?_ | refine gNf ?_ ?_ | refine cD ?_ ?_ | refine cN ?_ ?_ | refine cB ?_ ?_ | refine gB ?_ ?_) <;> intro h)
      | with_reducible first | refine And.intro ?_ ?_ | refine J_seq ?_ | refine J_block ?_ | refine J_inBlock ?_ | refine rC ?_ | refine rR ?_ | refine rE ?_ | refine rG ?_)))
    refine .now ?_
    simp only [go_sem]
  · have hr : regionR n zone gaps = ([], fault n zone gaps) := by unfold regionR; rw [if_pos h0]
    rw [hr]
    refine holds_of Tryz.func132 rfl rfl ?_
    refine J_run 200 ?_
    delta Tryz.f132
    simp only [encNet] at c ⊢
    iterate 12 (all_goals (try (first
      | (exfalso; omega)
      | (simp (maxSteps := 1000000) (disch := omega) only [go_sem])
      | ((with_reducible refine CallA.pure c ?_ ?_); (· simp (disch := omega) only [go_sem]); rintro _ _ ⟨rfl, rfl⟩)
      | ((with_reducible first | refine gDt ?_ ?_ | refine gDf ?_ ?_ | refine gNt ?_ ?_ | refine gNf ?_ ?_ | refine cD ?_ ?_ | refine cN ?_ ?_ | refine cB ?_ ?_ | refine gB ?_ ?_) <;> intro h)
      | with_reducible first | refine And.intro ?_ ?_ | refine J_seq ?_ | refine J_block ?_ | refine J_inBlock ?_ | refine rC ?_ | refine rR ?_ | refine rE ?_ | refine rG ?_)))
    refine .nilName 6 1 (by simp only [go_sem]) (.now ?_)
    simp only [go_sem]
theorem counted2 (n : Net) (v : Int) (i : Int) (h0 : 0 ≤ i) (hi : i < n.devs.length) : Fn1 Tryz.prog GT0 136 [.raw (.int .i64 i), .cptr (encNet n), .cptr [.raw (.int .i64 v)]] (.raw (.bool (decide ((n.devs.getD i.toNat ⟨⟨#[]⟩, 0, 0, 0, 0⟩).a = v)))) [] := by
  have hd := getD_Dv (l := n.devs) (i := i.toNat) (by omega)
  rw [getD_get (l := n.devs) (i := i.toNat) (by omega)]
  refine holds_of Tryz.func136 rfl rfl ?_
  refine J_run 200 ?_
  delta Tryz.f136
  simp only [encNet]
  iterate 14 (all_goals (try (first
    | ((with_reducible refine J_draw (id := 1) 200 [] plan136_1 (by kernel_rfl) (by kernel_rfl) ?_); delta plan136_1)
    | (simp (maxSteps := 1000000) (disch := omega) only [go_sem, hd])
    | ((with_reducible first | refine gDt ?_ ?_ | refine gDf ?_ ?_ | refine gNt ?_ ?_ | refine gNf ?_ ?_ | refine cD ?_ ?_ | refine cN ?_ ?_ | refine cB ?_ ?_ | refine gB ?_ ?_ | refine stepGuard_dect ?_ ?_ | refine stepGuard_decf ?_ ?_ | refine stepGuard_ndect ?_ ?_ | refine stepGuard_ndecf ?_ ?_ | refine stepGuard_by ?_ ?_) <;> intro h)
    | with_reducible first | refine And.intro ?_ ?_ | refine J_seq ?_ | refine J_block ?_ | refine J_inBlock ?_ | refine rC ?_ | refine rR ?_ | refine rE ?_ | refine rG ?_ | refine FinQ.now ?_ | refine FinQ.end ?_)))
theorem counted1 (n : Net) (hdl : n.devs.length ≤ 64) (l : List Int) (hll : l.length ≤ 1000000) (hl : ∀ i, i ∈ l → 0 ≤ i ∧ i < n.devs.length) (v : Int) : Fn1 Tryz.prog GT0 134 [.raw (.int .i64 v), .cptr [.lst 1 (l.map encN)], .cptr (encNet n)] (.raw (.bool (!earthAt n l v))) [] := by
  have c := containsFunc l 136 [.cptr (encNet n), .cptr [.raw (.int .i64 v)]] rfl (fun i => decide ((n.devs.getD i.toNat ⟨⟨#[]⟩, 0, 0, 0, 0⟩).a = v)) (by omega) fun i hi => counted2 n v i (hl i hi).1 (hl i hi).2
  rw [show l.any (fun i => decide ((n.devs.getD i.toNat ⟨⟨#[]⟩, 0, 0, 0, 0⟩).a = v)) = earthAt n l v from rfl] at c
  refine holds_of Tryz.func134 rfl rfl ?_
  refine J_run 200 ?_
  delta Tryz.f134
  simp only [encNet] at c ⊢
  iterate 10 (all_goals (try (first
    | (simp (maxSteps := 1000000) (disch := omega) only [go_sem])
    | ((with_reducible refine CallA.give [0] ?_ ?_ c ?_); (· simp (disch := omega) only [go_sem]); (· simp (disch := omega) only [go_sem]); rintro _ _ ⟨rfl, rfl⟩)
    | ((with_reducible first | refine gDt ?_ ?_ | refine gDf ?_ ?_ | refine gNt ?_ ?_ | refine gNf ?_ ?_ | refine cD ?_ ?_ | refine cN ?_ ?_ | refine cB ?_ ?_ | refine gB ?_ ?_) <;> intro h)
    | with_reducible first | refine And.intro ?_ ?_ | refine J_seq ?_ | refine J_block ?_ | refine J_inBlock ?_ | refine rC ?_ | refine rR ?_ | refine rE ?_ | refine rG ?_ | refine FinQ.now ?_ | refine FinQ.end ?_)))
set_option maxHeartbeats 4000000 in
theorem countedF (n : Net) (hs : n.sized) (l : List Lk) (hl : l.length ≤ 1000000) (z : List Int) (hz : z.length ≤ 1000000) :
    Fn1 Tryz.prog GT0 105 [.agg (encNet n), .lst 3 (l.map encLk), .lst 1 (z.map encN)] (.tup [.lst 1 ((countedR n l z).1.map encN), .raw (.int .i64 (countedR n l z).2)]) [] := by
  have c := earthsF n hs l hl
  have cg := gapsL n hs l hl
  by_cases h0 : lockChk n l = 0
  · have hn := (lockChk_ok h0).1
    have hdl := hn.dl
    have hnl := hn.nl
    have hgl := gapsOf_len (n := n) (l := l)
    have hel := earthsOf_len (n := n) (l := l)
    have e1 : earthsR n l = (earthsOf n l, 0) := by unfold earthsR; rw [if_neg (by simp [h0])]
    have e2 : gapsR n l = (gapsOf n l, 0) := by unfold gapsR; rw [if_neg (by simp [h0])]
    have el : lockedE n l z = zoneChk n z := by unfold lockedE; rw [if_neg (by simp [h0])]
    have cr := RegionO n hs z (gapsOf n l) hz (by omega)
    rw [e1] at c
    rw [e2] at cg
    by_cases hz0 : zoneChk n z = 0
    · have e3 : regionR n z (gapsOf n l) = (regL n z (gapsOf n l), 0) := by unfold regionR; rw [if_neg (by simp [fault_ok hz0 (gapsOf_gaps n l)])]
      have er : countedR n l z = (countL n l z, 0) := by unfold countedR; rw [el, if_neg (by simp [hz0])]
      have hrl := reg_len (n := n) (z := z) (g := gapsOf n l)
      have cd := deleteFunc (regL n z (gapsOf n l)) 134 [.cptr [.lst 1 ((earthsOf n l).map encN)], .cptr (encNet n)] rfl (fun v => !earthAt n (earthsOf n l) v) (by omega) fun v _ => counted1 n hdl (earthsOf n l) (by omega) (fun i hi => mem_earthsOf hi) v
      rw [e3] at cr
      rw [er]
      simp only [Bool.not_not] at cd
      rw [show List.filter (fun y => earthAt n (earthsOf n l) y) (regL n z (gapsOf n l)) = countL n l z from rfl] at cd
      refine holds_ofV Tryz.func105 rfl rfl ?_
      refine J_run 200 ?_
      delta Tryz.f105
      simp only [encNet] at c cg cr cd ⊢
      iterate 20 (all_goals (try (first
        | (simp (maxSteps := 1000000) (disch := omega) only [go_sem])
        | ((with_reducible refine CallA.pure c ?_ ?_); (· simp (disch := omega) only [go_sem]); rintro _ _ ⟨rfl, rfl⟩)
        | ((with_reducible refine CallA.pure cg ?_ ?_); (· simp (disch := omega) only [go_sem]); rintro _ _ ⟨rfl, rfl⟩)
        | ((with_reducible refine CallA.pure cr ?_ ?_); (· simp (disch := omega) only [go_sem]); rintro _ _ ⟨rfl, rfl⟩)
        | ((with_reducible first | refine gDt ?_ ?_ | refine gDf ?_ ?_ | refine gNt ?_ ?_ | refine gNf ?_ ?_ | refine cD ?_ ?_ | refine cN ?_ ?_ | refine cB ?_ ?_ | refine gB ?_ ?_) <;> intro h)
        | with_reducible first | refine And.intro ?_ ?_ | refine J_seq ?_ | refine J_block ?_ | refine J_inBlock ?_ | refine rC ?_ | refine rR ?_ | refine rE ?_ | refine rG ?_ | refine FinQ.now ?_ | refine FinQ.end ?_)))
      refine CallA.mutKeep [2] [0, 1] ?_ ?_ ?_ ?_ cd ?_
      · simp only [go_sem]
      · simp only [go_sem]
      · simp only [go_sem]
      · simp only [go_sem]
      rintro _ _ ⟨rfl, rfl⟩
      refine ⟨⟨rfl, fun o ho => by rw [List.mem_singleton] at ho; subst ho; exact flatN0 _ _⟩, ?_⟩
      iterate 8 (all_goals (try (first
        | (simp (maxSteps := 1000000) (disch := omega) only [go_sem])
        | ((with_reducible first | refine gDt ?_ ?_ | refine gDf ?_ ?_ | refine gNt ?_ ?_ | refine gNf ?_ ?_ | refine cD ?_ ?_ | refine cN ?_ ?_ | refine cB ?_ ?_ | refine gB ?_ ?_) <;> intro h)
        | with_reducible first | refine And.intro ?_ ?_ | refine J_seq ?_ | refine J_block ?_ | refine J_inBlock ?_ | refine rC ?_ | refine rR ?_ | refine rE ?_ | refine rG ?_)))
      refine .frz [2] (.now ?_)
      simp only [go_sem]
      rw [List.take_append_of_le_length (by simp), List.take_of_length_le (by simp)]
      exact ⟨_, VLe.refl _, rfl, rfl⟩
    · have hf : fault n z (gapsOf n l) = zoneChk n z := by unfold fault; rw [if_pos hz0]
      have e3 : regionR n z (gapsOf n l) = ([], zoneChk n z) := by unfold regionR; rw [hf, if_pos hz0]
      have er : countedR n l z = ([], zoneChk n z) := by unfold countedR; rw [el, if_pos hz0]
      rw [e3] at cr
      rw [er]
      refine holds_ofV Tryz.func105 rfl rfl ?_
      refine J_run 200 ?_
      delta Tryz.f105
      simp only [encNet] at c cg cr ⊢
      iterate 20 (all_goals (try (first
        | (simp (maxSteps := 1000000) (disch := omega) only [go_sem, hz0, ne_eq, not_false_eq_true, decide_true])
        | ((with_reducible refine CallA.pure c ?_ ?_); (· simp (disch := omega) only [go_sem, hz0, ne_eq, not_false_eq_true, decide_true]); rintro _ _ ⟨rfl, rfl⟩)
        | ((with_reducible refine CallA.pure cg ?_ ?_); (· simp (disch := omega) only [go_sem, hz0, ne_eq, not_false_eq_true, decide_true]); rintro _ _ ⟨rfl, rfl⟩)
        | ((with_reducible refine CallA.pure cr ?_ ?_); (· simp (disch := omega) only [go_sem, hz0, ne_eq, not_false_eq_true, decide_true]); rintro _ _ ⟨rfl, rfl⟩)
        | ((with_reducible first | refine gDt ?_ ?_ | refine gDf ?_ ?_ | refine gNt ?_ ?_ | refine gNf ?_ ?_ | refine cD ?_ ?_ | refine cN ?_ ?_ | refine cB ?_ ?_ | refine gB ?_ ?_) <;> intro h)
        | with_reducible first | refine And.intro ?_ ?_ | refine J_seq ?_ | refine J_block ?_ | refine J_inBlock ?_ | refine rC ?_ | refine rR ?_ | refine rE ?_ | refine rG ?_ | refine FinQ.now ?_ | refine FinQ.end ?_)))
      exact ⟨_, .tup (.cons (.nilLst 1) (VLes.refl _)), rfl, rfl⟩
  · have e1 : earthsR n l = ([], lockChk n l) := by unfold earthsR; rw [if_pos h0]
    have er : countedR n l z = ([], lockChk n l) := by
      have el : lockedE n l z = lockChk n l := by unfold lockedE; rw [if_pos h0]
      unfold countedR
      rw [el, if_pos h0]
    rw [e1] at c
    rw [er]
    refine holds_ofV Tryz.func105 rfl rfl ?_
    refine J_run 200 ?_
    delta Tryz.f105
    simp only [encNet] at c ⊢
    iterate 14 (all_goals (try (first
      | (simp (maxSteps := 1000000) (disch := omega) only [go_sem, h0, ne_eq, not_false_eq_true, decide_true])
      | ((with_reducible refine CallA.pure c ?_ ?_); (· simp (disch := omega) only [go_sem, h0, ne_eq, not_false_eq_true, decide_true]); rintro _ _ ⟨rfl, rfl⟩)
      | ((with_reducible first | refine gDt ?_ ?_ | refine gDf ?_ ?_ | refine gNt ?_ ?_ | refine gNf ?_ ?_ | refine cD ?_ ?_ | refine cN ?_ ?_ | refine cB ?_ ?_ | refine gB ?_ ?_) <;> intro h)
      | with_reducible first | refine And.intro ?_ ?_ | refine J_seq ?_ | refine J_block ?_ | refine J_inBlock ?_ | refine rC ?_ | refine rR ?_ | refine rE ?_ | refine rG ?_ | refine FinQ.now ?_ | refine FinQ.end ?_)))
    exact ⟨_, .tup (.cons (.nilLst 1) (VLes.refl _)), rfl, rfl⟩
end Go.Proofs.YtmfgaefefgnhbaaGreatDoor.Abs
