/- EarthingInside, walked: it returns true. -/
import Derived.Test.YthgcmeniecaemaaDoorEUn
import Derived.Test.YthgcmeniecaemaaDoorEL
import Derived.Test.YthgcmeniecaemaaDoorR3
import Derived.Test.YthgcmeniecaemaaDoorR2
import Derived.Test.YthgcmeniecaemaaDoorRW
namespace Go.Proofs.YthgcmeniecaemaaDoor.Abs
set_option linter.unusedSimpArgs false
set_option linter.unusedVariables false
set_option maxRecDepth 100000
open Go Go.RowKit

/-- Whether an earth of a list is at a node, so far. -/
def earthUp (n : Net) (es : List Int) (j : Nat) (v : Int) : Bool := (es.take j).any fun i => decide ((n.devs.getD i.toNat ⟨⟨#[]⟩, 0, 0, 0, 0⟩).a = v)
theorem earthUp_next {n : Net} {es : List Int} {j : Nat} {v : Int} (hj : j < es.length) : earthUp n es (j + 1) v = (earthUp n es j v || decide ((n.devs.getD es[j].toNat ⟨⟨#[]⟩, 0, 0, 0, 0⟩).a = v)) := by
  unfold earthUp
  rw [List.take_succ_eq_append_getElem hj, List.any_append]
  simp
theorem earthUp_all {n : Net} {es : List Int} {v : Int} : earthUp n es es.length v = earthAt n es v := by unfold earthUp earthAt; rw [List.take_length]
def isWant (n : Net) (es R : List Int) (v : Nat) : Bool := earthAt n es v && decide ((v : Int) ∈ R)
/-- What is wanted while the earths are looked at for a node. -/
def wantMid (n : Net) (es R : List Int) (v j : Nat) : List Int := pickTo (isWant n es R) v ++ if earthUp n es j v && decide ((v : Int) ∈ R) then [(v : Int)] else []
theorem wantMid_zero {n : Net} {es R : List Int} {v : Nat} : wantMid n es R v 0 = pickTo (isWant n es R) v := by simp [wantMid, earthUp]
theorem wantMid_all {n : Net} {es R : List Int} {v : Nat} : wantMid n es R v es.length = pickTo (isWant n es R) (v + 1) := by
  rw [wantMid, pickTo_next, earthUp_all]; rfl
theorem wantMid_len {n : Net} {es R : List Int} {v j : Nat} : (wantMid n es R v j).length ≤ v + 1 := by
  have := pickTo_len (p := isWant n es R) (i := v)
  unfold wantMid
  split <;> simp <;> omega
theorem mem_wantMid {n : Net} {es R : List Int} {v j : Nat} : (v : Int) ∈ wantMid n es R v j ↔ (earthUp n es j v && decide ((v : Int) ∈ R)) = true := by
  unfold wantMid
  have h : (v : Int) ∉ pickTo (isWant n es R) v := fun h => by
    obtain ⟨j, h1, h2, _⟩ := mem_pickTo.1 h
    omega
  split
  · rename_i e; simp [e]
  · rename_i e; simp [e, h]
theorem want_all {n : Net} (hn : n.ok) {l : List Lk} {z : List Int} (hz : rising z n.nodes.length = true) : pickTo (isWant n (earthsOf n l) (regL n z (gapsOf n l))) n.nodes.length = countL n l z := by
  have hr : rising (regL n z (gapsOf n l)) n.nodes.length = true := by
    unfold regL trues
    rw [regB_len]; exact rising_map
  refine rising_ext (pickTo_up) (rising_filter hr) fun x => ?_
  rw [mem_pickTo, countL, List.mem_filter]
  constructor
  · rintro ⟨j, rfl, h1, h2⟩
    simp only [isWant, Bool.and_eq_true, decide_eq_true_eq] at h2
    exact ⟨h2.2, h2.1⟩
  · rintro ⟨h1, h2⟩
    have h3 := rising_mem hr h1
    refine ⟨x.toNat, by omega, by omega, ?_⟩
    simp only [isWant, Bool.and_eq_true, decide_eq_true_eq, Int.toNat_of_nonneg h3.1]
    exact ⟨h2, h1⟩
theorem rEarths (n : Net) (hs : n.sized) (l : List Lk) (hl : l.length ≤ 1000000) :
    Fn1 Tryd.prog GT0 26 [.agg (encNet n), .lst 3 (l.map encLk)] (.tup [.lst 1 ((earthsR n l).1.map encN), .raw (.int .i64 (earthsR n l).2)]) [] := by
  have c := rLockChk n hs l hl
  by_cases h0 : lockChk n l = 0
  · have hr : earthsR n l = (earthsOf n l, 0) := by unfold earthsR; rw [if_neg (by simp [h0])]
    have cs := rSome n hs (by have := (lockChk_ok h0).1.dl; omega) l hl 2 true
    rw [← earthsOf_some] at cs
    rw [h0] at c
    rw [hr]
    refine holds_of Tryd.func26 rfl rfl ?_
    refine J_run 200 ?_
    delta Tryd.f26
    simp only [encNet] at c cs ⊢
    repeat' (first
      | (simp (maxSteps := 1000000) (disch := omega) only [go_sem])
      | ((with_reducible refine CallA.pure c ?_ ?_); (· simp (disch := omega) only [go_sem]); rintro _ _ ⟨rfl, rfl⟩)
      | ((with_reducible refine CallA.pure cs ?_ ?_); (· simp (disch := omega) only [go_sem]); rintro _ _ ⟨rfl, rfl⟩)
      | ((with_reducible first | refine gDt ?_ ?_ | refine gDf ?_ ?_ | refine gNt ?_ ?_ | refine gNf ?_ ?_ | refine cD ?_ ?_ | refine cN ?_ ?_ | refine cB ?_ ?_ | refine gB ?_ ?_) <;> intro h)
      | with_reducible first | refine And.intro ?_ ?_ | refine J_seq ?_ | refine J_block ?_ | refine J_inBlock ?_ | refine rC ?_ | refine rR ?_ | refine rE ?_ | refine rG ?_ | refine FinQ.now ?_ | refine FinQ.end ?_)
  · have hr : earthsR n l = ([], lockChk n l) := by unfold earthsR; rw [if_pos h0]
    rw [hr]
    refine holds_ofV Tryd.func26 rfl rfl ?_
    refine J_run 200 ?_
    delta Tryd.f26
    simp only [encNet] at c ⊢
    iterate 12 (all_goals (try (first
      | (exfalso; omega)
      | (simp (maxSteps := 1000000) (disch := omega) only [go_sem])
      | ((with_reducible refine CallA.pure c ?_ ?_); (· simp (disch := omega) only [go_sem]); rintro _ _ ⟨rfl, rfl⟩)
      | ((with_reducible first | refine gDt ?_ ?_ | refine gDf ?_ ?_ | refine gNt ?_ ?_ | refine gNf ?_ ?_ | refine cD ?_ ?_ | refine cN ?_ ?_ | refine cB ?_ ?_ | refine gB ?_ ?_) <;> intro h)
      | with_reducible first | refine And.intro ?_ ?_ | refine J_seq ?_ | refine J_block ?_ | refine J_inBlock ?_ | refine rC ?_ | refine rR ?_ | refine rE ?_ | refine rG ?_ | refine FinQ.now ?_ | refine FinQ.end ?_)))
    exact ⟨_, .tup (.cons (.nilLst 1) (VLes.refl _)), rfl, rfl⟩
set_option maxHeartbeats 16000000 in
theorem earthingInside (l : List Int) (hl : NumsOk l) : Fn1 Tryd.prog GT0 4 [.lst 1 (l.map encN)] (.raw (.bool true)) [] := by
  have ca := awake16
  have cf := few l hl.len
  by_cases h400 : l.length ≤ 400
  · have cn := newDeck l
    rw [decide_eq_true h400] at cf
    have cw := networkD _ hl.deck 7 12 (by omega) (by omega)
    refine holds_of Tryd.func4 rfl rfl ?_
    refine J_run 200 ?_
    delta Tryd.f4
    iterate 6 (all_goals (try (first
      | (simp (maxSteps := 1000000) (disch := omega) only [go_sem])
      | ((with_reducible refine CallA.pure cf ?_ ?_); (· simp (disch := omega) only [go_sem]); rintro _ _ ⟨rfl, rfl⟩)
      | ((with_reducible refine CallA.pure cn ?_ ?_); (· simp (disch := omega) only [go_sem]); rintro _ _ ⟨rfl, rfl⟩)
      | ((with_reducible first | refine gDt ?_ ?_ | refine gDf ?_ ?_ | refine gNt ?_ ?_ | refine gNf ?_ ?_ | refine cD ?_ ?_ | refine cN ?_ ?_ | refine cB ?_ ?_ | refine gB ?_ ?_) <;> intro h)
      | with_reducible first | refine And.intro ?_ ?_ | refine J_seq ?_ | refine J_block ?_ | refine J_inBlock ?_ | refine rC ?_ | refine rR ?_ | refine rE ?_ | refine rG ?_ | refine FinQ.now ?_ | refine FinQ.end ?_)))
    refine CallA.mut [0] ?_ ?_ ?_ ?_ cw ?_
    · simp only [go_sem]
    · simp only [go_sem]
    · simp only [go_sem]
    · simp only [go_sem]
    rintro _ _ ⟨n, k, d1, hd1, hM, hk2, hk7, hdl, hd1', rfl, rfl⟩
    have hnl := hM.nl
    have hno := hM.ok (by omega) (by omega)
    have cz := zoneD d1 hd1 n (by omega) (by omega)
    have cs := fun (d : Dk) (hd : d.ok) => stateD d hd n (by omega)
    have cl := fun (d : Dk) (hd : d.ok) (st : List Int) (h : st.length = n.devs.length) => locksD d hd n hno st (by omega) 8 (by omega)
    simp only [encNet] at cz cs cl ⊢
    iterate 9 (all_goals (try (first
      | (simp (maxSteps := 1000000) (disch := omega) only [go_sem])
      | ((with_reducible refine CallA.mut [0] ?_ ?_ ?_ ?_ cz ?_); (· simp (disch := omega) only [go_sem]); (· simp (disch := omega) only [go_sem]); (· simp (disch := omega) only [go_sem]); (· simp (disch := omega) only [go_sem]); rintro _ _ ⟨z, d2, hd2, hz0, hz, rfl, rfl⟩)
      | ((with_reducible refine CallA.mut [0] ?_ ?_ ?_ ?_ (cs _ hd2) ?_); (· simp (disch := omega) only [go_sem]); (· simp (disch := omega) only [go_sem]); (· simp (disch := omega) only [go_sem]); (· simp (disch := omega) only [go_sem]); rintro _ _ ⟨st, d3, hd3, hst, _, rfl, rfl⟩)
      | ((with_reducible first | refine gDt ?_ ?_ | refine gDf ?_ ?_ | refine gNt ?_ ?_ | refine gNf ?_ ?_ | refine cD ?_ ?_ | refine cN ?_ ?_ | refine cB ?_ ?_ | refine gB ?_ ?_) <;> intro h)
      | with_reducible first | refine And.intro ?_ ?_ | refine J_seq ?_ | refine J_block ?_ | refine J_inBlock ?_ | refine rC ?_ | refine rR ?_ | refine rE ?_ | refine rG ?_ | refine FinQ.now ?_ | refine FinQ.end ?_)))
    refine J_for ([7, 8] ++ upto 40 50) (fun x : Nat × List Int => [(39, .raw (.int .i64 x.1))]) (fun x => [.box (encDk d3), .box (encNet n), .arr 1 (x.2.map encN)]) (fun x => x.1 ≤ n.devs.length ∧ x.2.length = n.devs.length) (fun x => n.devs.length - x.1) (0, st) ⟨by simp only; omega, hst⟩ (.le (by simp [go_sem, encNet]) (by simp)) ?_
    rintro ⟨i, s⟩ ⟨hi, hsl⟩
    simp only [encNet] at hi hsl ⊢
    by_cases hlt : i < n.devs.length
    · have hdv := getD_Dv hlt
      have hse := set_encN (l := s) (k := i) (x := 2) (by omega)
      obtain ⟨k4, hk4⟩ : ∃ k, decide (n.devs[i].kind = 4) = k := ⟨_, rfl⟩
      cases k4
      · refine J_run 200 ?_
        iterate 14 (all_goals (try (first
          | (simp (maxSteps := 1000000) (disch := omega) only [go_sem, hdv, hk4])
          | ((with_reducible first | refine gDt ?_ ?_ | refine gDf ?_ ?_ | refine gNt ?_ ?_ | refine gNf ?_ ?_ | refine cD ?_ ?_ | refine cN ?_ ?_ | refine cB ?_ ?_ | refine gB ?_ ?_) <;> intro h)
          | with_reducible first | refine And.intro ?_ ?_ | refine J_seq ?_ | refine J_block ?_ | refine J_inBlock ?_ | refine rC ?_ | refine rR ?_ | refine rE ?_ | refine rG ?_ | refine FinQ.now ?_ | refine FinQ.end ?_)))
        refine .mk (i + 1, s) ⟨hlt, hsl⟩ (by simp only; omega) ?_ ?_
        · simp [go_sem, encNet]
        · simp
      · refine J_run 200 ?_
        iterate 14 (all_goals (try (first
          | (simp (maxSteps := 1000000) (disch := omega) only [go_sem, hdv, hk4])
          | ((with_reducible first | refine gDt ?_ ?_ | refine gDf ?_ ?_ | refine gNt ?_ ?_ | refine gNf ?_ ?_ | refine cD ?_ ?_ | refine cN ?_ ?_ | refine cB ?_ ?_ | refine gB ?_ ?_) <;> intro h)
          | with_reducible first | refine And.intro ?_ ?_ | refine J_seq ?_ | refine J_block ?_ | refine J_inBlock ?_ | refine rC ?_ | refine rR ?_ | refine rE ?_ | refine rG ?_ | refine FinQ.now ?_ | refine FinQ.end ?_)))
        refine .mk (i + 1, s.set i 2) ⟨hlt, by simp only [List.length_set]; exact hsl⟩ (by simp only; omega) ?_ ?_
        · simp only [← hse]; simp [go_sem, encNet]
        · simp
    have hie : i = n.devs.length := by omega
    subst hie
    have htk : List.take st.length (s.map encN) = s.map encN := List.take_of_length_le (by simp; omega)
    refine J_run 200 ?_
    iterate 6 (all_goals (try (first
      | (simp (maxSteps := 1000000) (disch := omega) only [go_sem, htk])
      | ((with_reducible refine CallA.mutGive [0] [2] ?_ ?_ ?_ ?_ (cl _ hd3 s hsl) ?_); (· simp (disch := omega) only [go_sem, htk]); (· simp (disch := omega) only [go_sem, htk]); (· simp (disch := omega) only [go_sem, htk]); (· simp (disch := omega) only [go_sem, htk]); rintro _ _ ⟨lk, d4, hd4, hL, rfl, rfl⟩)
      | ((with_reducible first | refine gDt ?_ ?_ | refine gDf ?_ ?_ | refine gNt ?_ ?_ | refine gNf ?_ ?_ | refine cD ?_ ?_ | refine cN ?_ ?_ | refine cB ?_ ?_ | refine gB ?_ ?_) <;> intro h)
      | with_reducible first | refine And.intro ?_ ?_ | refine J_seq ?_ | refine J_block ?_ | refine J_inBlock ?_ | refine rC ?_ | refine rR ?_ | refine rE ?_ | refine rG ?_ | refine FinQ.now ?_ | refine FinQ.end ?_)))
    have hzl := rising_len (by omega) hz
    have hLk := locks_iff.2 hL
    have hlk := hL.len
    have zz : zoneChk n z = 0 := zoneChk_ok hno hz0 hz
    have hle : lockedE n lk z = 0 := by unfold lockedE; rw [if_neg (by simp [hLk]), zz]
    have cC := countedF n hno.sized lk (by omega) z (by omega)
    have cG := rGaps n hno.sized lk (by omega)
    have cEa := rEarths n hno.sized lk (by omega)
    have hgl := gapsOf_len (n := n) (l := lk)
    have hel := earthsOf_len (n := n) (l := lk)
    have cR := RegionF n hno.sized z (gapsOf n lk) (by omega) (by omega)
    have cZ := rZone n hno.sized z (by omega)
    rw [show countedR n lk z = (countL n lk z, 0) by unfold countedR; rw [if_neg (by simp [hle])]] at cC
    rw [show gapsR n lk = (gapsOf n lk, 0) by unfold gapsR; rw [if_neg (by simp [hLk])]] at cG
    rw [show earthsR n lk = (earthsOf n lk, 0) by unfold earthsR; rw [if_neg (by simp [hLk])]] at cEa
    rw [show regionR n z (gapsOf n lk) = (regL n z (gapsOf n lk), 0) by unfold regionR; rw [if_neg (by simp [fault_ok zz (gapsOf_gaps n lk)])]] at cR
    rw [zz] at cZ
    have hwa := want_all hno (l := lk) hz
    have hrl := reg_len (n := n) (z := z) (g := gapsOf n lk)
    have hcl := countL_len (n := n) (l := lk) (z := z)
    have hem := fun (i : Int) (h : i ∈ earthsOf n lk) => mem_earthsOf h
    obtain ⟨es, hes⟩ : ∃ es, earthsOf n lk = es := ⟨_, rfl⟩
    obtain ⟨R, hR⟩ : ∃ R, regL n z (gapsOf n lk) = R := ⟨_, rfl⟩
    obtain ⟨C, hC⟩ : ∃ C, countL n lk z = C := ⟨_, rfl⟩
    rw [hC] at cC hwa hcl
    rw [hes] at cEa hel hwa hem
    rw [hR] at cR hrl hwa
    have cI := ints C C (by omega) (by omega)
    rw [decide_eq_true rfl] at cI
    simp only [encNet] at cC cG cEa cR cZ
    iterate 20 (all_goals (try (first
      | (simp (maxSteps := 1000000) (disch := omega) only [go_sem])
      | ((with_reducible refine CallA.pure cC ?_ ?_); (· simp (disch := omega) only [go_sem]); rintro _ _ ⟨rfl, rfl⟩)
      | ((with_reducible refine CallA.pure cG ?_ ?_); (· simp (disch := omega) only [go_sem]); rintro _ _ ⟨rfl, rfl⟩)
      | ((with_reducible refine CallA.pure cEa ?_ ?_); (· simp (disch := omega) only [go_sem]); rintro _ _ ⟨rfl, rfl⟩)
      | ((with_reducible refine CallA.pure cR ?_ ?_); (· simp (disch := omega) only [go_sem]); rintro _ _ ⟨rfl, rfl⟩)
      | ((with_reducible first | refine gDt ?_ ?_ | refine gDf ?_ ?_ | refine gNt ?_ ?_ | refine gNf ?_ ?_ | refine cD ?_ ?_ | refine cN ?_ ?_ | refine cB ?_ ?_ | refine gB ?_ ?_) <;> intro h)
      | with_reducible first | refine And.intro ?_ ?_ | refine J_seq ?_ | refine J_block ?_ | refine J_inBlock ?_ | refine rC ?_ | refine rR ?_ | refine rE ?_ | refine rG ?_ | refine FinQ.now ?_ | refine FinQ.end ?_)))
    refine J_nilName 18 1 (by simp only [go_sem]) ?_
    simp only [go_sem]
    refine J_for ([19, 21] ++ upto 85 116) (fun v : Nat => [(84, .raw (.int .i64 v)), (18, .own 3 1 0 (pickTo (isWant n es R) v).length)]) (fun v => [.box (encDk d4), .box (encNet n), .dead, .arr 1 ((pickTo (isWant n es R) v).map encN)]) (fun v => v ≤ n.nodes.length) (fun v => n.nodes.length - v) 0 (by omega) (.le (by simp [go_sem, encNet, pickTo]) (by simp)) ?_
    intro v hv
    simp only [encNet]
    have hpl := pickTo_len (p := isWant n es R) (i := v)
    by_cases hvl : v < n.nodes.length
    · refine J_run 200 ?_
      iterate 8 (all_goals (try (first
        | (simp (maxSteps := 1000000) (disch := omega) only [go_sem])
        | ((with_reducible first | refine gDt ?_ ?_ | refine gDf ?_ ?_ | refine gNt ?_ ?_ | refine gNf ?_ ?_ | refine cD ?_ ?_ | refine cN ?_ ?_ | refine cB ?_ ?_ | refine gB ?_ ?_) <;> intro h)
        | with_reducible first | refine And.intro ?_ ?_ | refine J_seq ?_ | refine J_block ?_ | refine J_inBlock ?_ | refine rC ?_ | refine rR ?_ | refine rE ?_ | refine rG ?_ | refine FinQ.now ?_ | refine FinQ.end ?_)))
      refine J_for ([21] ++ upto 90 116) (fun j : Nat => [(89, .raw (.int .i64 j)), (18, .own 3 1 0 (wantMid n es R v j).length)]) (fun j => [.box (encDk d4), .box (encNet n), .dead, .arr 1 ((wantMid n es R v j).map encN)]) (fun j => j ≤ es.length) (fun j => es.length - j) 0 (by omega) (.le (by simp [go_sem, encNet, wantMid_zero]) (by simp)) ?_
      intro j hj
      simp only [encNet]
      have hwl := wantMid_len (n := n) (es := es) (R := R) (v := v) (j := j)
      by_cases hjl : j < es.length
      · have hg := getD_N hjl
        have hej := hem _ (List.getElem_mem hjl)
        have hdv := getD_Dv (l := n.devs) (i := es[j].toNat) (by omega)
        have hgd : n.devs.getD es[j].toNat ⟨⟨#[]⟩, 0, 0, 0, 0⟩ = n.devs[es[j].toNat]'(by omega) := getD_get (by omega)
        have cR2 := has R v (by omega)
        have cW := has (wantMid n es R v j) v (by omega)
        have hup := earthUp_next (n := n) (v := (v : Int)) hjl
        have hmw := mem_wantMid (n := n) (es := es) (R := R) (v := v) (j := j)
        have hn1 : wantMid n es R v (j + 1) = pickTo (isWant n es R) v ++ if earthUp n es (j + 1) v && decide ((v : Int) ∈ R) then [(v : Int)] else [] := rfl
        have hn0 : wantMid n es R v j = pickTo (isWant n es R) v ++ if earthUp n es j v && decide ((v : Int) ∈ R) then [(v : Int)] else [] := rfl
        rw [hgd] at hup
        obtain ⟨b1, hb1⟩ : ∃ b, decide ((n.devs[es[j].toNat]'(by omega)).a = (v : Int)) = b := ⟨_, rfl⟩
        obtain ⟨b2, hb2⟩ : ∃ b, decide ((v : Int) ∈ R) = b := ⟨_, rfl⟩
        obtain ⟨u, hu⟩ : ∃ b, earthUp n es j v = b := ⟨_, rfl⟩
        rw [hu, hb1] at hup
        rw [hup, hb2] at hn1
        rw [hu, hb2] at hn0 hmw
        rw [hb2] at cR2
        have hw3 : decide ((v : Int) ∈ wantMid n es R v j) = (u && b2) := by rw [Bool.eq_iff_iff, decide_eq_true_eq]; exact hmw
        rw [hw3] at cW
        have hsame : ((u || b1) && b2) = (u && b2) → wantMid n es R v (j + 1) = wantMid n es R v j := fun e => by rw [hn1, hn0, e]
        cases u <;> cases b1 <;> cases b2
        · skip
          have hs := hsame rfl
          refine J_run 200 ?_
          iterate 16 (all_goals (try (first
            | (simp (maxSteps := 1000000) (disch := omega) only [go_sem, hg, hdv, hb1, take_lm])
            | ((with_reducible refine CallA.pure cR2 ?_ ?_); (· simp (disch := omega) only [go_sem, hg, hdv, hb1, take_lm]); rintro _ _ ⟨rfl, rfl⟩)
            | ((with_reducible refine CallA.keep [3] ?_ ?_ cW ?_); (· simp (disch := omega) only [go_sem, hg, hdv, hb1, take_lm]); (· simp (disch := omega) only [go_sem, hg, hdv, hb1, take_lm]); rintro _ _ ⟨rfl, rfl⟩; refine ⟨⟨rfl, fun _ h => by cases h⟩, ?_⟩)
            | ((with_reducible first | refine gDt ?_ ?_ | refine gDf ?_ ?_ | refine gNt ?_ ?_ | refine gNf ?_ ?_ | refine cD ?_ ?_ | refine cN ?_ ?_ | refine cB ?_ ?_ | refine gB ?_ ?_) <;> intro h)
            | with_reducible first | refine And.intro ?_ ?_ | refine J_seq ?_ | refine J_block ?_ | refine J_inBlock ?_ | refine rC ?_ | refine rR ?_ | refine rE ?_ | refine rG ?_ | refine FinQ.now ?_ | refine FinQ.end ?_)))
          refine .mk (j + 1) hjl (by omega) ?_ ?_
          · rw [hs]; simp [go_sem, encNet]
          · simp
        · skip
          have hs := hsame rfl
          refine J_run 200 ?_
          iterate 16 (all_goals (try (first
            | (simp (maxSteps := 1000000) (disch := omega) only [go_sem, hg, hdv, hb1, take_lm])
            | ((with_reducible refine CallA.pure cR2 ?_ ?_); (· simp (disch := omega) only [go_sem, hg, hdv, hb1, take_lm]); rintro _ _ ⟨rfl, rfl⟩)
            | ((with_reducible refine CallA.keep [3] ?_ ?_ cW ?_); (· simp (disch := omega) only [go_sem, hg, hdv, hb1, take_lm]); (· simp (disch := omega) only [go_sem, hg, hdv, hb1, take_lm]); rintro _ _ ⟨rfl, rfl⟩; refine ⟨⟨rfl, fun _ h => by cases h⟩, ?_⟩)
            | ((with_reducible first | refine gDt ?_ ?_ | refine gDf ?_ ?_ | refine gNt ?_ ?_ | refine gNf ?_ ?_ | refine cD ?_ ?_ | refine cN ?_ ?_ | refine cB ?_ ?_ | refine gB ?_ ?_) <;> intro h)
            | with_reducible first | refine And.intro ?_ ?_ | refine J_seq ?_ | refine J_block ?_ | refine J_inBlock ?_ | refine rC ?_ | refine rR ?_ | refine rE ?_ | refine rG ?_ | refine FinQ.now ?_ | refine FinQ.end ?_)))
          refine .mk (j + 1) hjl (by omega) ?_ ?_
          · rw [hs]; simp [go_sem, encNet]
          · simp
        · skip
          have hs := hsame rfl
          refine J_run 200 ?_
          iterate 16 (all_goals (try (first
            | (simp (maxSteps := 1000000) (disch := omega) only [go_sem, hg, hdv, hb1, take_lm])
            | ((with_reducible refine CallA.pure cR2 ?_ ?_); (· simp (disch := omega) only [go_sem, hg, hdv, hb1, take_lm]); rintro _ _ ⟨rfl, rfl⟩)
            | ((with_reducible refine CallA.keep [3] ?_ ?_ cW ?_); (· simp (disch := omega) only [go_sem, hg, hdv, hb1, take_lm]); (· simp (disch := omega) only [go_sem, hg, hdv, hb1, take_lm]); rintro _ _ ⟨rfl, rfl⟩; refine ⟨⟨rfl, fun _ h => by cases h⟩, ?_⟩)
            | ((with_reducible first | refine gDt ?_ ?_ | refine gDf ?_ ?_ | refine gNt ?_ ?_ | refine gNf ?_ ?_ | refine cD ?_ ?_ | refine cN ?_ ?_ | refine cB ?_ ?_ | refine gB ?_ ?_) <;> intro h)
            | with_reducible first | refine And.intro ?_ ?_ | refine J_seq ?_ | refine J_block ?_ | refine J_inBlock ?_ | refine rC ?_ | refine rR ?_ | refine rE ?_ | refine rG ?_ | refine FinQ.now ?_ | refine FinQ.end ?_)))
          refine .mk (j + 1) hjl (by omega) ?_ ?_
          · rw [hs]; simp [go_sem, encNet]
          · simp
        · have hs : wantMid n es R v (j + 1) = wantMid n es R v j ++ [(v : Int)] := by rw [hn1, hn0]; simp
          refine J_run 200 ?_
          iterate 16 (all_goals (try (first
            | (simp (maxSteps := 1000000) (disch := omega) only [go_sem, hg, hdv, hb1, take_lm])
            | ((with_reducible refine CallA.pure cR2 ?_ ?_); (· simp (disch := omega) only [go_sem, hg, hdv, hb1, take_lm]); rintro _ _ ⟨rfl, rfl⟩)
            | ((with_reducible refine CallA.keep [3] ?_ ?_ cW ?_); (· simp (disch := omega) only [go_sem, hg, hdv, hb1, take_lm]); (· simp (disch := omega) only [go_sem, hg, hdv, hb1, take_lm]); rintro _ _ ⟨rfl, rfl⟩; refine ⟨⟨rfl, fun _ h => by cases h⟩, ?_⟩)
            | ((with_reducible first | refine gDt ?_ ?_ | refine gDf ?_ ?_ | refine gNt ?_ ?_ | refine gNf ?_ ?_ | refine cD ?_ ?_ | refine cN ?_ ?_ | refine cB ?_ ?_ | refine gB ?_ ?_) <;> intro h)
            | with_reducible first | refine And.intro ?_ ?_ | refine J_seq ?_ | refine J_block ?_ | refine J_inBlock ?_ | refine rC ?_ | refine rR ?_ | refine rE ?_ | refine rG ?_ | refine FinQ.now ?_ | refine FinQ.end ?_)))
          refine .mk (j + 1) hjl (by omega) ?_ ?_
          · rw [hs]; simp [go_sem, encNet, encN]
          · simp
        · skip
          have hs := hsame rfl
          refine J_run 200 ?_
          iterate 16 (all_goals (try (first
            | (simp (maxSteps := 1000000) (disch := omega) only [go_sem, hg, hdv, hb1, take_lm])
            | ((with_reducible refine CallA.pure cR2 ?_ ?_); (· simp (disch := omega) only [go_sem, hg, hdv, hb1, take_lm]); rintro _ _ ⟨rfl, rfl⟩)
            | ((with_reducible refine CallA.keep [3] ?_ ?_ cW ?_); (· simp (disch := omega) only [go_sem, hg, hdv, hb1, take_lm]); (· simp (disch := omega) only [go_sem, hg, hdv, hb1, take_lm]); rintro _ _ ⟨rfl, rfl⟩; refine ⟨⟨rfl, fun _ h => by cases h⟩, ?_⟩)
            | ((with_reducible first | refine gDt ?_ ?_ | refine gDf ?_ ?_ | refine gNt ?_ ?_ | refine gNf ?_ ?_ | refine cD ?_ ?_ | refine cN ?_ ?_ | refine cB ?_ ?_ | refine gB ?_ ?_) <;> intro h)
            | with_reducible first | refine And.intro ?_ ?_ | refine J_seq ?_ | refine J_block ?_ | refine J_inBlock ?_ | refine rC ?_ | refine rR ?_ | refine rE ?_ | refine rG ?_ | refine FinQ.now ?_ | refine FinQ.end ?_)))
          refine .mk (j + 1) hjl (by omega) ?_ ?_
          · rw [hs]; simp [go_sem, encNet]
          · simp
        · skip
          have hs := hsame rfl
          refine J_run 200 ?_
          iterate 16 (all_goals (try (first
            | (simp (maxSteps := 1000000) (disch := omega) only [go_sem, hg, hdv, hb1, take_lm])
            | ((with_reducible refine CallA.pure cR2 ?_ ?_); (· simp (disch := omega) only [go_sem, hg, hdv, hb1, take_lm]); rintro _ _ ⟨rfl, rfl⟩)
            | ((with_reducible refine CallA.keep [3] ?_ ?_ cW ?_); (· simp (disch := omega) only [go_sem, hg, hdv, hb1, take_lm]); (· simp (disch := omega) only [go_sem, hg, hdv, hb1, take_lm]); rintro _ _ ⟨rfl, rfl⟩; refine ⟨⟨rfl, fun _ h => by cases h⟩, ?_⟩)
            | ((with_reducible first | refine gDt ?_ ?_ | refine gDf ?_ ?_ | refine gNt ?_ ?_ | refine gNf ?_ ?_ | refine cD ?_ ?_ | refine cN ?_ ?_ | refine cB ?_ ?_ | refine gB ?_ ?_) <;> intro h)
            | with_reducible first | refine And.intro ?_ ?_ | refine J_seq ?_ | refine J_block ?_ | refine J_inBlock ?_ | refine rC ?_ | refine rR ?_ | refine rE ?_ | refine rG ?_ | refine FinQ.now ?_ | refine FinQ.end ?_)))
          refine .mk (j + 1) hjl (by omega) ?_ ?_
          · rw [hs]; simp [go_sem, encNet]
          · simp
        · skip
          have hs := hsame rfl
          refine J_run 200 ?_
          iterate 16 (all_goals (try (first
            | (simp (maxSteps := 1000000) (disch := omega) only [go_sem, hg, hdv, hb1, take_lm])
            | ((with_reducible refine CallA.pure cR2 ?_ ?_); (· simp (disch := omega) only [go_sem, hg, hdv, hb1, take_lm]); rintro _ _ ⟨rfl, rfl⟩)
            | ((with_reducible refine CallA.keep [3] ?_ ?_ cW ?_); (· simp (disch := omega) only [go_sem, hg, hdv, hb1, take_lm]); (· simp (disch := omega) only [go_sem, hg, hdv, hb1, take_lm]); rintro _ _ ⟨rfl, rfl⟩; refine ⟨⟨rfl, fun _ h => by cases h⟩, ?_⟩)
            | ((with_reducible first | refine gDt ?_ ?_ | refine gDf ?_ ?_ | refine gNt ?_ ?_ | refine gNf ?_ ?_ | refine cD ?_ ?_ | refine cN ?_ ?_ | refine cB ?_ ?_ | refine gB ?_ ?_) <;> intro h)
            | with_reducible first | refine And.intro ?_ ?_ | refine J_seq ?_ | refine J_block ?_ | refine J_inBlock ?_ | refine rC ?_ | refine rR ?_ | refine rE ?_ | refine rG ?_ | refine FinQ.now ?_ | refine FinQ.end ?_)))
          refine .mk (j + 1) hjl (by omega) ?_ ?_
          · rw [hs]; simp [go_sem, encNet]
          · simp
        · skip
          have hs := hsame rfl
          refine J_run 200 ?_
          iterate 16 (all_goals (try (first
            | (simp (maxSteps := 1000000) (disch := omega) only [go_sem, hg, hdv, hb1, take_lm])
            | ((with_reducible refine CallA.pure cR2 ?_ ?_); (· simp (disch := omega) only [go_sem, hg, hdv, hb1, take_lm]); rintro _ _ ⟨rfl, rfl⟩)
            | ((with_reducible refine CallA.keep [3] ?_ ?_ cW ?_); (· simp (disch := omega) only [go_sem, hg, hdv, hb1, take_lm]); (· simp (disch := omega) only [go_sem, hg, hdv, hb1, take_lm]); rintro _ _ ⟨rfl, rfl⟩; refine ⟨⟨rfl, fun _ h => by cases h⟩, ?_⟩)
            | ((with_reducible first | refine gDt ?_ ?_ | refine gDf ?_ ?_ | refine gNt ?_ ?_ | refine gNf ?_ ?_ | refine cD ?_ ?_ | refine cN ?_ ?_ | refine cB ?_ ?_ | refine gB ?_ ?_) <;> intro h)
            | with_reducible first | refine And.intro ?_ ?_ | refine J_seq ?_ | refine J_block ?_ | refine J_inBlock ?_ | refine rC ?_ | refine rR ?_ | refine rE ?_ | refine rG ?_ | refine FinQ.now ?_ | refine FinQ.end ?_)))
          refine .mk (j + 1) hjl (by omega) ?_ ?_
          · rw [hs]; simp [go_sem, encNet]
          · simp
      · have hie : j = es.length := by omega
        subst hie
        rw [wantMid_all]
        refine J_run 200 ?_
        iterate 8 (all_goals (try (first
          | (simp (maxSteps := 1000000) (disch := omega) only [go_sem])
          | ((with_reducible first | refine gDt ?_ ?_ | refine gDf ?_ ?_ | refine gNt ?_ ?_ | refine gNf ?_ ?_ | refine cD ?_ ?_ | refine cN ?_ ?_ | refine cB ?_ ?_ | refine gB ?_ ?_) <;> intro h)
          | with_reducible first | refine And.intro ?_ ?_ | refine J_seq ?_ | refine J_block ?_ | refine J_inBlock ?_ | refine rC ?_ | refine rR ?_ | refine rE ?_ | refine rG ?_ | refine FinQ.now ?_ | refine FinQ.end ?_)))
        refine .mk (v + 1) hvl (by omega) ?_ ?_
        · simp [go_sem, encNet]
        · simp
    · have hie : v = n.nodes.length := by omega
      subst hie
      rw [hwa]
      refine J_run 200 ?_
      iterate 20 (all_goals (try (first
        | (simp (maxSteps := 1000000) (disch := omega) only [go_sem, take_lm, decide_true])
        | ((with_reducible refine CallA.give [3] ?_ ?_ cI ?_); (· simp (disch := omega) only [go_sem, take_lm, decide_true]); (· simp (disch := omega) only [go_sem, take_lm, decide_true]); rintro _ _ ⟨rfl, rfl⟩)
        | ((with_reducible refine CallA.pure cZ ?_ ?_); (· simp (disch := omega) only [go_sem, take_lm, decide_true]); rintro _ _ ⟨rfl, rfl⟩)
        | ((with_reducible refine CallA.pure ca ?_ ?_); (· simp (disch := omega) only [go_sem, take_lm, decide_true]); rintro _ _ ⟨rfl, rfl⟩)
        | ((with_reducible first | refine gDt ?_ ?_ | refine gDf ?_ ?_ | refine gNt ?_ ?_ | refine gNf ?_ ?_ | refine cD ?_ ?_ | refine cN ?_ ?_ | refine cB ?_ ?_ | refine gB ?_ ?_) <;> intro h)
        | with_reducible first | refine And.intro ?_ ?_ | refine J_seq ?_ | refine J_block ?_ | refine J_inBlock ?_ | refine rC ?_ | refine rR ?_ | refine rE ?_ | refine rG ?_ | refine FinQ.now ?_ | refine FinQ.end ?_)))
  · rw [decide_eq_false h400] at cf
    refine holds_of Tryd.func4 rfl rfl ?_
    refine J_run 200 ?_
    delta Tryd.f4
    repeat' (first
      | (simp (maxSteps := 1000000) (disch := omega) only [go_sem])
      | ((with_reducible refine CallA.pure ca ?_ ?_); (· simp (disch := omega) only [go_sem]); rintro _ _ ⟨rfl, rfl⟩)
      | ((with_reducible refine CallA.pure cf ?_ ?_); (· simp (disch := omega) only [go_sem]); rintro _ _ ⟨rfl, rfl⟩)
      | ((with_reducible first | refine gDt ?_ ?_ | refine gDf ?_ ?_ | refine gNt ?_ ?_ | refine gNf ?_ ?_ | refine cD ?_ ?_ | refine cN ?_ ?_ | refine cB ?_ ?_ | refine gB ?_ ?_) <;> intro h)
      | with_reducible first | refine And.intro ?_ ?_ | refine J_seq ?_ | refine J_block ?_ | refine J_inBlock ?_ | refine rC ?_ | refine rR ?_ | refine rE ?_ | refine rG ?_ | refine FinQ.now ?_ | refine FinQ.end ?_)
theorem earthingInside_av (x : (Sh.slice (.int .i64)).Den) (o : (Sh.slice (.int .i64)).Ok x) : Fn1 Tryd.prog GT0 4 [(Sh.slice (.int .i64)).av x] (.raw (.bool true)) [] := earthingInside x (nums_ok o)
end Go.Proofs.YthgcmeniecaemaaDoor.Abs
