/- EarthingHolds, walked: it returns true. -/
import Derived.Test.YthgcmeniecaemaaDoorEE
import Derived.Test.YthgcmeniecaemaaDoorEL
import Derived.Test.YthgcmeniecaemaaDoorR3
import Derived.Test.YthgcmeniecaemaaDoorMF
import Derived.Test.YthgcmeniecaemaaDoorR2
import Derived.Test.YthgcmeniecaemaaDoorRU
import Derived.Test.YthgcmeniecaemaaDoorRW
namespace Go.Proofs.YthgcmeniecaemaaDoor.Abs
set_option linter.unusedSimpArgs false
set_option linter.unusedVariables false
set_option maxRecDepth 100000
open Go Go.RowKit

/-- The position of a lock that the statement makes. -/
def posK (n : Net) (i : Int) : Int := if (n.devs.getD i.toNat ⟨⟨#[]⟩, 0, 0, 0, 0⟩).kind = 4 then 2 else 1
/-- The devices that got a lock, so far. -/
structure HoldTo (n : Net) (i : Nat) (gl : List Int) : Prop where
  up : rising gl i = true
  kd : ∀ g, g ∈ gl → (n.devs.getD g.toNat ⟨⟨#[]⟩, 0, 0, 0, 0⟩).kind ≠ 5
theorem HoldTo.push {n : Net} {i : Nat} {gl : List Int} (h : HoldTo n i gl) (hk : (n.devs.getD i ⟨⟨#[]⟩, 0, 0, 0, 0⟩).kind ≠ 5) : HoldTo n (i + 1) (gl ++ [(i : Int)]) :=
  ⟨rising_snoc h.up (by omega) (by omega), fun g hg => by
    rcases List.mem_append.1 hg with h1 | h1
    · exact h.kd g h1
    · rw [List.mem_singleton.1 h1]; simpa using hk⟩
theorem HoldTo.skip {n : Net} {i : Nat} {gl : List Int} (h : HoldTo n i gl) : HoldTo n (i + 1) gl := ⟨rising_mono h.up (by omega), h.kd⟩
/-- Whether one of the first j nodes that count is in one part with a node. -/
def nearTo (parts E : List Int) (v : Int) (j : Nat) : Bool := (E.take j).any fun u => decide (parts.getD u.toNat 0 = parts.getD v.toNat 0)
theorem nearTo_next {parts E : List Int} {v : Int} {j : Nat} (hj : j < E.length) : nearTo parts E v (j + 1) = (nearTo parts E v j || decide (parts.getD E[j].toNat 0 = parts.getD v.toNat 0)) := by
  unfold nearTo
  rw [List.take_succ_eq_append_getElem hj, List.any_append]
  simp
theorem near_all {n : Net} (hn : n.ok) {st parts E : List Int} (hP : Parts n st parts) (hE : ∀ u, u ∈ E → 0 ≤ u ∧ u < n.nodes.length) {v : Int} (hv : 0 ≤ v ∧ v < n.nodes.length) (hp : Prot n E v.toNat) (hl : liveB n st v.toNat = true) : nearTo parts E v E.length = true := by
  obtain ⟨u, hu, hc⟩ := hp.near (pB_iff.1 hl) fun i d hd => (hn.dev hd).a0
  have hb := hE _ hu
  unfold nearTo
  rw [List.take_length, List.any_eq_true]
  refine ⟨u, hu, ?_⟩
  rw [decide_eq_true_eq]
  exact ((hP.conn hn (u := v.toNat) (v := u) (by omega) (by omega)).2 hc).symm
set_option maxHeartbeats 16000000 in
theorem earthingHolds (l : List Int) (hl : NumsOk l) : Fn1 Tryd.prog GT0 3 [.lst 1 (l.map encN)] (.raw (.bool true)) [] := by
  have ca := awake16
  have cf := few l hl.len
  by_cases h400 : l.length ≤ 400
  · have cn := newDeck l
    rw [decide_eq_true h400] at cf
    have cb := bayD _ hl.deck
    have b3 := fun (d : Dk) (hd : d.ok) => one d hd 3 (by decide)
    have b6 := fun (d : Dk) (hd : d.ok) => one d hd 6 (by decide)
    have cw := fun (d : Dk) (hd : d.ok) => networkD d hd 6 10 (by omega) (by omega)
    have cs := fun (d : Dk) (hd : d.ok) (n : Net) (h : n.devs.length ≤ 1000000) => stateD d hd n h
    simp only [encNet] at cs
    refine holds_of Tryd.func3 rfl rfl ?_
    refine J_run 30 ?_
    delta Tryd.f3
    iterate 6 (all_goals (try (first
      | (simp (maxSteps := 1000000) (disch := omega) only [go_sem])
      | ((with_reducible refine CallA.pure cf ?_ ?_); (· simp (disch := omega) only [go_sem]); rintro _ _ ⟨rfl, rfl⟩)
      | ((with_reducible refine CallA.pure cn ?_ ?_); (· simp (disch := omega) only [go_sem]); rintro _ _ ⟨rfl, rfl⟩)
      | ((with_reducible first | refine gDt ?_ ?_ | refine gDf ?_ ?_ | refine gNt ?_ ?_ | refine gNf ?_ ?_ | refine cD ?_ ?_ | refine cN ?_ ?_ | refine cB ?_ ?_ | refine gB ?_ ?_) <;> intro h)
      | with_reducible first | refine And.intro ?_ ?_ | refine J_seq ?_ | refine J_block ?_ | refine J_inBlock ?_ | refine rC ?_ | refine rR ?_ | refine rE ?_ | refine rG ?_ | refine FinQ.now ?_ | refine FinQ.end ?_)))
    refine CallA.mut [0] ?_ ?_ ?_ ?_ cb ?_
    · simp only [go_sem]
    · simp only [go_sem]
    · simp only [go_sem]
    · simp only [go_sem]
    rintro _ _ ⟨n0, st0, d1, hd1, hno0, hnl0, hdl0, hdl9, hst0, hsx0, rfl, rfl⟩
    simp only [encNet]
    iterate 2 (all_goals (try (first
      | (simp (maxSteps := 1000000) (disch := omega) only [go_sem])
      | ((with_reducible first | refine gDt ?_ ?_ | refine gDf ?_ ?_ | refine gNt ?_ ?_ | refine gNf ?_ ?_ | refine cD ?_ ?_ | refine cN ?_ ?_ | refine cB ?_ ?_ | refine gB ?_ ?_) <;> intro h)
      | with_reducible first | refine And.intro ?_ ?_ | refine J_seq ?_ | refine J_block ?_ | refine J_inBlock ?_ | refine rC ?_ | refine rR ?_ | refine rE ?_ | refine rG ?_ | refine FinQ.now ?_ | refine FinQ.end ?_)))
    refine J_seq ?_
    refine J_mergeN 1 (upto 37 48) (fun x : Net × List Int × Dk => [(5, .lst 1 (x.2.1.map encN))]) (fun x => [.box (encDk x.2.2), .box (encNet x.1)]) (fun x => x.1.ok ∧ 1 ≤ x.1.nodes.length ∧ 1 ≤ x.1.devs.length ∧ x.2.1.length = x.1.devs.length ∧ x.2.2.ok) ?_ ?_
    · simp only [go_sem]
      iterate 24 (all_goals (try (first
        | (simp (maxSteps := 1000000) (disch := omega) only [go_sem, encNet])
        | ((with_reducible refine CallA.mut [0] ?_ ?_ ?_ ?_ (b3 _ hd1) ?_); (· simp (disch := omega) only [go_sem, encNet]); (· simp (disch := omega) only [go_sem, encNet]); (· simp (disch := omega) only [go_sem, encNet]); (· simp (disch := omega) only [go_sem, encNet]); rintro _ _ ⟨v, d2, hd2, rfl, rfl⟩)
        | ((with_reducible refine CallA.mut [0] ?_ ?_ ?_ ?_ (cw _ hd2) ?_); (· simp (disch := omega) only [go_sem, encNet]); (· simp (disch := omega) only [go_sem, encNet]); (· simp (disch := omega) only [go_sem, encNet]); (· simp (disch := omega) only [go_sem, encNet]); rintro _ _ ⟨n, k, d3, hd3, hM, hk2, hk7, hdl, hdl1, rfl, rfl⟩)
        | ((with_reducible refine CallA.mut [0] ?_ ?_ ?_ ?_ (cs _ hd3 n (by omega)) ?_); (· simp (disch := omega) only [go_sem, encNet]); (· simp (disch := omega) only [go_sem, encNet]); (· simp (disch := omega) only [go_sem, encNet]); (· simp (disch := omega) only [go_sem, encNet]); rintro _ _ ⟨st, d4, hd4, hst, _, rfl, rfl⟩)
        | ((with_reducible first | refine gDt ?_ ?_ | refine gDf ?_ ?_ | refine gNt ?_ ?_ | refine gNf ?_ ?_ | refine cD ?_ ?_ | refine cN ?_ ?_ | refine cB ?_ ?_ | refine gB ?_ ?_) <;> intro h)
        | with_reducible first | refine And.intro ?_ ?_ | refine J_seq ?_ | refine J_block ?_ | refine J_inBlock ?_ | refine rC ?_ | refine rR ?_ | refine rE ?_ | refine rG ?_ | refine FinQ.now ?_ | refine FinQ.end ?_)))
      all_goals first
        | (refine ⟨(n, st, d4), ⟨hM.ok (by omega) (by omega), by have := hM.nl; simp only; omega, by simp only; omega, hst, hd4⟩, SemLe.trans (SemLe.frz _ _ [2]) ?_⟩; simp only [go_sem, take_lm]; exact .le (by simp [go_sem, encNet]) (by simp))
        | (refine ⟨(n0, st0, d2), ⟨hno0, by simp only; omega, by simp only; omega, hst0, hd2⟩, ?_⟩; exact .le (by simp [go_sem, encNet]) (by simp))
    rintro ⟨n, st, d2⟩ ⟨hno, hnl1, hdl1, hst, hd2⟩
    simp only at hno hnl1 hdl1 hst hd2
    have hnl := hno.nl
    have hdl := hno.dl
    simp only [go_sem, encNet]
    clear hdl9 hdl0 hnl0 hno0 hsx0 hst0 hd1 d1 st0 n0
    refine J_run 200 ?_
    iterate 5 (all_goals (try (first
      | (simp (maxSteps := 1000000) (disch := omega) only [go_sem])
      | ((with_reducible first | refine gDt ?_ ?_ | refine gDf ?_ ?_ | refine gNt ?_ ?_ | refine gNf ?_ ?_ | refine cD ?_ ?_ | refine cN ?_ ?_ | refine cB ?_ ?_ | refine gB ?_ ?_) <;> intro h)
      | with_reducible first | refine And.intro ?_ ?_ | refine J_seq ?_ | refine J_block ?_ | refine J_inBlock ?_ | refine rC ?_ | refine rR ?_ | refine rE ?_ | refine rG ?_ | refine FinQ.now ?_ | refine FinQ.end ?_)))
    refine J_nilName 6 3 (by simp only [go_sem]) ?_
    simp only [go_sem]
    refine J_for ([7, 8] ++ upto 53 90) (fun x : Nat × List Int × Dk => [(52, .raw (.int .i64 x.1)), (6, .own 2 3 0 x.2.1.length)]) (fun x => [.box (encDk x.2.2), .box (encNet n), .arr 3 ((x.2.1.map (lkBy (posK n))).map encLk)]) (fun x => x.1 ≤ n.devs.length ∧ HoldTo n x.1 x.2.1 ∧ x.2.2.ok) (fun x => n.devs.length - x.1) (0, [], d2) ⟨by simp, ⟨rfl, fun g hg => by cases hg⟩, hd2⟩ (.le (by simp [go_sem, encNet]) (by simp)) ?_
    clear hd2 d2
    rintro ⟨i, gl, d2⟩ ⟨hi, hH, hd2⟩
    simp only [encNet] at hi hH hd2 ⊢
    have hgll := rising_len (by omega) hH.up
    by_cases hlt : i < n.devs.length
    · have hdv := getD_Dv hlt
      have hgd : n.devs.getD i ⟨⟨#[]⟩, 0, 0, 0, 0⟩ = n.devs[i] := getD_get hlt
      have cg := refGap n.devs[i].kind
      have hHs := hH.skip
      by_cases hk4 : n.devs[i].kind = 4
      · have e4 : decide (n.devs[i].kind = 4) = true := decide_eq_true hk4
        rw [show gapK n.devs[i].kind = false by rw [hk4]; decide] at cg
        have hHp := hH.push (by rw [hgd]; omega)
        have hpk : posK n i = 2 := by unfold posK; rw [Int.toNat_natCast, hgd, if_pos hk4]
        refine J_run 200 ?_
        iterate 24 (all_goals (try (first
          | (simp (maxSteps := 1000000) (disch := omega) only [go_sem, hdv, e4])
          | ((with_reducible refine CallA.pure cg ?_ ?_); (· simp (disch := omega) only [go_sem, hdv, e4]); rintro _ _ ⟨rfl, rfl⟩)
          | ((with_reducible refine CallA.mut [0] ?_ ?_ ?_ ?_ (b6 _ hd2) ?_); (· simp (disch := omega) only [go_sem, hdv, e4]); (· simp (disch := omega) only [go_sem, hdv, e4]); (· simp (disch := omega) only [go_sem, hdv, e4]); (· simp (disch := omega) only [go_sem, hdv, e4]); rintro _ _ ⟨v, d3, hd3, rfl, rfl⟩)
          | ((with_reducible first | refine gDt ?_ ?_ | refine gDf ?_ ?_ | refine gNt ?_ ?_ | refine gNf ?_ ?_ | refine cD ?_ ?_ | refine cN ?_ ?_ | refine cB ?_ ?_ | refine gB ?_ ?_) <;> intro h)
          | with_reducible first | refine And.intro ?_ ?_ | refine J_seq ?_ | refine J_block ?_ | refine J_inBlock ?_ | refine rC ?_ | refine rR ?_ | refine rE ?_ | refine rG ?_ | refine FinQ.now ?_ | refine FinQ.end ?_)))
        all_goals first
          | (refine LoopEnd.mk (i + 1, gl ++ [(i : Int)], d3) ⟨hlt, hHp, hd3⟩ (by simp only; omega) ?_ ?_; (· simp [go_sem, encNet, encLk, lkBy, hpk]; done); (· simp))
          | (refine LoopEnd.mk (i + 1, gl, d3) ⟨hlt, hHs, hd3⟩ (by simp only; omega) ?_ ?_; (· simp [go_sem, encNet]; done); (· simp))
      · have e4 : decide (n.devs[i].kind = 4) = false := decide_eq_false hk4
        have hpk : posK n i = 1 := by unfold posK; rw [Int.toNat_natCast, hgd, if_neg hk4]
        by_cases hg : gapK n.devs[i].kind = true ∧ n.devs[i].kind ≠ 1
        · rw [hg.1] at cg
          have e1 : decide (n.devs[i].kind = 1) = false := decide_eq_false hg.2
          have hHp := hH.push (by rw [hgd]; intro h; rw [h] at hg; exact absurd hg.1 (by decide))
          refine J_run 200 ?_
          iterate 24 (all_goals (try (first
            | (simp (maxSteps := 1000000) (disch := omega) only [go_sem, hdv, e4, e1])
            | ((with_reducible refine CallA.pure cg ?_ ?_); (· simp (disch := omega) only [go_sem, hdv, e4, e1]); rintro _ _ ⟨rfl, rfl⟩)
            | ((with_reducible refine CallA.mut [0] ?_ ?_ ?_ ?_ (b6 _ hd2) ?_); (· simp (disch := omega) only [go_sem, hdv, e4, e1]); (· simp (disch := omega) only [go_sem, hdv, e4, e1]); (· simp (disch := omega) only [go_sem, hdv, e4, e1]); (· simp (disch := omega) only [go_sem, hdv, e4, e1]); rintro _ _ ⟨v, d3, hd3, rfl, rfl⟩)
            | ((with_reducible first | refine gDt ?_ ?_ | refine gDf ?_ ?_ | refine gNt ?_ ?_ | refine gNf ?_ ?_ | refine cD ?_ ?_ | refine cN ?_ ?_ | refine cB ?_ ?_ | refine gB ?_ ?_) <;> intro h)
            | with_reducible first | refine And.intro ?_ ?_ | refine J_seq ?_ | refine J_block ?_ | refine J_inBlock ?_ | refine rC ?_ | refine rR ?_ | refine rE ?_ | refine rG ?_ | refine FinQ.now ?_ | refine FinQ.end ?_)))
          all_goals first
            | (refine LoopEnd.mk (i + 1, gl ++ [(i : Int)], d3) ⟨hlt, hHp, hd3⟩ (by simp only; omega) ?_ ?_; (· simp [go_sem, encNet, encLk, lkBy, hpk]; done); (· simp))
            | (refine LoopEnd.mk (i + 1, gl, d3) ⟨hlt, hHs, hd3⟩ (by simp only; omega) ?_ ?_; (· simp [go_sem, encNet]; done); (· simp))
        · obtain ⟨b, hb⟩ : ∃ b, gapK n.devs[i].kind = b := ⟨_, rfl⟩
          rw [hb] at cg
          obtain ⟨b1, hb1⟩ : ∃ b, decide (n.devs[i].kind = 1) = b := ⟨_, rfl⟩
          have hbb : b = true → b1 = true := fun h => by
            rw [← hb1, decide_eq_true_eq]
            exact Classical.byContradiction fun h1 => hg ⟨hb.trans h, h1⟩
          cases b <;> cases b1 <;> first | exact absurd (hbb rfl) (by decide) | skip
          all_goals
            refine J_run 200 ?_
            iterate 24 (all_goals (try (first
              | (simp (maxSteps := 1000000) (disch := omega) only [go_sem, hdv, e4, hb1])
              | ((with_reducible refine CallA.pure cg ?_ ?_); (· simp (disch := omega) only [go_sem, hdv, e4, hb1]); rintro _ _ ⟨rfl, rfl⟩)
              | ((with_reducible first | refine gDt ?_ ?_ | refine gDf ?_ ?_ | refine gNt ?_ ?_ | refine gNf ?_ ?_ | refine cD ?_ ?_ | refine cN ?_ ?_ | refine cB ?_ ?_ | refine gB ?_ ?_) <;> intro h)
              | with_reducible first | refine And.intro ?_ ?_ | refine J_seq ?_ | refine J_block ?_ | refine J_inBlock ?_ | refine rC ?_ | refine rR ?_ | refine rE ?_ | refine rG ?_ | refine FinQ.now ?_ | refine FinQ.end ?_)))
            refine LoopEnd.mk (i + 1, gl, d2) ⟨hlt, hHs, hd2⟩ (by simp only; omega) ?_ ?_
            · simp [go_sem, encNet]
            · simp
    have hie : i = n.devs.length := by omega
    subst hie
    clear hlt hi
    have hL := by_locks hno (f := posK n) (gl := gl) hH.up hH.kd (fun g _ => by unfold posK; split <;> simp)
    have hll : gl.length = (gl.map (lkBy (posK n))).length := by simp
    rw [hll]
    obtain ⟨lk, hlkd⟩ : ∃ lk, gl.map (lkBy (posK n)) = lk := ⟨_, rfl⟩
    rw [hlkd] at hL ⊢
    clear hH hll hgll
    have hlk := hL.len
    have hLk := locks_iff.2 hL
    have cz := zoneD d2 hd2 n (by omega) (by omega)
    simp only [encNet] at cz
    refine J_frz [2] ?_
    simp only [go_sem, take_lm]
    refine J_run 200 ?_
    iterate 5 (all_goals (try (first
      | (simp (maxSteps := 1000000) (disch := omega) only [go_sem])
      | ((with_reducible refine CallA.mut [0] ?_ ?_ ?_ ?_ cz ?_); (· simp (disch := omega) only [go_sem]); (· simp (disch := omega) only [go_sem]); (· simp (disch := omega) only [go_sem]); (· simp (disch := omega) only [go_sem]); rintro _ _ ⟨z, d3, hd3, hz0, hz, rfl, rfl⟩)
      | ((with_reducible first | refine gDt ?_ ?_ | refine gDf ?_ ?_ | refine gNt ?_ ?_ | refine gNf ?_ ?_ | refine cD ?_ ?_ | refine cN ?_ ?_ | refine cB ?_ ?_ | refine gB ?_ ?_) <;> intro h)
      | with_reducible first | refine And.intro ?_ ?_ | refine J_seq ?_ | refine J_block ?_ | refine J_inBlock ?_ | refine rC ?_ | refine rR ?_ | refine rE ?_ | refine rG ?_ | refine FinQ.now ?_ | refine FinQ.end ?_)))
    have hzl := rising_len (by omega) hz
    have zz : zoneChk n z = 0 := zoneChk_ok hno hz0 hz
    have hle : lockedE n lk z = 0 := by unfold lockedE; rw [if_neg (by simp [hLk]), zz]
    have cS := SecureF n hno.sized lk (by omega) z (by omega)
    have cC := countedF n hno.sized lk (by omega) z (by omega)
    have cW := rWorst n hno.sized lk (by omega)
    have cG := rGaps n hno.sized lk (by omega)
    rw [show secureR n lk z = (enoughB n z (gapsOf n lk) && decide (missL n z (countL n lk z) = []), 0) by unfold secureR; rw [if_neg (by simp [hle])]] at cS
    rw [show countedR n lk z = (countL n lk z, 0) by unfold countedR; rw [if_neg (by simp [hle])]] at cC
    rw [show worstR n lk = (worstTo n lk n.devs.length, 0) by unfold worstR; rw [if_neg (by simp [hLk])]] at cW
    rw [show gapsR n lk = (gapsOf n lk, 0) by unfold gapsR; rw [if_neg (by simp [hLk])]] at cG
    have hwl := worstTo_len (n := n) (l := lk) (i := n.devs.length)
    have hgl := gapsOf_len (n := n) (l := lk)
    have hgm := gapsOf_gaps n lk
    have hcl := countL_len (n := n) (l := lk) (z := z)
    have hcm := fun (v : Int) (h : v ∈ countL n lk z) => countL_mem hno hz h
    have hdead := fun (s : List Int) (h1 : s.length = n.devs.length) (h2 : WithinTo (worstTo n lk n.devs.length) s) (h3 : enoughB n z (gapsOf n lk) = true) (v : Int) (hv : v ∈ z) => within_dead hno hz h1 h2 h3 hv
    have hprot := fun (h : missL n z (countL n lk z) = []) (v : Int) (hv : v ∈ z) => (missL_nil.1 h) v hv
    obtain ⟨m, hm⟩ : ∃ m, worstTo n lk n.devs.length = m := ⟨_, rfl⟩
    obtain ⟨g, hg⟩ : ∃ g, gapsOf n lk = g := ⟨_, rfl⟩
    obtain ⟨E, hE⟩ : ∃ E, countL n lk z = E := ⟨_, rfl⟩
    rw [hm] at cW hwl hdead
    rw [hg] at cG hgl cS hgm hdead
    rw [hE] at cC cS hcl hcm hprot
    obtain ⟨sec, hsec⟩ : ∃ b, (enoughB n z g && decide (missL n z E = [])) = b := ⟨_, rfl⟩
    rw [hsec] at cS
    simp only [encNet] at cS cC cW cG
    cases sec with
    | false =>
      iterate 24 (all_goals (try (first
        | (simp (maxSteps := 1000000) (disch := omega) only [go_sem])
        | ((with_reducible refine CallA.pure cS ?_ ?_); (· simp (disch := omega) only [go_sem]); rintro _ _ ⟨rfl, rfl⟩)
        | ((with_reducible refine CallA.pure cC ?_ ?_); (· simp (disch := omega) only [go_sem]); rintro _ _ ⟨rfl, rfl⟩)
        | ((with_reducible refine CallA.pure ca ?_ ?_); (· simp (disch := omega) only [go_sem]); rintro _ _ ⟨rfl, rfl⟩)
        | ((with_reducible first | refine gDt ?_ ?_ | refine gDf ?_ ?_ | refine gNt ?_ ?_ | refine gNf ?_ ?_ | refine cD ?_ ?_ | refine cN ?_ ?_ | refine cB ?_ ?_ | refine gB ?_ ?_) <;> intro h)
        | with_reducible first | refine And.intro ?_ ?_ | refine J_seq ?_ | refine J_block ?_ | refine J_inBlock ?_ | refine rC ?_ | refine rR ?_ | refine rE ?_ | refine rG ?_ | refine FinQ.now ?_ | refine FinQ.end ?_)))
    | true =>
    rw [Bool.and_eq_true, decide_eq_true_eq] at hsec
    have hdead := fun (s : List Int) (h1 : s.length = n.devs.length) (h2 : WithinTo m s) (v : Int) (hv : v ∈ z) => hdead s h1 h2 hsec.1 v hv
    have hprot := hprot hsec.2
    have cWi := fun (d : Dk) (hd : d.ok) => withinD d hd m (by omega)
    have cCO := fun (s : List Int) (h1 : s.length = n.devs.length) (h2 : posChk n s 2 = 0) => coloursO n hno s h2 h1
    have cCF := fun (s : List Int) (h1 : s.length = n.devs.length) (h2 : posChk n s 2 = 0) => coloursF n hno s h2 h1
    have cP := fun (s : List Int) (h1 : s.length = n.devs.length) (h2 : posChk n s 2 = 0) => partsF n hno s h2 h1
    simp only [encNet] at cCO cCF cP
    iterate 24 (all_goals (try (first
      | (simp (maxSteps := 1000000) (disch := omega) only [go_sem])
      | ((with_reducible refine CallA.pure cS ?_ ?_); (· simp (disch := omega) only [go_sem]); rintro _ _ ⟨rfl, rfl⟩)
      | ((with_reducible refine CallA.pure cC ?_ ?_); (· simp (disch := omega) only [go_sem]); rintro _ _ ⟨rfl, rfl⟩)
      | ((with_reducible refine CallA.pure cW ?_ ?_); (· simp (disch := omega) only [go_sem]); rintro _ _ ⟨rfl, rfl⟩)
      | ((with_reducible refine CallA.pure cG ?_ ?_); (· simp (disch := omega) only [go_sem]); rintro _ _ ⟨rfl, rfl⟩)
      | ((with_reducible first | refine gDt ?_ ?_ | refine gDf ?_ ?_ | refine gNt ?_ ?_ | refine gNf ?_ ?_ | refine cD ?_ ?_ | refine cN ?_ ?_ | refine cB ?_ ?_ | refine gB ?_ ?_) <;> intro h)
      | with_reducible first | refine And.intro ?_ ?_ | refine J_seq ?_ | refine J_block ?_ | refine J_inBlock ?_ | refine rC ?_ | refine rR ?_ | refine rE ?_ | refine rG ?_ | refine FinQ.now ?_ | refine FinQ.end ?_)))
    refine J_mergeN 0 [] (fun _ : Unit => []) (fun _ => [.box (encDk d3), .box (encNet n)]) (fun _ => True) ?_ ?_
    · refine J_nil ?_
      refine .mk () trivial ?_ ?_
      · simp [go_sem, encNet]
      · simp
    rintro _ _
    simp only [go_sem, encNet]
    refine J_for ([19, 20, 21, 23, 24, 25, 27, 28, 30] ++ upto 135 217) (fun x : Nat × Dk => [(18, .raw (.int .i64 x.1))]) (fun x => [.box (encDk x.2), .box (encNet n)]) (fun x => x.1 ≤ 4 ∧ x.2.ok) (fun x => 4 - x.1) (0, d3) ⟨by simp, hd3⟩ (.le (by simp [go_sem, encNet]) (by simp)) ?_
    rintro ⟨k, d4⟩ ⟨hk, hd4⟩
    simp only [encNet] at hk hd4 ⊢
    by_cases hk4 : k < 4
    · refine J_run 200 ?_
      iterate 12 (all_goals (try (first
        | (simp (maxSteps := 1000000) (disch := omega) only [go_sem])
        | ((with_reducible refine CallA.mut [0] ?_ ?_ ?_ ?_ (cWi _ hd4) ?_); (· simp (disch := omega) only [go_sem]); (· simp (disch := omega) only [go_sem]); (· simp (disch := omega) only [go_sem]); (· simp (disch := omega) only [go_sem]); rintro _ _ ⟨s, d5, hd5, hsl, hsW, rfl, rfl⟩)
        | ((with_reducible first | refine gDt ?_ ?_ | refine gDf ?_ ?_ | refine gNt ?_ ?_ | refine gNf ?_ ?_ | refine cD ?_ ?_ | refine cN ?_ ?_ | refine cB ?_ ?_ | refine gB ?_ ?_) <;> intro h)
        | with_reducible first | refine And.intro ?_ ?_ | refine J_seq ?_ | refine J_block ?_ | refine J_inBlock ?_ | refine rC ?_ | refine rR ?_ | refine rE ?_ | refine rG ?_ | refine FinQ.now ?_ | refine FinQ.end ?_)))
      have hsl' : s.length = n.devs.length := by omega
      refine CallA.keep [2] ?_ ?_ (cCO s hsl' (within_ok hno hsl' hsW)) ?_
      · simp only [go_sem, take_lm]
      · simp only [go_sem]
      rintro _ _ ⟨rfl, rfl⟩
      refine ⟨⟨rfl, fun o h => ?_⟩, ?_⟩
      · rw [List.mem_singleton.1 h]
        simp [Obj.flat, encN, AV.flat, AV.flatL]
      have hcl1 := cols_len (n := n) (st := s)
      have htk1 : List.take n.nodes.length ((cols n s).map encN) = (cols n s).map encN := List.take_of_length_le (by simp; omega)
      iterate 5 (all_goals (try (first
        | (simp (maxSteps := 1000000) (disch := omega) only [go_sem])
        | ((with_reducible first | refine gDt ?_ ?_ | refine gDf ?_ ?_ | refine gNt ?_ ?_ | refine gNf ?_ ?_ | refine cD ?_ ?_ | refine cN ?_ ?_ | refine cB ?_ ?_ | refine gB ?_ ?_) <;> intro h)
        | with_reducible first | refine And.intro ?_ ?_ | refine J_seq ?_ | refine J_block ?_ | refine J_inBlock ?_ | refine rC ?_ | refine rR ?_ | refine rE ?_ | refine rG ?_ | refine FinQ.now ?_ | refine FinQ.end ?_)))
      refine J_frz [3] ?_
      simp only [go_sem, htk1]
      refine J_for ([23] ++ upto 150 159) (fun i : Nat => [(149, .raw (.int .i64 i))]) (fun _ => [.box (encDk d5), .box (encNet n), .arr 1 (s.map encN)]) (fun i => i ≤ z.length) (fun i => z.length - i) 0 (by omega) (.le (by simp [go_sem, encNet]) (by simp)) ?_
      intro i hi
      simp only [encNet]
      by_cases hlt : i < z.length
      · have hgz := getD_N hlt
        have hzm := rising_mem hz (List.getElem_mem hlt)
        have hgc := getD_N (l := cols n s) (i := z[i].toNat) (by omega)
        have hcv : IntKind.i64.wrap ((BitVec.ofInt 64 ((cols n s)[z[i].toNat]'(by omega)) &&& BitVec.ofInt 64 1).toNat : Int) = if liveB n s z[i].toNat then 1 else 0 := cols_live (by omega)
        rw [hdead s hsl' hsW _ (List.getElem_mem hlt)] at hcv
        simp only [if_false, Bool.false_eq_true] at hcv
        refine J_run 200 ?_
        iterate 20 (all_goals (try (first
          | (simp (maxSteps := 1000000) (disch := omega) only [go_sem, hgz, hgc])
          | ((with_reducible first | refine gDt ?_ ?_ | refine gDf ?_ ?_ | refine gNt ?_ ?_ | refine gNf ?_ ?_ | refine cD ?_ ?_ | refine cN ?_ ?_ | refine cB ?_ ?_ | refine gB ?_ ?_) <;> intro h)
          | with_reducible first | refine And.intro ?_ ?_ | refine J_seq ?_ | refine J_block ?_ | refine J_inBlock ?_ | refine rC ?_ | refine rR ?_ | refine rE ?_ | refine rG ?_ | refine FinQ.now ?_ | refine FinQ.end ?_)))
        · rename_i h; exact absurd hcv h
        refine .mk (i + 1) hlt (by omega) ?_ ?_
        · simp [go_sem, encNet]
        · simp
      have hie : i = z.length := by omega
      subst hie
      clear hi hlt
      by_cases hg0 : g.length = 0
      · refine J_run 200 ?_
        iterate 12 (all_goals (try (first
          | (simp (maxSteps := 1000000) (disch := omega) only [go_sem, hg0])
          | ((with_reducible first | refine gDt ?_ ?_ | refine gDf ?_ ?_ | refine gNt ?_ ?_ | refine gNf ?_ ?_ | refine cD ?_ ?_ | refine cN ?_ ?_ | refine cB ?_ ?_ | refine gB ?_ ?_) <;> intro h)
          | with_reducible first | refine And.intro ?_ ?_ | refine J_seq ?_ | refine J_block ?_ | refine J_inBlock ?_ | refine rC ?_ | refine rR ?_ | refine rE ?_ | refine rG ?_ | refine FinQ.now ?_ | refine FinQ.end ?_)))
        refine .mk (k + 1, d5) ⟨by simp only; omega, hd5⟩ (by simp only; omega) ?_ ?_
        · simp [go_sem, encNet]
        · simp
      have xg := next d5 hd5 g.length ⟨by omega, by omega⟩
      have hs12 : ∀ x, x ∈ s → x = 1 ∨ x = 2 := fun x hx => by
        obtain ⟨i, hi, rfl⟩ := List.getElem_of_mem hx
        exact (hsW i hi).1
      refine J_run 200 ?_
      iterate 12 (all_goals (try (first
        | (simp (maxSteps := 1000000) (disch := omega) only [go_sem])
        | ((with_reducible refine CallA.mut [0] ?_ ?_ ?_ ?_ xg ?_); (· simp (disch := omega) only [go_sem]); (· simp (disch := omega) only [go_sem]); (· simp (disch := omega) only [go_sem]); (· simp (disch := omega) only [go_sem]); rintro _ _ ⟨y, d6, hd6, hy0, hy1, rfl, rfl⟩)
        | ((with_reducible first | refine gDt ?_ ?_ | refine gDf ?_ ?_ | refine gNt ?_ ?_ | refine gNf ?_ ?_ | refine cD ?_ ?_ | refine cN ?_ ?_ | refine cB ?_ ?_ | refine gB ?_ ?_) <;> intro h)
        | with_reducible first | refine And.intro ?_ ?_ | refine J_seq ?_ | refine J_block ?_ | refine J_inBlock ?_ | refine rC ?_ | refine rR ?_ | refine rE ?_ | refine rG ?_ | refine FinQ.now ?_ | refine FinQ.end ?_)))
      have hyl : y.toNat < g.length := by omega
      have hgy := getD_N hyl
      have hgb := rising_mem hgm.up (List.getElem_mem hyl)
      have hse := set_encN (l := s) (k := (g[y.toNat]'hyl).toNat) (x := 2) (by omega)
      obtain ⟨s', hs'⟩ : ∃ s', s.set (g[y.toNat]'hyl).toNat 2 = s' := ⟨_, rfl⟩
      have hsl2 : s'.length = n.devs.length := by rw [← hs', List.length_set]; omega
      have hp2 : posChk n s' 2 = 0 := posChk_ok hno hsl2 fun x hx => by
        rw [← hs'] at hx
        rcases List.mem_or_eq_of_mem_set hx with h | h
        · have := hs12 x h; omega
        · omega
      rw [hs'] at hse
      have htk2 : List.take s.length (s'.map encN) = s'.map encN := List.take_of_length_le (by simp; omega)
      have cC2 := cCF s' hsl2 hp2
      have cP2 := cP s' hsl2 hp2
      iterate 30 (all_goals (try (first
        | (simp (maxSteps := 1000000) (disch := omega) only [go_sem, hgy, hse, htk2])
        | ((with_reducible refine CallA.give [2] ?_ ?_ cC2 ?_); (· simp (disch := omega) only [go_sem, hgy, hse, htk2]); (· simp (disch := omega) only [go_sem, hgy, hse, htk2]); rintro _ _ ⟨rfl, rfl⟩)
        | ((with_reducible refine CallA.pure cP2 ?_ ?_); (· simp (disch := omega) only [go_sem, hgy, hse, htk2]); rintro _ _ ⟨parts, hP, rfl, rfl⟩)
        | ((with_reducible first | refine gDt ?_ ?_ | refine gDf ?_ ?_ | refine gNt ?_ ?_ | refine gNf ?_ ?_ | refine cD ?_ ?_ | refine cN ?_ ?_ | refine cB ?_ ?_ | refine gB ?_ ?_) <;> intro h)
        | with_reducible first | refine And.intro ?_ ?_ | refine J_seq ?_ | refine J_block ?_ | refine J_inBlock ?_ | refine rC ?_ | refine rR ?_ | refine rE ?_ | refine rG ?_ | refine FinQ.now ?_ | refine FinQ.end ?_)))
      have hpl := hP.lab.len
      have hcl2 := cols_len (n := n) (st := s')
      refine J_for ([27, 28, 30] ++ upto 187 217) (fun i : Nat => [(186, .raw (.int .i64 i))]) (fun _ => [.box (encDk d6), .box (encNet n)]) (fun i => i ≤ z.length) (fun i => z.length - i) 0 (by omega) (.le (by simp [go_sem, encNet]) (by simp)) ?_
      intro i hi
      simp only [encNet]
      by_cases hlt : i < z.length
      · have hgz := getD_N hlt
        have hzm := rising_mem hz (List.getElem_mem hlt)
        have hgc := getD_N (l := cols n s') (i := z[i].toNat) (by omega)
        have hcv : IntKind.i64.wrap ((BitVec.ofInt 64 ((cols n s')[z[i].toNat]'(by omega)) &&& BitVec.ofInt 64 1).toNat : Int) = if liveB n s' z[i].toNat then 1 else 0 := cols_live (by omega)
        obtain ⟨b, hb⟩ : ∃ b, liveB n s' z[i].toNat = b := ⟨_, rfl⟩
        rw [hb] at hcv
        cases b with
        | false =>
          simp only [if_false, Bool.false_eq_true] at hcv
          refine J_run 200 ?_
          iterate 20 (all_goals (try (first
            | (simp (maxSteps := 1000000) (disch := omega) only [go_sem, hgz, hgc])
            | ((with_reducible first | refine gDt ?_ ?_ | refine gDf ?_ ?_ | refine gNt ?_ ?_ | refine gNf ?_ ?_ | refine cD ?_ ?_ | refine cN ?_ ?_ | refine cB ?_ ?_ | refine gB ?_ ?_) <;> intro h)
            | with_reducible first | refine And.intro ?_ ?_ | refine J_seq ?_ | refine J_block ?_ | refine J_inBlock ?_ | refine rC ?_ | refine rR ?_ | refine rE ?_ | refine rG ?_ | refine FinQ.now ?_ | refine FinQ.end ?_)))
          · refine .mk (i + 1) hlt (by omega) ?_ ?_
            · simp [go_sem, encNet]
            · simp
          all_goals (rename_i h; exact absurd hcv h)
        | true =>
          simp only [if_true] at hcv
          have hna := near_all hno hP hcm hzm (hprot _ (List.getElem_mem hlt)) hb
          refine J_run 200 ?_
          iterate 20 (all_goals (try (first
            | (simp (maxSteps := 1000000) (disch := omega) only [go_sem, hgz, hgc])
            | ((with_reducible first | refine gDt ?_ ?_ | refine gDf ?_ ?_ | refine gNt ?_ ?_ | refine gNf ?_ ?_ | refine cD ?_ ?_ | refine cN ?_ ?_ | refine cB ?_ ?_ | refine gB ?_ ?_) <;> intro h)
            | with_reducible first | refine And.intro ?_ ?_ | refine J_seq ?_ | refine J_block ?_ | refine J_inBlock ?_ | refine rC ?_ | refine rR ?_ | refine rE ?_ | refine rG ?_ | refine FinQ.now ?_ | refine FinQ.end ?_)))
          · rename_i h; exact absurd (hcv.symm.trans h) (by decide)
          refine J_for ([30] ++ upto 199 215) (fun j : Nat => [(198, .raw (.int .i64 j)), (28, .raw (.bool (nearTo parts E z[i] j)))]) (fun _ => [.box (encDk d6), .box (encNet n)]) (fun j => j ≤ E.length) (fun j => E.length - j) 0 (by omega) (.le (by simp [go_sem, encNet, nearTo]) (by simp)) ?_
          intro j hj
          simp only [encNet]
          by_cases hjl : j < E.length
          · have hge := getD_N hjl
            have heb := hcm _ (List.getElem_mem hjl)
            have hpu := getD_N (l := parts) (i := (E[j]'hjl).toNat) (by omega)
            have hpv := getD_N (l := parts) (i := z[i].toNat) (by omega)
            have hnx := nearTo_next (parts := parts) (v := z[i]) hjl
            rw [getD_get (show (E[j]'hjl).toNat < parts.length by omega), getD_get (show z[i].toNat < parts.length by omega)] at hnx
            obtain ⟨nb, hnb⟩ : ∃ b, nearTo parts E z[i] j = b := ⟨_, rfl⟩
            obtain ⟨eb, heb2⟩ : ∃ b, decide (parts[(E[j]'hjl).toNat]'(by omega) = parts[z[i].toNat]'(by omega)) = b := ⟨_, rfl⟩
            rw [hnb, heb2] at hnx
            rw [hnb]
            cases nb <;> cases eb
            all_goals
              refine J_run 200 ?_
              iterate 20 (all_goals (try (first
                | ((with_reducible refine J_draw (id := 49) 200 [] plan3_49 (by kernel_rfl) (by kernel_rfl) ?_); delta plan3_49)
                | (simp (maxSteps := 1000000) (disch := omega) only [go_sem, hge, hpu, hpv, hgz, heb2])
                | ((with_reducible first | refine gDt ?_ ?_ | refine gDf ?_ ?_ | refine gNt ?_ ?_ | refine gNf ?_ ?_ | refine cD ?_ ?_ | refine cN ?_ ?_ | refine cB ?_ ?_ | refine gB ?_ ?_ | refine stepGuard_dect ?_ ?_ | refine stepGuard_decf ?_ ?_ | refine stepGuard_ndect ?_ ?_ | refine stepGuard_ndecf ?_ ?_ | refine stepGuard_by ?_ ?_) <;> intro h)
                | with_reducible first | refine And.intro ?_ ?_ | refine J_seq ?_ | refine J_block ?_ | refine J_inBlock ?_ | refine rC ?_ | refine rR ?_ | refine rE ?_ | refine rG ?_ | refine FinQ.now ?_ | refine FinQ.end ?_)))
            all_goals
              refine .mk (j + 1) hjl (by omega) ?_ ?_
              · rw [hnx]; simp [go_sem, encNet]
              · simp
          have hje : j = E.length := by omega
          subst hje
          rw [hna]
          refine J_run 200 ?_
          iterate 12 (all_goals (try (first
            | (simp (maxSteps := 1000000) (disch := omega) only [go_sem])
            | ((with_reducible first | refine gDt ?_ ?_ | refine gDf ?_ ?_ | refine gNt ?_ ?_ | refine gNf ?_ ?_ | refine cD ?_ ?_ | refine cN ?_ ?_ | refine cB ?_ ?_ | refine gB ?_ ?_) <;> intro h)
            | with_reducible first | refine And.intro ?_ ?_ | refine J_seq ?_ | refine J_block ?_ | refine J_inBlock ?_ | refine rC ?_ | refine rR ?_ | refine rE ?_ | refine rG ?_ | refine FinQ.now ?_ | refine FinQ.end ?_)))
          refine .mk (i + 1) hlt (by omega) ?_ ?_
          · simp [go_sem, encNet]
          · simp
      have hie : i = z.length := by omega
      subst hie
      refine J_run 200 ?_
      iterate 12 (all_goals (try (first
        | (simp (maxSteps := 1000000) (disch := omega) only [go_sem])
        | ((with_reducible first | refine gDt ?_ ?_ | refine gDf ?_ ?_ | refine gNt ?_ ?_ | refine gNf ?_ ?_ | refine cD ?_ ?_ | refine cN ?_ ?_ | refine cB ?_ ?_ | refine gB ?_ ?_) <;> intro h)
        | with_reducible first | refine And.intro ?_ ?_ | refine J_seq ?_ | refine J_block ?_ | refine J_inBlock ?_ | refine rC ?_ | refine rR ?_ | refine rE ?_ | refine rG ?_ | refine FinQ.now ?_ | refine FinQ.end ?_)))
      refine .mk (k + 1, d6) ⟨by simp only; omega, hd6⟩ (by simp only; omega) ?_ ?_
      · simp [go_sem, encNet]
      · simp
    · refine J_run 200 ?_
      iterate 12 (all_goals (try (first
        | (simp (maxSteps := 1000000) (disch := omega) only [go_sem])
        | ((with_reducible refine CallA.pure ca ?_ ?_); (· simp (disch := omega) only [go_sem]); rintro _ _ ⟨rfl, rfl⟩)
        | ((with_reducible first | refine gDt ?_ ?_ | refine gDf ?_ ?_ | refine gNt ?_ ?_ | refine gNf ?_ ?_ | refine cD ?_ ?_ | refine cN ?_ ?_ | refine cB ?_ ?_ | refine gB ?_ ?_) <;> intro h)
        | with_reducible first | refine And.intro ?_ ?_ | refine J_seq ?_ | refine J_block ?_ | refine J_inBlock ?_ | refine rC ?_ | refine rR ?_ | refine rE ?_ | refine rG ?_ | refine FinQ.now ?_ | refine FinQ.end ?_)))
  · rw [decide_eq_false h400] at cf
    refine holds_of Tryd.func3 rfl rfl ?_
    refine J_run 200 ?_
    delta Tryd.f3
    repeat' (first
      | (simp (maxSteps := 1000000) (disch := omega) only [go_sem])
      | ((with_reducible refine CallA.pure ca ?_ ?_); (· simp (disch := omega) only [go_sem]); rintro _ _ ⟨rfl, rfl⟩)
      | ((with_reducible refine CallA.pure cf ?_ ?_); (· simp (disch := omega) only [go_sem]); rintro _ _ ⟨rfl, rfl⟩)
      | ((with_reducible first | refine gDt ?_ ?_ | refine gDf ?_ ?_ | refine gNt ?_ ?_ | refine gNf ?_ ?_ | refine cD ?_ ?_ | refine cN ?_ ?_ | refine cB ?_ ?_ | refine gB ?_ ?_) <;> intro h)
      | with_reducible first | refine And.intro ?_ ?_ | refine J_seq ?_ | refine J_block ?_ | refine J_inBlock ?_ | refine rC ?_ | refine rR ?_ | refine rE ?_ | refine rG ?_ | refine FinQ.now ?_ | refine FinQ.end ?_)
theorem earthingHolds_av (x : (Sh.slice (.int .i64)).Den) (o : (Sh.slice (.int .i64)).Ok x) : Fn1 Tryd.prog GT0 3 [(Sh.slice (.int .i64)).av x] (.raw (.bool true)) [] := earthingHolds x (nums_ok o)
end Go.Proofs.YthgcmeniecaemaaDoor.Abs
