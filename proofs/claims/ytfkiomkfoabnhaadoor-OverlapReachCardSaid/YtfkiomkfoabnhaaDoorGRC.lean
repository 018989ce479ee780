/- The closure of OverlapReach: the map that it makes. -/
import Derived.Test.YtfkiomkfoabnhaaDoorGRP
import Derived.Test.YtfkiomkfoabnhaaDoorRV
import Derived.Test.YtfkiomkfoabnhaaDoorAbsX
namespace Go.Proofs.YtfkiomkfoabnhaaDoor.Abs
set_option linter.unusedSimpArgs false
set_option linter.unusedVariables false
set_option maxRecDepth 100000
open Go Go.RowKit

def ReachMap (n : Net) (x : Doc) (r : AV) (os : List Obj) : Prop := ∃ ks : List Int, ks.Nodup ∧ (∀ v, v ∈ ks ↔ v ∈ regD n x) ∧ r = .mref 0 ∧ os = [.mp (.int .i64) (setMap ks)]
theorem zone_take {l : List Int} {N : Int} (hr : rising l N = true) {i : Nat} (hi : i < l.length) : mput (setMap (l.take i)) (.int .i64 l[i]) (.raw (.bool true)) = setMap (l.take (i + 1)) := by
  rw [setMap_put]
  congr 1
  unfold addK
  rw [if_neg, List.take_succ_eq_append_getElem hi]
  intro h
  obtain ⟨j, hj, e⟩ := List.getElem_of_mem h
  rw [List.getElem_take] at e
  rw [List.length_take] at hj
  have hp := (rising_pair.1 hr).1
  have := List.pairwise_iff_getElem.1 hp j i (by omega) hi (by omega)
  omega
set_option maxHeartbeats 32000000 in
theorem reachF (n : Net) (hno : n.ok) (x : Doc) (hx : x.sized) (hc : docChk n x = 0) : Holds Tryd.prog GT0 26 [.agg (encDoc x), .cptr (encNet n)] [] (ReachMap n x) := by
  have hdl := hno.dl
  have hnl := hno.nl
  have hzl := hx.zl
  have hll := hx.ll
  obtain ⟨_, _, hz, _, hl, _, _⟩ := docChk_zero hc
  obtain ⟨_, hz0, hr⟩ := zoneChk_zero hz
  refine holds_of Tryd.func26 rfl rfl ?_
  refine J_run 200 ?_
  delta Tryd.f26
  simp only [encNet, encDoc]
  repeat' (first
    | (simp (maxSteps := 1000000) (disch := omega) only [go_sem, Nat.reduceLT])
    | ((with_reducible first | refine gDt ?_ ?_ | refine gDf ?_ ?_ | refine gNt ?_ ?_ | refine gNf ?_ ?_ | refine cD ?_ ?_ | refine cN ?_ ?_ | refine cB ?_ ?_ | refine gB ?_ ?_) <;> intro h)
    | with_reducible first | refine And.intro ?_ ?_ | refine J_seq ?_ | refine J_block ?_ | refine J_inBlock ?_ | refine rC ?_ | refine rR ?_ | refine rE ?_ | refine rG ?_)
  refine J_for ([6] ++ upto 17 22) (fun i : Nat => [(16, .raw (.int .i64 i))]) (fun i => [.box (encDoc x), .mp (.int .i64) (setMap (x.zone.take i))]) (fun i => i ≤ x.zone.length) (fun i => x.zone.length - i) 0 (by omega) (.le (by simp [go_sem, encDoc, setMap]) (by simp)) ?_
  intro i hi
  simp only [encDoc]
  by_cases hlt : i < x.zone.length
  · have hg := getD_N hlt
    have hP := zone_take hr hlt
    refine J_run 200 ?_
    repeat' (first
      | (simp (maxSteps := 1000000) (disch := omega) only [go_sem, Nat.reduceLT, hg, hP])
      | ((with_reducible first | refine gDt ?_ ?_ | refine gDf ?_ ?_ | refine gNt ?_ ?_ | refine gNf ?_ ?_ | refine cD ?_ ?_ | refine cN ?_ ?_ | refine cB ?_ ?_ | refine gB ?_ ?_) <;> intro h)
      | with_reducible first | refine And.intro ?_ ?_ | refine J_seq ?_ | refine J_block ?_ | refine J_inBlock ?_ | refine rC ?_ | refine rR ?_ | refine rE ?_ | refine rG ?_)
    refine .mk (i + 1) hlt (by omega) ?_ ?_
    · simp [go_sem, encDoc]
    · simp
  have hie : i = x.zone.length := by omega
  subst hie
  rw [List.take_length]
  refine J_run 200 ?_
  repeat' (first
    | (simp (maxSteps := 1000000) (disch := omega) only [go_sem, Nat.reduceLT])
    | ((with_reducible first | refine gDt ?_ ?_ | refine gDf ?_ ?_ | refine gNt ?_ ?_ | refine gNf ?_ ?_ | refine cD ?_ ?_ | refine cN ?_ ?_ | refine cB ?_ ?_ | refine gB ?_ ?_) <;> intro h)
    | with_reducible first | refine And.intro ?_ ?_ | refine J_seq ?_ | refine J_block ?_ | refine J_inBlock ?_ | refine rC ?_ | refine rR ?_ | refine rE ?_ | refine rG ?_)
  refine J_for ([7, 8, 9, 11] ++ upto 27 87) (fun q : Nat × List Int => [(26, .raw (.int .i64 q.1))]) (fun q => [.box (encDoc x), .mp (.int .i64) (setMap q.2)]) (fun q => q.1 ≤ n.nodes.length ∧ Pass n x q.1 0 q.2) (fun q => n.nodes.length - q.1) (0, x.zone) ⟨by simp, Pass.first hc⟩ (.le (by simp [go_sem, encDoc]) (by simp)) ?_
  rintro ⟨p, ks0⟩ ⟨hp, hP⟩
  simp only [encDoc] at hp hP ⊢
  by_cases hpt : p < n.nodes.length
  · refine J_run 200 ?_
    repeat' (first
      | (simp (maxSteps := 1000000) (disch := omega) only [go_sem, Nat.reduceLT])
      | ((with_reducible first | refine gDt ?_ ?_ | refine gDf ?_ ?_ | refine gNt ?_ ?_ | refine gNf ?_ ?_ | refine cD ?_ ?_ | refine cN ?_ ?_ | refine cB ?_ ?_ | refine gB ?_ ?_) <;> intro h)
      | with_reducible first | refine And.intro ?_ ?_ | refine J_seq ?_ | refine J_block ?_ | refine J_inBlock ?_ | refine rC ?_ | refine rR ?_ | refine rE ?_ | refine rG ?_)
    refine J_for ([7, 8, 9, 11] ++ upto 32 86) (fun q : Nat × List Int => [(31, .raw (.int .i64 q.1))]) (fun q => [.box (encDoc x), .mp (.int .i64) (setMap q.2)]) (fun q => q.1 ≤ n.devs.length ∧ Pass n x p q.1 q.2) (fun q => n.devs.length - q.1) (0, ks0) ⟨by simp, hP⟩ (.le (by simp [go_sem, encDoc]) (by simp)) ?_
    rintro ⟨i, ks⟩ ⟨hi, hP⟩
    simp only [encDoc] at hi hP ⊢
    by_cases hlt : i < n.devs.length
    · have hgd := getD_Dv hlt
      have hde : n.devs[i]? = some n.devs[i] := List.getElem?_eq_getElem hlt
      have cj := rJoins n.devs[i].kind
      have cg := refGap n.devs[i].kind
      refine J_run 200 ?_
      repeat' (first
        | (simp (maxSteps := 1000000) (disch := omega) only [go_sem, hgd, Nat.reduceLT])
        | ((with_reducible first | refine gDt ?_ ?_ | refine gDf ?_ ?_ | refine gNt ?_ ?_ | refine gNf ?_ ?_ | refine cD ?_ ?_ | refine cN ?_ ?_ | refine cB ?_ ?_ | refine gB ?_ ?_) <;> intro h)
        | with_reducible first | refine And.intro ?_ ?_ | refine J_seq ?_ | refine J_block ?_ | refine J_inBlock ?_ | refine rC ?_ | refine rR ?_ | refine rE ?_ | refine rG ?_)
      refine J_for ([11] ++ upto 40 60) (fun k : Nat => [(39, .raw (.int .i64 k)), (9, .raw (.bool (opensB n (x.locks.take k) i)))]) (fun k => [.box (encDoc x), .mp (.int .i64) (setMap ks), .box (encDv n.devs[i])]) (fun k => k ≤ x.locks.length) (fun k => x.locks.length - k) 0 (by omega) (.le (by simp [go_sem, encDoc, encDv, opensB]) (by simp)) ?_
      intro k hk
      simp only [encDoc, encDv]
      by_cases hkt : k < x.locks.length
      · have hgl := getD_Lk hkt
        have tn := opens_next (n := n) (i := i) hkt
        have eo : opB n i x.locks[k] = (decide (x.locks[k].dev = (i : Int)) && decide (x.locks[k].pos = 1) && gapK n.devs[i].kind) := by unfold opB; rw [getD_get hlt]
        rw [eo] at tn
        obtain ⟨W, hW⟩ : ∃ W, opensB n (x.locks.take k) i = W := ⟨_, rfl⟩
        obtain ⟨g, hg⟩ : ∃ W, gapK n.devs[i].kind = W := ⟨_, rfl⟩
        rw [hW, hg] at tn
        rw [hW]
        rw [hg] at cg
        cases W
        · by_cases hd : x.locks[k].dev = (i : Int)
          · have ed := decide_eq_true hd
            by_cases ho : x.locks[k].pos = 1
            · have eo := decide_eq_true ho
              rw [ed, eo] at tn
              cases g
              all_goals
                simp only [Bool.false_or, Bool.true_and, Bool.and_true, Bool.and_false] at tn
                refine J_run 200 ?_
                repeat' (first
                  | (simp (maxSteps := 1000000) (disch := omega) only [go_sem, hgl, ed, eo, Nat.reduceLT])
                  | ((with_reducible refine CallA.pure cg ?_ ?_); (· simp (disch := omega) only [go_sem, hgl, ed, eo, Nat.reduceLT]); rintro _ _ ⟨rfl, rfl⟩)
                  | ((with_reducible first | refine gDt ?_ ?_ | refine gDf ?_ ?_ | refine gNt ?_ ?_ | refine gNf ?_ ?_ | refine cD ?_ ?_ | refine cN ?_ ?_ | refine cB ?_ ?_ | refine gB ?_ ?_) <;> intro h)
                  | with_reducible first | refine And.intro ?_ ?_ | refine J_seq ?_ | refine J_block ?_ | refine J_inBlock ?_ | refine rC ?_ | refine rR ?_ | refine rE ?_ | refine rG ?_)
                refine .mk (k + 1) hkt (by omega) ?_ ?_
                · rw [tn]; simp [go_sem, encDoc, encDv]
                · simp
            · have eo := decide_eq_false ho
              rw [ed, eo] at tn
              simp only [Bool.false_or, Bool.true_and, Bool.and_false, Bool.false_and] at tn
              refine J_run 200 ?_
              repeat' (first
                | (simp (maxSteps := 1000000) (disch := omega) only [go_sem, hgl, ed, eo, Nat.reduceLT])
                | ((with_reducible refine CallA.pure cg ?_ ?_); (· simp (disch := omega) only [go_sem, hgl, ed, eo, Nat.reduceLT]); rintro _ _ ⟨rfl, rfl⟩)
                | ((with_reducible first | refine gDt ?_ ?_ | refine gDf ?_ ?_ | refine gNt ?_ ?_ | refine gNf ?_ ?_ | refine cD ?_ ?_ | refine cN ?_ ?_ | refine cB ?_ ?_ | refine gB ?_ ?_) <;> intro h)
                | with_reducible first | refine And.intro ?_ ?_ | refine J_seq ?_ | refine J_block ?_ | refine J_inBlock ?_ | refine rC ?_ | refine rR ?_ | refine rE ?_ | refine rG ?_)
              refine .mk (k + 1) hkt (by omega) ?_ ?_
              · rw [tn]; simp [go_sem, encDoc, encDv]
              · simp
          · have ed := decide_eq_false hd
            rw [ed] at tn
            simp only [Bool.false_or, Bool.false_and] at tn
            refine J_run 200 ?_
            repeat' (first
              | (simp (maxSteps := 1000000) (disch := omega) only [go_sem, hgl, ed, Nat.reduceLT])
              | ((with_reducible refine CallA.pure cg ?_ ?_); (· simp (disch := omega) only [go_sem, hgl, ed, Nat.reduceLT]); rintro _ _ ⟨rfl, rfl⟩)
              | ((with_reducible first | refine gDt ?_ ?_ | refine gDf ?_ ?_ | refine gNt ?_ ?_ | refine gNf ?_ ?_ | refine cD ?_ ?_ | refine cN ?_ ?_ | refine cB ?_ ?_ | refine gB ?_ ?_) <;> intro h)
              | with_reducible first | refine And.intro ?_ ?_ | refine J_seq ?_ | refine J_block ?_ | refine J_inBlock ?_ | refine rC ?_ | refine rR ?_ | refine rE ?_ | refine rG ?_)
            refine .mk (k + 1) hkt (by omega) ?_ ?_
            · rw [tn]; simp [go_sem, encDoc, encDv]
            · simp
        · simp only [Bool.true_or] at tn
          refine J_run 200 ?_
          repeat' (first
            | (simp (maxSteps := 1000000) (disch := omega) only [go_sem, hgl, Nat.reduceLT])
            | ((with_reducible refine CallA.pure cg ?_ ?_); (· simp (disch := omega) only [go_sem, hgl, Nat.reduceLT]); rintro _ _ ⟨rfl, rfl⟩)
            | ((with_reducible first | refine gDt ?_ ?_ | refine gDf ?_ ?_ | refine gNt ?_ ?_ | refine gNf ?_ ?_ | refine cD ?_ ?_ | refine cN ?_ ?_ | refine cB ?_ ?_ | refine gB ?_ ?_) <;> intro h)
            | with_reducible first | refine And.intro ?_ ?_ | refine J_seq ?_ | refine J_block ?_ | refine J_inBlock ?_ | refine rC ?_ | refine rR ?_ | refine rE ?_ | refine rG ?_)
          refine .mk (k + 1) hkt (by omega) ?_ ?_
          · rw [tn]; simp [go_sem, encDoc, encDv]
          · simp
      · have hke : k = x.locks.length := by omega
        subst hke
        rw [List.take_length]
        cases hJ : joinsK n.devs[i].kind with
        | false =>
          rw [hJ] at cj
          have hsk := hP.skip (fun d hd hj _ _ => by rw [hde] at hd; injection hd with hd; subst hd; rw [hJ] at hj; cases hj)
          cases opensB n x.locks i
          all_goals
            refine J_run 200 ?_
            repeat' (first
              | (simp (maxSteps := 1000000) (disch := omega) only [go_sem, Nat.reduceLT])
              | ((with_reducible refine CallA.pure cj ?_ ?_); (· simp (disch := omega) only [go_sem, Nat.reduceLT]); rintro _ _ ⟨rfl, rfl⟩)
              | ((with_reducible first | refine gDt ?_ ?_ | refine gDf ?_ ?_ | refine gNt ?_ ?_ | refine gNf ?_ ?_ | refine cD ?_ ?_ | refine cN ?_ ?_ | refine cB ?_ ?_ | refine gB ?_ ?_) <;> intro h)
              | with_reducible first | refine And.intro ?_ ?_ | refine J_seq ?_ | refine J_block ?_ | refine J_inBlock ?_ | refine rC ?_ | refine rR ?_ | refine rE ?_ | refine rG ?_)
            refine .mk (i + 1, ks) ⟨hlt, hsk⟩ (by simp only; omega) ?_ ?_
            · simp [go_sem, encDoc]
            · simp
        | true =>
          rw [hJ] at cj
          cases hO : opensB n x.locks i with
          | true =>
            have hsk := hP.skip (fun d hd hj ho _ => by rw [hO] at ho; cases ho)
            refine J_run 200 ?_
            repeat' (first
              | (simp (maxSteps := 1000000) (disch := omega) only [go_sem, Nat.reduceLT])
              | ((with_reducible refine CallA.pure cj ?_ ?_); (· simp (disch := omega) only [go_sem, Nat.reduceLT]); rintro _ _ ⟨rfl, rfl⟩)
              | ((with_reducible first | refine gDt ?_ ?_ | refine gDf ?_ ?_ | refine gNt ?_ ?_ | refine gNf ?_ ?_ | refine cD ?_ ?_ | refine cN ?_ ?_ | refine cB ?_ ?_ | refine gB ?_ ?_) <;> intro h)
              | with_reducible first | refine And.intro ?_ ?_ | refine J_seq ?_ | refine J_block ?_ | refine J_inBlock ?_ | refine rC ?_ | refine rR ?_ | refine rE ?_ | refine rG ?_)
            refine .mk (i + 1, ks) ⟨hlt, hsk⟩ (by simp only; omega) ?_ ?_
            · simp [go_sem, encDoc]
            · simp
          | false =>
            by_cases hor : n.devs[i].a ∈ ks ∨ n.devs[i].b ∈ ks
            · have k1 := hP.add hc hde hJ hO hor (k2 := addK (addK ks n.devs[i].a) n.devs[i].b) (.inl rfl)
              have k2 := hP.add hc hde hJ hO hor (k2 := addK (addK ks n.devs[i].b) n.devs[i].a) (.inr rfl)
              by_cases ha : n.devs[i].a ∈ ks
              · have ea := decide_eq_true ha
                refine J_run 200 ?_
                repeat' (first
                  | ((with_reducible refine J_draw (id := 19) 200 [] plan26_19 (by kernel_rfl) (by kernel_rfl) ?_); delta plan26_19)
                  | (simp (maxSteps := 1000000) (disch := omega) only [go_sem, Nat.reduceLT, setMap_find, setMap_put, ea])
                  | ((with_reducible refine CallA.pure cj ?_ ?_); (· simp (disch := omega) only [go_sem, Nat.reduceLT, setMap_find, setMap_put, ea]); rintro _ _ ⟨rfl, rfl⟩)
                  | ((with_reducible first | refine gDt ?_ ?_ | refine gDf ?_ ?_ | refine gNt ?_ ?_ | refine gNf ?_ ?_ | refine cD ?_ ?_ | refine cN ?_ ?_ | refine cB ?_ ?_ | refine gB ?_ ?_ | refine stepGuard_dect ?_ ?_ | refine stepGuard_decf ?_ ?_ | refine stepGuard_ndect ?_ ?_ | refine stepGuard_ndecf ?_ ?_ | refine stepGuard_by ?_ ?_) <;> intro h)
                  | with_reducible first | refine And.intro ?_ ?_ | refine J_seq ?_ | refine J_block ?_ | refine J_inBlock ?_ | refine rC ?_ | refine rR ?_ | refine rE ?_ | refine rG ?_)
                all_goals first
                  | (refine .mk (i + 1, addK (addK ks n.devs[i].a) n.devs[i].b) ⟨hlt, k1⟩ (by simp only; omega) ?_ ?_; (· simp [go_sem, encDoc]; done); (· simp))
                  | (refine .mk (i + 1, addK (addK ks n.devs[i].b) n.devs[i].a) ⟨hlt, k2⟩ (by simp only; omega) ?_ ?_; (· simp [go_sem, encDoc]; done); (· simp))
              · have hb := hor.resolve_left ha
                have ea := decide_eq_false ha
                have eb := decide_eq_true hb
                refine J_run 200 ?_
                repeat' (first
                  | ((with_reducible refine J_draw (id := 19) 200 [] plan26_19 (by kernel_rfl) (by kernel_rfl) ?_); delta plan26_19)
                  | (simp (maxSteps := 1000000) (disch := omega) only [go_sem, Nat.reduceLT, setMap_find, setMap_put, ea, eb])
                  | ((with_reducible refine CallA.pure cj ?_ ?_); (· simp (disch := omega) only [go_sem, Nat.reduceLT, setMap_find, setMap_put, ea, eb]); rintro _ _ ⟨rfl, rfl⟩)
                  | ((with_reducible first | refine gDt ?_ ?_ | refine gDf ?_ ?_ | refine gNt ?_ ?_ | refine gNf ?_ ?_ | refine cD ?_ ?_ | refine cN ?_ ?_ | refine cB ?_ ?_ | refine gB ?_ ?_ | refine stepGuard_dect ?_ ?_ | refine stepGuard_decf ?_ ?_ | refine stepGuard_ndect ?_ ?_ | refine stepGuard_ndecf ?_ ?_ | refine stepGuard_by ?_ ?_) <;> intro h)
                  | with_reducible first | refine And.intro ?_ ?_ | refine J_seq ?_ | refine J_block ?_ | refine J_inBlock ?_ | refine rC ?_ | refine rR ?_ | refine rE ?_ | refine rG ?_)
                all_goals first
                  | (refine .mk (i + 1, addK (addK ks n.devs[i].a) n.devs[i].b) ⟨hlt, k1⟩ (by simp only; omega) ?_ ?_; (· simp [go_sem, encDoc]; done); (· simp))
                  | (refine .mk (i + 1, addK (addK ks n.devs[i].b) n.devs[i].a) ⟨hlt, k2⟩ (by simp only; omega) ?_ ?_; (· simp [go_sem, encDoc]; done); (· simp))
            · have hsk := hP.skip (fun d hd _ _ hor2 => by rw [hde] at hd; injection hd with hd; subst hd; exact absurd hor2 hor)
              have ea := decide_eq_false (fun h => hor (.inl h))
              have eb := decide_eq_false (fun h => hor (.inr h))
              refine J_run 200 ?_
              repeat' (first
                | (simp (maxSteps := 1000000) (disch := omega) only [go_sem, Nat.reduceLT, setMap_find, ea, eb])
                | ((with_reducible refine CallA.pure cj ?_ ?_); (· simp (disch := omega) only [go_sem, Nat.reduceLT, setMap_find, ea, eb]); rintro _ _ ⟨rfl, rfl⟩)
                | ((with_reducible first | refine gDt ?_ ?_ | refine gDf ?_ ?_ | refine gNt ?_ ?_ | refine gNf ?_ ?_ | refine cD ?_ ?_ | refine cN ?_ ?_ | refine cB ?_ ?_ | refine gB ?_ ?_) <;> intro h)
                | with_reducible first | refine And.intro ?_ ?_ | refine J_seq ?_ | refine J_block ?_ | refine J_inBlock ?_ | refine rC ?_ | refine rR ?_ | refine rE ?_ | refine rG ?_)
              refine .mk (i + 1, ks) ⟨hlt, hsk⟩ (by simp only; omega) ?_ ?_
              · simp [go_sem, encDoc]
              · simp
    · have hie : i = n.devs.length := by omega
      subst hie
      refine J_run 200 ?_
      repeat' (first
        | (simp (maxSteps := 1000000) (disch := omega) only [go_sem, Nat.reduceLT])
        | ((with_reducible first | refine gDt ?_ ?_ | refine gDf ?_ ?_ | refine gNt ?_ ?_ | refine gNf ?_ ?_ | refine cD ?_ ?_ | refine cN ?_ ?_ | refine cB ?_ ?_ | refine gB ?_ ?_) <;> intro h)
        | with_reducible first | refine And.intro ?_ ?_ | refine J_seq ?_ | refine J_block ?_ | refine J_inBlock ?_ | refine rC ?_ | refine rR ?_ | refine rE ?_ | refine rG ?_)
      refine .mk (p + 1, ks) ⟨by simp only; omega, hP.next⟩ (by simp only; omega) ?_ ?_
      · simp [go_sem, encDoc]
      · simp
  · have hpe : p = n.nodes.length := by omega
    subst hpe
    have hd := hP.done hc
    refine J_run 200 ?_
    repeat' (first
      | (simp (maxSteps := 1000000) (disch := omega) only [go_sem, Nat.reduceLT])
      | ((with_reducible first | refine gDt ?_ ?_ | refine gDf ?_ ?_ | refine gNt ?_ ?_ | refine gNf ?_ ?_ | refine cD ?_ ?_ | refine cN ?_ ?_ | refine cB ?_ ?_ | refine gB ?_ ?_) <;> intro h)
      | with_reducible first | refine And.intro ?_ ?_ | refine J_seq ?_ | refine J_block ?_ | refine J_inBlock ?_ | refine rC ?_ | refine rR ?_ | refine rE ?_ | refine rG ?_)
    refine .now ?_
    simp only [go_sem]
    exact ⟨ks0, hP.nd, hd, rfl, rfl⟩
end Go.Proofs.YtfkiomkfoabnhaaDoor.Abs
