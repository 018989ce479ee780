/- References: ways. -/
import Derived.Test.YthgcmeniecaemaaDoorEV
import Derived.Test.YthgcmeniecaemaaDoorAbsS
import Derived.Test.YthgcmeniecaemaaDoorZ3
namespace Go.Proofs.YthgcmeniecaemaaDoor.Abs
set_option linter.unusedSimpArgs false
set_option linter.unusedVariables false
set_option maxRecDepth 100000
open Go Go.RowKit

/-- Whether there is a way. -/
noncomputable def wayB (n : Net) (use : List Bool) (f t : Nat) : Bool := pB (Rch n (Used use) (fun _ => False) (fun u => u = t) f)
def WayQ (n : Net) (use : List Bool) (f t : Nat) (r : AV) (os : List Obj) : Prop := ∃ l : List Int, r = .tup [.lst 1 (l.map encN), .raw (.bool (wayB n use f t)), .raw (.int .i64 0)] ∧ os = []
def Good (n : Net) (use : List Bool) (o : List Int) (a i : Nat) : Prop := ∃ d, n.devs[i]? = some d ∧ Used use i ∧ 0 ≤ acrossV d a ∧ o.getD (acrossV d a).toNat 0 = o.getD a 0 - 1
theorem good_some {n : Net} (hn : n.ok) {use : List Bool} {t : Nat} {o : List Int} (h : StepsR n use t o) {a : Nat} (ha : a < o.length) (h0 : 0 < o[a]) : ∃ i, i < n.devs.length ∧ Good n use o a i := by
  obtain ⟨u, he, hu, hs⟩ := h.2.2.2 a ha h0
  obtain ⟨i, hi, hus, hac⟩ := edge_across hn he
  refine ⟨i, hi, _, List.getElem?_eq_getElem hi, hus, by rw [hac]; omega, ?_⟩
  rw [hac, Int.toNat_natCast, getD_get hu, getD_get ha, hs]
set_option maxHeartbeats 16000000 in
theorem wayF (n : Net) (hn : n.ok) (use : List Bool) (hu : use.length = n.devs.length) (f t : Nat) (hf : f < n.nodes.length) (ht : t < n.nodes.length) :
    Holds Tryd.prog GT0 36 [.agg (encNet n), .lst 1 (use.map encB), .raw (.int .i64 f), .raw (.int .i64 t)] [] (WayQ n use f t) := by
  have hnl := hn.nl
  have hdl := hn.dl
  have c := refCheck n hn.sized
  have cS := stepsF n hn use hu t ht
  rw [Net.chk_ok.2 hn] at c
  refine Holds.val ?_
  refine holds_of Tryd.func36 rfl rfl ?_
  refine J_run 200 ?_
  delta Tryd.f36
  simp only [encNet, encN] at c cS ⊢
  iterate 12 (all_goals (try (first
    | (exfalso; omega)
    | (simp (maxSteps := 1000000) (disch := omega) only [go_sem, hu])
    | ((with_reducible refine CallA.pure c ?_ ?_); (· simp (disch := omega) only [go_sem, hu]); rintro _ _ ⟨rfl, rfl⟩)
    | ((with_reducible first | refine gDt ?_ ?_ | refine gDf ?_ ?_ | refine gNt ?_ ?_ | refine gNf ?_ ?_ | refine cD ?_ ?_ | refine cN ?_ ?_ | refine cB ?_ ?_ | refine gB ?_ ?_) <;> intro h)
    | with_reducible first | refine And.intro ?_ ?_ | refine J_seq ?_ | refine J_block ?_ | refine J_inBlock ?_ | refine rC ?_ | refine rR ?_ | refine rE ?_ | refine rG ?_ | refine FinQ.now ?_ | refine FinQ.end ?_)))
  refine CallA.give [1] ?_ ?_ cS ?_
  · simp only [go_sem, List.take_succ_cons, List.take_zero]
  · simp only [go_sem]
  rintro _ _ ⟨o, ⟨hol, hOl, hOr, hOb⟩, rfl, rfl⟩
  have hof := getD_N (l := o) (i := f) (by omega)
  have hlf := hOl f (by omega)
  have hrf := hOr f (by omega)
  by_cases h0 : 0 ≤ o[f]'(by omega)
  · have hwb : wayB n use f t = true := pB_true (hrf.1 h0)
    have e0 : decide (o[f]'(by omega) < 0) = false := decide_eq_false (by omega)
    iterate 8 (all_goals (try (first
      | (simp (maxSteps := 1000000) (disch := omega) only [go_sem, hof, e0])
      | ((with_reducible first | refine gDt ?_ ?_ | refine gDf ?_ ?_ | refine gNt ?_ ?_ | refine gNf ?_ ?_ | refine cD ?_ ?_ | refine cN ?_ ?_ | refine cB ?_ ?_ | refine gB ?_ ?_) <;> intro h)
      | with_reducible first | refine And.intro ?_ ?_ | refine J_seq ?_ | refine J_block ?_ | refine J_inBlock ?_ | refine rC ?_ | refine rR ?_ | refine rE ?_ | refine rG ?_ | refine FinQ.now ?_ | refine FinQ.end ?_)))
    refine J_nilName 13 1 (by simp only [go_sem]) ?_
    simp only [go_sem]
    refine J_for ([15, 16] ++ upto 59 97) (fun x : Nat × List Int => [(14, .raw (.int .i64 x.1)), (13, .own 2 1 0 x.2.length)]) (fun x => [.box (encNet n), .dead, .arr 1 (x.2.map encN)]) (fun x => ∃ h : x.1 < o.length, 0 ≤ o[x.1] ∧ x.2.length + o[x.1] ≤ 100) (fun x => (o.getD x.1 0).toNat) (f, []) ⟨by simp only; omega, h0, by simp; omega⟩ (.le (by simp [go_sem, encNet]) (by simp)) ?_
    rintro ⟨a, out⟩ ⟨ha, ha0, hao⟩
    simp only [encNet] at ha ha0 hao ⊢
    have hga := getD_N ha
    have hgd : o.getD a 0 = o[a] := getD_get ha
    have hla := hOl a ha
    by_cases hat : a = t
    · subst hat
      have e1 : decide ((a : Int) = a) = true := decide_eq_true rfl
      refine J_run 200 ?_
      iterate 10 (all_goals (try (first
        | (simp (maxSteps := 1000000) (disch := omega) only [go_sem, e1])
        | ((with_reducible first | refine gDt ?_ ?_ | refine gDf ?_ ?_ | refine gNt ?_ ?_ | refine gNf ?_ ?_ | refine cD ?_ ?_ | refine cN ?_ ?_ | refine cB ?_ ?_ | refine gB ?_ ?_) <;> intro h)
        | with_reducible first | refine And.intro ?_ ?_ | refine J_seq ?_ | refine J_block ?_ | refine J_inBlock ?_ | refine rC ?_ | refine rR ?_ | refine rE ?_ | refine rG ?_)))
      refine .frz [2] (.now ?_)
      simp only [go_sem]
      rw [List.take_of_length_le (by simp)]
      exact ⟨_, VLe.refl _, out, by rw [hwb], rfl⟩
    · have e1 : decide ((a : Int) = t) = false := decide_eq_false (by omega)
      have hpos : 0 < o[a] := by
        have := hla.2.2
        omega
      obtain ⟨i0, hi0, hg0⟩ := good_some hn ⟨hol, hOl, hOr, hOb⟩ ha hpos
      refine J_run 200 ?_
      iterate 8 (all_goals (try (first
        | (simp (maxSteps := 1000000) (disch := omega) only [go_sem, e1])
        | ((with_reducible first | refine gDt ?_ ?_ | refine gDf ?_ ?_ | refine gNt ?_ ?_ | refine gNf ?_ ?_ | refine cD ?_ ?_ | refine cN ?_ ?_ | refine cB ?_ ?_ | refine gB ?_ ?_) <;> intro h)
        | with_reducible first | refine And.intro ?_ ?_ | refine J_seq ?_ | refine J_block ?_ | refine J_inBlock ?_ | refine rC ?_ | refine rR ?_ | refine rE ?_ | refine rG ?_ | refine FinQ.now ?_ | refine FinQ.end ?_)))
      refine J_for ([16] ++ upto 62 97) (fun i : Nat => [(15, .raw (.int .i64 i))]) (fun _ => [.box (encNet n), .dead, .arr 1 (out.map encN)]) (fun i => i ≤ n.devs.length ∧ ∀ j, j < i → ¬ Good n use o a j) (fun i => n.devs.length - i) 0 ⟨by omega, fun j hj => absurd hj (by omega)⟩ (.le (by simp [go_sem, encNet]) (by simp)) ?_
      rintro i ⟨hi, hpre⟩
      simp only [encNet]
      by_cases hlt : i < n.devs.length
      · have hd? : n.devs[i]? = some n.devs[i] := List.getElem?_eq_getElem hlt
        have cO := rOther n hn i hlt a
        have hgu := getD_B (l := use) (i := i) (by omega)
        have hud : use.getD i false = use[i]'(by omega) := getD_get (by omega)
        have hal := acrossV_lt hn (v := (a : Int)) hlt
        simp only [encNet] at cO
        have next_ : ¬ Good n use o a i → ∀ j, j < i + 1 → ¬ Good n use o a j := fun hx j hj => by
          rcases Nat.lt_succ_iff_lt_or_eq.1 hj with h3 | rfl
          · exact hpre j h3
          · exact hx
        obtain ⟨u, hue⟩ : ∃ u, use[i]'(by omega) = u := ⟨_, rfl⟩
        obtain ⟨w, hw⟩ : ∃ w, acrossV n.devs[i] a = w := ⟨_, rfl⟩
        rw [hw] at cO hal
        rw [hue] at hgu
        cases u with
        | false =>
          refine J_run 200 ?_
          iterate 14 (all_goals (try (first
            | ((with_reducible refine J_draw (id := 18) 200 [] plan36_18 (by kernel_rfl) (by kernel_rfl) ?_); delta plan36_18)
            | (simp (maxSteps := 1000000) (disch := omega) only [go_sem, hgu])
            | ((with_reducible refine CallA.pure cO ?_ ?_); (· simp (disch := omega) only [go_sem, hgu]); rintro _ _ ⟨rfl, rfl⟩)
            | ((with_reducible first | refine gDt ?_ ?_ | refine gDf ?_ ?_ | refine gNt ?_ ?_ | refine gNf ?_ ?_ | refine cD ?_ ?_ | refine cN ?_ ?_ | refine cB ?_ ?_ | refine gB ?_ ?_ | refine stepGuard_dect ?_ ?_ | refine stepGuard_decf ?_ ?_ | refine stepGuard_ndect ?_ ?_ | refine stepGuard_ndecf ?_ ?_ | refine stepGuard_by ?_ ?_) <;> intro h)
            | with_reducible first | refine And.intro ?_ ?_ | refine J_seq ?_ | refine J_block ?_ | refine J_inBlock ?_ | refine rC ?_ | refine rR ?_ | refine rE ?_ | refine rG ?_ | refine FinQ.now ?_ | refine FinQ.end ?_)))
          all_goals
            refine .mk (i + 1) ⟨hlt, next_ fun ⟨d, h1, h2, h3, h4⟩ => by rw [Used, hud, hue] at h2; cases h2⟩ (by omega) ?_ ?_
            · simp [go_sem, encNet]
            · simp
        | true =>
          by_cases hw0 : 0 ≤ w
          · have ew : decide (0 ≤ w) = true := decide_eq_true hw0
            have hgw := getD_N (l := o) (i := w.toNat) (by omega)
            have hlw := hOl w.toNat (by omega)
            by_cases hs : o[w.toNat]'(by omega) = o[a] - 1
            · have es : decide (o[w.toNat]'(by omega) = o[a] - 1) = true := decide_eq_true hs
              refine J_run 200 ?_
              iterate 20 (all_goals (try (first
                | ((with_reducible refine J_draw (id := 18) 200 [] plan36_18 (by kernel_rfl) (by kernel_rfl) ?_); delta plan36_18)
                | (simp (maxSteps := 1000000) (disch := omega) only [go_sem, hgu, ew, hgw, hga, es])
                | ((with_reducible refine CallA.pure cO ?_ ?_); (· simp (disch := omega) only [go_sem, hgu, ew, hgw, hga, es]); rintro _ _ ⟨rfl, rfl⟩)
                | ((with_reducible first | refine gDt ?_ ?_ | refine gDf ?_ ?_ | refine gNt ?_ ?_ | refine gNf ?_ ?_ | refine cD ?_ ?_ | refine cN ?_ ?_ | refine cB ?_ ?_ | refine gB ?_ ?_ | refine stepGuard_dect ?_ ?_ | refine stepGuard_decf ?_ ?_ | refine stepGuard_ndect ?_ ?_ | refine stepGuard_ndecf ?_ ?_ | refine stepGuard_by ?_ ?_) <;> intro h)
                | with_reducible first | refine And.intro ?_ ?_ | refine J_seq ?_ | refine J_block ?_ | refine J_inBlock ?_ | refine rC ?_ | refine rR ?_ | refine rE ?_ | refine rG ?_ | refine FinQ.now ?_ | refine FinQ.end ?_)))
              all_goals
                refine J_nil ?_
                simp only [go_sem]
                refine .mk (w.toNat, out ++ [(i : Int)]) ⟨by simp only; omega, by simp only; omega, by simp; omega⟩ (by simp only; rw [getD_get (by omega), hgd]; omega) ?_ ?_
                · simp [go_sem, encNet, encN, Int.toNat_of_nonneg hw0]
                · simp
            · have es : decide (o[w.toNat]'(by omega) = o[a] - 1) = false := decide_eq_false hs
              refine J_run 200 ?_
              iterate 20 (all_goals (try (first
                | ((with_reducible refine J_draw (id := 18) 200 [] plan36_18 (by kernel_rfl) (by kernel_rfl) ?_); delta plan36_18)
                | (simp (maxSteps := 1000000) (disch := omega) only [go_sem, hgu, ew, hgw, hga, es])
                | ((with_reducible refine CallA.pure cO ?_ ?_); (· simp (disch := omega) only [go_sem, hgu, ew, hgw, hga, es]); rintro _ _ ⟨rfl, rfl⟩)
                | ((with_reducible first | refine gDt ?_ ?_ | refine gDf ?_ ?_ | refine gNt ?_ ?_ | refine gNf ?_ ?_ | refine cD ?_ ?_ | refine cN ?_ ?_ | refine cB ?_ ?_ | refine gB ?_ ?_ | refine stepGuard_dect ?_ ?_ | refine stepGuard_decf ?_ ?_ | refine stepGuard_ndect ?_ ?_ | refine stepGuard_ndecf ?_ ?_ | refine stepGuard_by ?_ ?_) <;> intro h)
                | with_reducible first | refine And.intro ?_ ?_ | refine J_seq ?_ | refine J_block ?_ | refine J_inBlock ?_ | refine rC ?_ | refine rR ?_ | refine rE ?_ | refine rG ?_ | refine FinQ.now ?_ | refine FinQ.end ?_)))
              all_goals
                refine .mk (i + 1) ⟨hlt, next_ fun ⟨d, h1, h2, h3, h4⟩ => by
                  rw [hd?] at h1; cases h1
                  rw [hw, getD_get (by omega), hgd] at h4
                  exact hs h4⟩ (by omega) ?_ ?_
                · simp [go_sem, encNet]
                · simp
          · have ew : decide (0 ≤ w) = false := decide_eq_false hw0
            refine J_run 200 ?_
            iterate 14 (all_goals (try (first
              | ((with_reducible refine J_draw (id := 18) 200 [] plan36_18 (by kernel_rfl) (by kernel_rfl) ?_); delta plan36_18)
              | (simp (maxSteps := 1000000) (disch := omega) only [go_sem, hgu, ew])
              | ((with_reducible refine CallA.pure cO ?_ ?_); (· simp (disch := omega) only [go_sem, hgu, ew]); rintro _ _ ⟨rfl, rfl⟩)
              | ((with_reducible first | refine gDt ?_ ?_ | refine gDf ?_ ?_ | refine gNt ?_ ?_ | refine gNf ?_ ?_ | refine cD ?_ ?_ | refine cN ?_ ?_ | refine cB ?_ ?_ | refine gB ?_ ?_ | refine stepGuard_dect ?_ ?_ | refine stepGuard_decf ?_ ?_ | refine stepGuard_ndect ?_ ?_ | refine stepGuard_ndecf ?_ ?_ | refine stepGuard_by ?_ ?_) <;> intro h)
              | with_reducible first | refine And.intro ?_ ?_ | refine J_seq ?_ | refine J_block ?_ | refine J_inBlock ?_ | refine rC ?_ | refine rR ?_ | refine rE ?_ | refine rG ?_ | refine FinQ.now ?_ | refine FinQ.end ?_)))
            all_goals
              refine .mk (i + 1) ⟨hlt, next_ fun ⟨d, h1, h2, h3, h4⟩ => by
                rw [hd?] at h1; cases h1
                rw [hw] at h3; exact hw0 h3⟩ (by omega) ?_ ?_
              · simp [go_sem, encNet]
              · simp
      · exact absurd hg0 (hpre i0 (by omega))
  · have hwb : wayB n use f t = false := pB_false fun h => h0 (hrf.2 h)
    have e0 : decide (o[f]'(by omega) < 0) = true := decide_eq_true (by omega)
    iterate 10 (all_goals (try (first
      | (simp (maxSteps := 1000000) (disch := omega) only [go_sem, hof, e0])
      | ((with_reducible first | refine gDt ?_ ?_ | refine gDf ?_ ?_ | refine gNt ?_ ?_ | refine gNf ?_ ?_ | refine cD ?_ ?_ | refine cN ?_ ?_ | refine cB ?_ ?_ | refine gB ?_ ?_) <;> intro h)
      | with_reducible first | refine And.intro ?_ ?_ | refine J_seq ?_ | refine J_block ?_ | refine J_inBlock ?_ | refine rC ?_ | refine rR ?_ | refine rE ?_ | refine rG ?_ | refine FinQ.now ?_ | refine FinQ.end ?_)))
    exact ⟨_, .tup (.cons (.nilLst 1) (VLes.refl _)), [], by rw [hwb]; rfl, rfl⟩
end Go.Proofs.YthgcmeniecaemaaDoor.Abs
