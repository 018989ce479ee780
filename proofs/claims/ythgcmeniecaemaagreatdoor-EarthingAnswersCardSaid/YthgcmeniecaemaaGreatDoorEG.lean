/- References: earthing. -/
import Derived.Test.YthgcmeniecaemaaGreatDoorEB
import Derived.Test.YthgcmeniecaemaaGreatDoorEQ
import Derived.Test.YthgcmeniecaemaaGreatDoorRV
import Derived.Test.YthgcmeniecaemaaGreatDoorRW
namespace Go.Proofs.YthgcmeniecaemaaGreatDoor.Abs
set_option linter.unusedSimpArgs false
set_option linter.unusedVariables false
set_option maxRecDepth 100000
open Go Go.RowKit

theorem NoSrc.push {n : Net} {T : List Bool} {k : Nat} (h : NoSrc n T k) {d : Dv} (hd : n.devs[k]? = some d) (hx : (d.kind = 5 ∨ d.kind = 6) → T.getD d.a.toNat false = false) : NoSrc n T (k + 1) := by
  intro i d' hi hd' hk
  rcases Nat.lt_succ_iff_lt_or_eq.1 hi with h1 | rfl
  · exact h i d' h1 hd' hk
  · rw [hd] at hd'; cases hd'; exact hx hk
set_option maxHeartbeats 16000000 in
theorem rProtects (n : Net) (hn : n.ok) (v : Nat) (hv : v < n.nodes.length) (E : List Int) (hEl : E.length ≤ 1000000) : Fn1 Tryz.prog GT0 60 [.agg (encNet n), .raw (.int .i64 v), .lst 1 (E.map encN)] (.raw (.bool (protB n E v))) [] := by
  have hnl := hn.nl
  have hdl := hn.dl
  have ch := has E v hEl
  by_cases hvE : (v : Int) ∈ E
  · rw [decide_eq_true hvE] at ch
    rw [protB_own hn hvE]
    refine holds_of Tryz.func60 rfl rfl ?_
    refine J_run 200 ?_
    delta Tryz.f60
    simp only [encNet]
    iterate 10 (all_goals (try (first
      | (simp (maxSteps := 1000000) (disch := omega) only [go_sem])
      | ((with_reducible refine CallA.pure ch ?_ ?_); (· simp (disch := omega) only [go_sem]); rintro _ _ ⟨rfl, rfl⟩)
      | ((with_reducible first | refine gDt ?_ ?_ | refine gDf ?_ ?_ | refine gNt ?_ ?_ | refine gNf ?_ ?_ | refine cD ?_ ?_ | refine cN ?_ ?_ | refine cB ?_ ?_ | refine gB ?_ ?_) <;> intro h)
      | with_reducible first | refine And.intro ?_ ?_ | refine J_seq ?_ | refine J_block ?_ | refine J_inBlock ?_ | refine rC ?_ | refine rR ?_ | refine rE ?_ | refine rG ?_ | refine FinQ.now ?_ | refine FinQ.end ?_)))
  rw [decide_eq_false hvE] at ch
  have hse0 := set_encB (out := List.replicate n.nodes.length false) (k := v) (by simpa using hv)
  refine holds_of Tryz.func60 rfl rfl ?_
  refine J_run 200 ?_
  delta Tryz.f60
  simp only [encNet]
  iterate 10 (all_goals (try (first
    | (simp (maxSteps := 1000000) (disch := omega) only [go_sem])
    | ((with_reducible refine CallA.pure ch ?_ ?_); (· simp (disch := omega) only [go_sem]); rintro _ _ ⟨rfl, rfl⟩)
    | ((with_reducible first | refine gDt ?_ ?_ | refine gDf ?_ ?_ | refine gNt ?_ ?_ | refine gNf ?_ ?_ | refine cD ?_ ?_ | refine cN ?_ ?_ | refine cB ?_ ?_ | refine gB ?_ ?_) <;> intro h)
    | with_reducible first | refine And.intro ?_ ?_ | refine J_seq ?_ | refine J_block ?_ | refine J_inBlock ?_ | refine rC ?_ | refine rR ?_ | refine rE ?_ | refine rG ?_ | refine FinQ.now ?_ | refine FinQ.end ?_)))
  refine J_for ([10, 11, 12, 13, 14] ++ upto 27 72) (fun x : Bool × Bool × List Bool => [(9, .raw (.bool x.1)), (8, .raw (.bool x.2.1))]) (fun x => [.box (encNet n), .arr 1 (x.2.2.map encB)]) (fun x => Pin n E v x.2.2 x.2.1 ∧ (x.1 = false → ∀ i, i < n.devs.length → Clo n E x.2.2 x.2.1 i)) (fun x => 2 * x.2.2.count false + (if x.1 then 1 else 0)) (true, false, (List.replicate n.nodes.length false).set v true) ⟨.zero hv hvE, by simp⟩ (.le (by simp only [← hse0]; simp [go_sem, encNet, encB]) (by simp)) ?_
  rintro ⟨cg, met, T⟩ ⟨hP, hC⟩
  simp only [encNet] at hP hC ⊢
  have hTl := hP.len
  cases cg with
  | false =>
    obtain ⟨hT, hm⟩ := hP.all hvE (hC rfl)
    refine J_run 200 ?_
    iterate 6 (all_goals (try (first
      | (simp (maxSteps := 1000000) (disch := omega) only [go_sem])
      | ((with_reducible first | refine gDt ?_ ?_ | refine gDf ?_ ?_ | refine gNt ?_ ?_ | refine gNf ?_ ?_ | refine cD ?_ ?_ | refine cN ?_ ?_ | refine cB ?_ ?_ | refine gB ?_ ?_) <;> intro h)
      | with_reducible first | refine And.intro ?_ ?_ | refine J_seq ?_ | refine J_block ?_ | refine J_inBlock ?_ | refine rC ?_ | refine rR ?_ | refine rE ?_ | refine rG ?_ | refine FinQ.now ?_ | refine FinQ.end ?_)))
    refine J_for ([16] ++ upto 73 99) (fun i : Nat => [(15, .raw (.int .i64 i))]) (fun _ => [.box (encNet n), .arr 1 (T.map encB)]) (fun i => i ≤ n.devs.length ∧ NoSrc n T i) (fun i => n.devs.length - i) 0 ⟨by omega, fun i d hi => absurd hi (by omega)⟩ (.le (by simp [go_sem, encNet]) (by simp)) ?_
    rintro i ⟨hi, hN⟩
    simp only [encNet]
    by_cases hlt : i < n.devs.length
    · have hdv := getD_Dv hlt
      have hd? : n.devs[i]? = some n.devs[i] := List.getElem?_eq_getElem hlt
      have hok := hn.dev' hlt
      have ha0 := hok.a0; have hal := hok.al
      have hga := getD_B (l := T) (i := n.devs[i].a.toNat) (by omega)
      have ea : T.getD n.devs[i].a.toNat false = T[n.devs[i].a.toNat]'(by omega) := getD_get (by omega)
      obtain ⟨ta, hta⟩ : ∃ b, T[n.devs[i].a.toNat]'(by omega) = b := ⟨_, rfl⟩
      rw [hta] at hga ea
      cases ta with
      | false =>
        have hNn := hN.push hd? fun _ => ea
        refine J_run 200 ?_
        iterate 20 (all_goals (try (first
          | (simp (maxSteps := 1000000) (disch := omega) only [go_sem, hdv, hga, Nat.reduceLT])
          | ((with_reducible first | refine gDt ?_ ?_ | refine gDf ?_ ?_ | refine gNt ?_ ?_ | refine gNf ?_ ?_ | refine cD ?_ ?_ | refine cN ?_ ?_ | refine cB ?_ ?_ | refine gB ?_ ?_) <;> intro h)
          | with_reducible first | refine And.intro ?_ ?_ | refine J_seq ?_ | refine J_block ?_ | refine J_inBlock ?_ | refine rC ?_ | refine rR ?_ | refine rE ?_ | refine rG ?_ | refine FinQ.now ?_ | refine FinQ.end ?_)))
        all_goals
          refine .mk (i + 1) ⟨hlt, hNn⟩ (by omega) ?_ ?_
          · simp [go_sem, encNet, encDv]
          · simp
      | true =>
        obtain ⟨b5, h5⟩ : ∃ b, decide (n.devs[i].kind = 5) = b := ⟨_, rfl⟩
        obtain ⟨b6, h6⟩ : ∃ b, decide (n.devs[i].kind = 6) = b := ⟨_, rfl⟩
        by_cases hs : b5 = true ∨ b6 = true
        · have hk : n.devs[i].kind = 5 ∨ n.devs[i].kind = 6 := hs.imp (fun h => by rw [h] at h5; exact of_decide_eq_true h5) (fun h => by rw [h] at h6; exact of_decide_eq_true h6)
          rw [protB_src hn hT hm hd? hk ea]
          cases b5
          · have e6 : b6 = true := by simpa using hs
            subst e6
            refine J_run 200 ?_
            iterate 20 (all_goals (try (first
              | (simp (maxSteps := 1000000) (disch := omega) only [go_sem, hdv, hga, h5, h6, Nat.reduceLT])
              | ((with_reducible first | refine gDt ?_ ?_ | refine gDf ?_ ?_ | refine gNt ?_ ?_ | refine gNf ?_ ?_ | refine cD ?_ ?_ | refine cN ?_ ?_ | refine cB ?_ ?_ | refine gB ?_ ?_) <;> intro h)
              | with_reducible first | refine And.intro ?_ ?_ | refine J_seq ?_ | refine J_block ?_ | refine J_inBlock ?_ | refine rC ?_ | refine rR ?_ | refine rE ?_ | refine rG ?_ | refine FinQ.now ?_ | refine FinQ.end ?_)))
          · refine J_run 200 ?_
            iterate 20 (all_goals (try (first
              | (simp (maxSteps := 1000000) (disch := omega) only [go_sem, hdv, hga, h5, Nat.reduceLT])
              | ((with_reducible first | refine gDt ?_ ?_ | refine gDf ?_ ?_ | refine gNt ?_ ?_ | refine gNf ?_ ?_ | refine cD ?_ ?_ | refine cN ?_ ?_ | refine cB ?_ ?_ | refine gB ?_ ?_) <;> intro h)
              | with_reducible first | refine And.intro ?_ ?_ | refine J_seq ?_ | refine J_block ?_ | refine J_inBlock ?_ | refine rC ?_ | refine rR ?_ | refine rE ?_ | refine rG ?_ | refine FinQ.now ?_ | refine FinQ.end ?_)))
        · have e5 : b5 = false := by cases b5 <;> simp_all
          have e6 : b6 = false := by cases b6 <;> simp_all
          subst e5; subst e6
          have hNn := hN.push hd? fun h => absurd h (by have := of_decide_eq_false h5; have := of_decide_eq_false h6; omega)
          refine J_run 200 ?_
          iterate 20 (all_goals (try (first
            | (simp (maxSteps := 1000000) (disch := omega) only [go_sem, hdv, hga, h5, h6, Nat.reduceLT])
            | ((with_reducible first | refine gDt ?_ ?_ | refine gDf ?_ ?_ | refine gNt ?_ ?_ | refine gNf ?_ ?_ | refine cD ?_ ?_ | refine cN ?_ ?_ | refine cB ?_ ?_ | refine gB ?_ ?_) <;> intro h)
            | with_reducible first | refine And.intro ?_ ?_ | refine J_seq ?_ | refine J_block ?_ | refine J_inBlock ?_ | refine rC ?_ | refine rR ?_ | refine rE ?_ | refine rG ?_ | refine FinQ.now ?_ | refine FinQ.end ?_)))
          all_goals
            refine .mk (i + 1) ⟨hlt, hNn⟩ (by omega) ?_ ?_
            · simp [go_sem, encNet, encDv]
            · simp
    · have hie : i = n.devs.length := by omega
      subst hie
      rw [protB_met hn hT hm hN]
      refine J_run 200 ?_
      iterate 12 (all_goals (try (first
        | (simp (maxSteps := 1000000) (disch := omega) only [go_sem])
        | ((with_reducible first | refine gDt ?_ ?_ | refine gDf ?_ ?_ | refine gNt ?_ ?_ | refine gNf ?_ ?_ | refine cD ?_ ?_ | refine cN ?_ ?_ | refine cB ?_ ?_ | refine gB ?_ ?_) <;> intro h)
        | with_reducible first | refine And.intro ?_ ?_ | refine J_seq ?_ | refine J_block ?_ | refine J_inBlock ?_ | refine rC ?_ | refine rR ?_ | refine rE ?_ | refine rG ?_ | refine FinQ.now ?_ | refine FinQ.end ?_)))
  | true =>
    refine J_run 200 ?_
    iterate 8 (all_goals (try (first
      | (simp (maxSteps := 1000000) (disch := omega) only [go_sem])
      | ((with_reducible first | refine gDt ?_ ?_ | refine gDf ?_ ?_ | refine gNt ?_ ?_ | refine gNf ?_ ?_ | refine cD ?_ ?_ | refine cN ?_ ?_ | refine cB ?_ ?_ | refine gB ?_ ?_) <;> intro h)
      | with_reducible first | refine And.intro ?_ ?_ | refine J_seq ?_ | refine J_block ?_ | refine J_inBlock ?_ | refine rC ?_ | refine rR ?_ | refine rE ?_ | refine rG ?_ | refine FinQ.now ?_ | refine FinQ.end ?_)))
    refine J_for ([11, 12, 13, 14] ++ upto 28 72) (fun x : Nat × Bool × Bool × List Bool => [(10, .raw (.int .i64 x.1)), (9, .raw (.bool x.2.1)), (8, .raw (.bool x.2.2.1))]) (fun x => [.box (encNet n), .arr 1 (x.2.2.2.map encB)]) (fun x => x.1 ≤ n.devs.length ∧ Pin n E v x.2.2.2 x.2.2.1 ∧ x.2.2.2.count false ≤ T.count false ∧ (x.2.1 = true → x.2.2.2.count false < T.count false) ∧ (x.2.1 = false → ∀ j, j < x.1 → Clo n E x.2.2.2 x.2.2.1 j)) (fun x => n.devs.length - x.1) (0, false, met, T) ⟨by simp only; omega, hP, Nat.le_refl _, by simp, fun _ j hj => absurd hj (by simp)⟩ (.le (by simp [go_sem, encNet]) (by simp)) ?_
    rintro ⟨i, ch2, met2, T2⟩ ⟨hi, hP2, hs2, hc2, hE2⟩
    simp only [encNet] at hi hP2 hs2 hc2 hE2 ⊢
    by_cases hlt : i < n.devs.length
    · have hdv := getD_Dv hlt
      have hd? : n.devs[i]? = some n.devs[i] := List.getElem?_eq_getElem hlt
      have cj := rJoins n.devs[i].kind
      have hok := hn.dev' hlt
      have ha0 := hok.a0; have hal := hok.al
      obtain ⟨jk, hjk⟩ : ∃ b, joinsK n.devs[i].kind = b := ⟨_, rfl⟩
      rw [hjk] at cj
      cases jk with
      | false =>
        have hcl : Clo n E T2 met2 i := fun d hd hj => by rw [hd?] at hd; cases hd; rw [hjk] at hj; cases hj
        refine J_run 200 ?_
        iterate 20 (all_goals (try (first
          | (simp (maxSteps := 1000000) (disch := omega) only [go_sem, hdv, Nat.reduceLT])
          | ((with_reducible refine CallA.pure cj ?_ ?_); (· simp (disch := omega) only [go_sem, hdv, Nat.reduceLT]); rintro _ _ ⟨rfl, rfl⟩)
          | ((with_reducible first | refine gDt ?_ ?_ | refine gDf ?_ ?_ | refine gNt ?_ ?_ | refine gNf ?_ ?_ | refine cD ?_ ?_ | refine cN ?_ ?_ | refine cB ?_ ?_ | refine gB ?_ ?_) <;> intro h)
          | with_reducible first | refine And.intro ?_ ?_ | refine J_seq ?_ | refine J_block ?_ | refine J_inBlock ?_ | refine rC ?_ | refine rR ?_ | refine rE ?_ | refine rG ?_ | refine FinQ.now ?_ | refine FinQ.end ?_)))
        refine .mk (i + 1, ch2, met2, T2) ⟨by simp only; omega, hP2, hs2, hc2, fun h j hj => ?_⟩ (by simp only; omega) ?_ ?_
        · rcases Nat.lt_succ_iff_lt_or_eq.1 hj with h3 | rfl
          · exact hE2 h j h3
          · exact hcl
        · simp [go_sem, encNet, encDv]
        · simp
      | true =>
        have hb := hok.j hjk
        refine J_run 200 ?_
        iterate 20 (all_goals (try (first
          | (simp (maxSteps := 1000000) (disch := omega) only [go_sem, hdv, Nat.reduceLT])
          | ((with_reducible refine CallA.pure cj ?_ ?_); (· simp (disch := omega) only [go_sem, hdv, Nat.reduceLT]); rintro _ _ ⟨rfl, rfl⟩)
          | ((with_reducible first | refine gDt ?_ ?_ | refine gDf ?_ ?_ | refine gNt ?_ ?_ | refine gNf ?_ ?_ | refine cD ?_ ?_ | refine cN ?_ ?_ | refine cB ?_ ?_ | refine gB ?_ ?_) <;> intro h)
          | with_reducible first | refine And.intro ?_ ?_ | refine J_seq ?_ | refine J_block ?_ | refine J_inBlock ?_ | refine rC ?_ | refine rR ?_ | refine rE ?_ | refine rG ?_ | refine FinQ.now ?_ | refine FinQ.end ?_)))
        refine J_for ([13, 14] ++ upto 44 72) (fun x : Nat × Bool × Bool × List Bool => [(12, .raw (.int .i64 x.1)), (9, .raw (.bool x.2.1)), (8, .raw (.bool x.2.2.1))]) (fun x => [.box (encNet n), .arr 1 (x.2.2.2.map encB), .box (encDv n.devs[i])]) (fun x => x.1 ≤ 2 ∧ Pin n E v x.2.2.2 x.2.2.1 ∧ x.2.2.2.count false ≤ T.count false ∧ (x.2.1 = true → x.2.2.2.count false < T.count false) ∧ (x.2.1 = false → ∀ j, j < i → Clo n E x.2.2.2 x.2.2.1 j) ∧ (x.2.1 = false → (1 ≤ x.1 → HClo E x.2.2.2 x.2.2.1 n.devs[i].a.toNat n.devs[i].b.toNat) ∧ (2 ≤ x.1 → HClo E x.2.2.2 x.2.2.1 n.devs[i].b.toNat n.devs[i].a.toNat))) (fun x => 2 - x.1) (0, ch2, met2, T2) ⟨by simp only; omega, hP2, hs2, hc2, hE2, fun _ => ⟨fun h => absurd h (by simp), fun h => absurd h (by simp)⟩⟩ (.le (by simp [go_sem, encNet, encDv]) (by simp)) ?_
        rintro ⟨k3, ch3, met3, T3⟩ ⟨hk3, hP3, hs3, hc3, hE3, hH3⟩
        simp only [encNet, encDv] at hk3 hP3 hs3 hc3 hE3 hH3 ⊢
        have hTl3 := hP3.len
        rcases (show k3 = 0 ∨ k3 = 1 ∨ k3 = 2 by omega) with rfl | rfl | rfl
        · skip
          have hga := getD_B (l := T3) (i := n.devs[i].a.toNat) (by omega)
          have hgb := getD_B (l := T3) (i := n.devs[i].b.toNat) (by omega)
          have ea : T3.getD n.devs[i].a.toNat false = T3[n.devs[i].a.toNat]'(by omega) := getD_get (by omega)
          have eb : T3.getD n.devs[i].b.toNat false = T3[n.devs[i].b.toNat]'(by omega) := getD_get (by omega)
          have cB := has E n.devs[i].b hEl
          have hbt : ((n.devs[i].b.toNat : Nat) : Int) = n.devs[i].b := by omega
          obtain ⟨ta, hta⟩ : ∃ b, T3[n.devs[i].a.toNat]'(by omega) = b := ⟨_, rfl⟩
          obtain ⟨tb, htb⟩ : ∃ b, T3[n.devs[i].b.toNat]'(by omega) = b := ⟨_, rfl⟩
          rw [hta] at hga ea
          rw [htb] at hgb eb
          have hed : Edge n (fun _ => True) n.devs[i].a.toNat n.devs[i].b.toNat := ⟨i, _, hd?, hjk, trivial, .inl ⟨by omega, by omega⟩⟩
          cases ta with
          | false =>
            have hh : HClo E T3 met3 n.devs[i].a.toNat n.devs[i].b.toNat := fun h => by rw [ea] at h; cases h
            refine J_run 200 ?_
            iterate 20 (all_goals (try (first
              | ((with_reducible refine J_draw (id := 17) 200 [] plan60_17 (by kernel_rfl) (by kernel_rfl) ?_); delta plan60_17)
              | (simp (maxSteps := 1000000) (disch := omega) only [go_sem, hga, Nat.reduceLT])
              | ((with_reducible first | refine gDt ?_ ?_ | refine gDf ?_ ?_ | refine gNt ?_ ?_ | refine gNf ?_ ?_ | refine cD ?_ ?_ | refine cN ?_ ?_ | refine cB ?_ ?_ | refine gB ?_ ?_ | refine stepGuard_dect ?_ ?_ | refine stepGuard_decf ?_ ?_ | refine stepGuard_ndect ?_ ?_ | refine stepGuard_ndecf ?_ ?_ | refine stepGuard_by ?_ ?_) <;> intro h)
              | with_reducible first | refine And.intro ?_ ?_ | refine J_seq ?_ | refine J_block ?_ | refine J_inBlock ?_ | refine rC ?_ | refine rR ?_ | refine rE ?_ | refine rG ?_ | refine FinQ.now ?_ | refine FinQ.end ?_)))
            refine .mk (1, ch3, met3, T3) ⟨by simp only; omega, hP3, hs3, hc3, hE3, fun h => ⟨fun _ => hh, fun h2 => by simp only at h2; omega⟩⟩ (by simp only; omega) ?_ ?_
            · simp [go_sem, encNet, encDv]
            · simp
          | true =>
            cases tb with
            | true =>
              have hbE := (hP3.sound _ eb).2
              have hh : HClo E T3 met3 n.devs[i].a.toNat n.devs[i].b.toNat := fun _ => ⟨fun h => absurd h hbE, fun _ => eb⟩
              refine J_run 200 ?_
              iterate 20 (all_goals (try (first
                | ((with_reducible refine J_draw (id := 17) 200 [] plan60_17 (by kernel_rfl) (by kernel_rfl) ?_); delta plan60_17)
                | (simp (maxSteps := 1000000) (disch := omega) only [go_sem, hga, hgb, Nat.reduceLT])
                | ((with_reducible first | refine gDt ?_ ?_ | refine gDf ?_ ?_ | refine gNt ?_ ?_ | refine gNf ?_ ?_ | refine cD ?_ ?_ | refine cN ?_ ?_ | refine cB ?_ ?_ | refine gB ?_ ?_ | refine stepGuard_dect ?_ ?_ | refine stepGuard_decf ?_ ?_ | refine stepGuard_ndect ?_ ?_ | refine stepGuard_ndecf ?_ ?_ | refine stepGuard_by ?_ ?_) <;> intro h)
                | with_reducible first | refine And.intro ?_ ?_ | refine J_seq ?_ | refine J_block ?_ | refine J_inBlock ?_ | refine rC ?_ | refine rR ?_ | refine rE ?_ | refine rG ?_ | refine FinQ.now ?_ | refine FinQ.end ?_)))
              refine .mk (1, ch3, met3, T3) ⟨by simp only; omega, hP3, hs3, hc3, hE3, fun h => ⟨fun _ => hh, fun h2 => by simp only at h2; omega⟩⟩ (by simp only; omega) ?_ ?_
              · simp [go_sem, encNet, encDv]
              · simp
            | false =>
              by_cases hbE : n.devs[i].b ∈ E
              · rw [decide_eq_true hbE] at cB
                have hh : HClo E T3 true n.devs[i].a.toNat n.devs[i].b.toNat := fun _ => ⟨fun _ => rfl, fun h => absurd (by rw [hbt]; exact hbE) h⟩
                refine J_run 200 ?_
                iterate 20 (all_goals (try (first
                  | ((with_reducible refine J_draw (id := 17) 200 [] plan60_17 (by kernel_rfl) (by kernel_rfl) ?_); delta plan60_17)
                  | (simp (maxSteps := 1000000) (disch := omega) only [go_sem, hga, hgb, Nat.reduceLT])
                  | ((with_reducible refine CallA.pure cB ?_ ?_); (· simp (disch := omega) only [go_sem, hga, hgb, Nat.reduceLT]); rintro _ _ ⟨rfl, rfl⟩)
                  | ((with_reducible first | refine gDt ?_ ?_ | refine gDf ?_ ?_ | refine gNt ?_ ?_ | refine gNf ?_ ?_ | refine cD ?_ ?_ | refine cN ?_ ?_ | refine cB ?_ ?_ | refine gB ?_ ?_ | refine stepGuard_dect ?_ ?_ | refine stepGuard_decf ?_ ?_ | refine stepGuard_ndect ?_ ?_ | refine stepGuard_ndecf ?_ ?_ | refine stepGuard_by ?_ ?_) <;> intro h)
                  | with_reducible first | refine And.intro ?_ ?_ | refine J_seq ?_ | refine J_block ?_ | refine J_inBlock ?_ | refine rC ?_ | refine rR ?_ | refine rE ?_ | refine rG ?_ | refine FinQ.now ?_ | refine FinQ.end ?_)))
                refine .mk (1, ch3, true, T3) ⟨by simp only; omega, hP3.meet hed ea (by rw [hbt]; exact hbE), hs3, hc3, fun h j hj => (hE3 h j hj).met fun _ => rfl, fun h => ⟨fun _ => hh, fun h2 => by simp only at h2; omega⟩⟩ (by simp only; omega) ?_ ?_
                · simp [go_sem, encNet, encDv]
                · simp
              · rw [decide_eq_false hbE] at cB
                have hcs := count_set (l := T3) (i := n.devs[i].b.toNat) (by omega) htb
                have hse : (T3.map encB).set n.devs[i].b.toNat [.raw (.bool true)] = (T3.set n.devs[i].b.toNat true).map encB := by rw [List.map_set]; rfl
                refine J_run 200 ?_
                iterate 24 (all_goals (try (first
                  | ((with_reducible refine J_draw (id := 17) 200 [] plan60_17 (by kernel_rfl) (by kernel_rfl) ?_); delta plan60_17)
                  | (simp (maxSteps := 1000000) (disch := omega) only [go_sem, hga, hgb, Nat.reduceLT])
                  | ((with_reducible refine CallA.pure cB ?_ ?_); (· simp (disch := omega) only [go_sem, hga, hgb, Nat.reduceLT]); rintro _ _ ⟨rfl, rfl⟩)
                  | ((with_reducible first | refine gDt ?_ ?_ | refine gDf ?_ ?_ | refine gNt ?_ ?_ | refine gNf ?_ ?_ | refine cD ?_ ?_ | refine cN ?_ ?_ | refine cB ?_ ?_ | refine gB ?_ ?_ | refine stepGuard_dect ?_ ?_ | refine stepGuard_decf ?_ ?_ | refine stepGuard_ndect ?_ ?_ | refine stepGuard_ndecf ?_ ?_ | refine stepGuard_by ?_ ?_) <;> intro h)
                  | with_reducible first | refine And.intro ?_ ?_ | refine J_seq ?_ | refine J_block ?_ | refine J_inBlock ?_ | refine rC ?_ | refine rR ?_ | refine rE ?_ | refine rG ?_ | refine FinQ.now ?_ | refine FinQ.end ?_)))
                refine .mk (1, true, met3, T3.set n.devs[i].b.toNat true) ⟨by simp only; omega, hP3.mark hed ea (by rw [hbt]; exact hbE), by simp only; omega, fun _ => by simp only; omega, fun h => (by cases h), fun h => (by cases h)⟩ (by simp only; omega) ?_ ?_
                · simp only [← hse]; simp [go_sem, encNet, encDv]
                · simp
        · skip
          have hga := getD_B (l := T3) (i := n.devs[i].b.toNat) (by omega)
          have hgb := getD_B (l := T3) (i := n.devs[i].a.toNat) (by omega)
          have ea : T3.getD n.devs[i].b.toNat false = T3[n.devs[i].b.toNat]'(by omega) := getD_get (by omega)
          have eb : T3.getD n.devs[i].a.toNat false = T3[n.devs[i].a.toNat]'(by omega) := getD_get (by omega)
          have cB := has E n.devs[i].a hEl
          have hbt : ((n.devs[i].a.toNat : Nat) : Int) = n.devs[i].a := by omega
          obtain ⟨ta, hta⟩ : ∃ b, T3[n.devs[i].b.toNat]'(by omega) = b := ⟨_, rfl⟩
          obtain ⟨tb, htb⟩ : ∃ b, T3[n.devs[i].a.toNat]'(by omega) = b := ⟨_, rfl⟩
          rw [hta] at hga ea
          rw [htb] at hgb eb
          have hed : Edge n (fun _ => True) n.devs[i].b.toNat n.devs[i].a.toNat := ⟨i, _, hd?, hjk, trivial, .inr ⟨by omega, by omega⟩⟩
          cases ta with
          | false =>
            have hh : HClo E T3 met3 n.devs[i].b.toNat n.devs[i].a.toNat := fun h => by rw [ea] at h; cases h
            refine J_run 200 ?_
            iterate 20 (all_goals (try (first
              | ((with_reducible refine J_draw (id := 17) 200 [] plan60_17 (by kernel_rfl) (by kernel_rfl) ?_); delta plan60_17)
              | (simp (maxSteps := 1000000) (disch := omega) only [go_sem, hga, Nat.reduceLT])
              | ((with_reducible first | refine gDt ?_ ?_ | refine gDf ?_ ?_ | refine gNt ?_ ?_ | refine gNf ?_ ?_ | refine cD ?_ ?_ | refine cN ?_ ?_ | refine cB ?_ ?_ | refine gB ?_ ?_ | refine stepGuard_dect ?_ ?_ | refine stepGuard_decf ?_ ?_ | refine stepGuard_ndect ?_ ?_ | refine stepGuard_ndecf ?_ ?_ | refine stepGuard_by ?_ ?_) <;> intro h)
              | with_reducible first | refine And.intro ?_ ?_ | refine J_seq ?_ | refine J_block ?_ | refine J_inBlock ?_ | refine rC ?_ | refine rR ?_ | refine rE ?_ | refine rG ?_ | refine FinQ.now ?_ | refine FinQ.end ?_)))
            refine .mk (2, ch3, met3, T3) ⟨by simp only; omega, hP3, hs3, hc3, hE3, fun h => ⟨fun _ => (hH3 h).1 (by omega), fun _ => hh⟩⟩ (by simp only; omega) ?_ ?_
            · simp [go_sem, encNet, encDv]
            · simp
          | true =>
            cases tb with
            | true =>
              have hbE := (hP3.sound _ eb).2
              have hh : HClo E T3 met3 n.devs[i].b.toNat n.devs[i].a.toNat := fun _ => ⟨fun h => absurd h hbE, fun _ => eb⟩
              refine J_run 200 ?_
              iterate 20 (all_goals (try (first
                | ((with_reducible refine J_draw (id := 17) 200 [] plan60_17 (by kernel_rfl) (by kernel_rfl) ?_); delta plan60_17)
                | (simp (maxSteps := 1000000) (disch := omega) only [go_sem, hga, hgb, Nat.reduceLT])
                | ((with_reducible first | refine gDt ?_ ?_ | refine gDf ?_ ?_ | refine gNt ?_ ?_ | refine gNf ?_ ?_ | refine cD ?_ ?_ | refine cN ?_ ?_ | refine cB ?_ ?_ | refine gB ?_ ?_ | refine stepGuard_dect ?_ ?_ | refine stepGuard_decf ?_ ?_ | refine stepGuard_ndect ?_ ?_ | refine stepGuard_ndecf ?_ ?_ | refine stepGuard_by ?_ ?_) <;> intro h)
                | with_reducible first | refine And.intro ?_ ?_ | refine J_seq ?_ | refine J_block ?_ | refine J_inBlock ?_ | refine rC ?_ | refine rR ?_ | refine rE ?_ | refine rG ?_ | refine FinQ.now ?_ | refine FinQ.end ?_)))
              refine .mk (2, ch3, met3, T3) ⟨by simp only; omega, hP3, hs3, hc3, hE3, fun h => ⟨fun _ => (hH3 h).1 (by omega), fun _ => hh⟩⟩ (by simp only; omega) ?_ ?_
              · simp [go_sem, encNet, encDv]
              · simp
            | false =>
              by_cases hbE : n.devs[i].a ∈ E
              · rw [decide_eq_true hbE] at cB
                have hh : HClo E T3 true n.devs[i].b.toNat n.devs[i].a.toNat := fun _ => ⟨fun _ => rfl, fun h => absurd (by rw [hbt]; exact hbE) h⟩
                refine J_run 200 ?_
                iterate 20 (all_goals (try (first
                  | ((with_reducible refine J_draw (id := 17) 200 [] plan60_17 (by kernel_rfl) (by kernel_rfl) ?_); delta plan60_17)
                  | (simp (maxSteps := 1000000) (disch := omega) only [go_sem, hga, hgb, Nat.reduceLT])
                  | ((with_reducible refine CallA.pure cB ?_ ?_); (· simp (disch := omega) only [go_sem, hga, hgb, Nat.reduceLT]); rintro _ _ ⟨rfl, rfl⟩)
                  | ((with_reducible first | refine gDt ?_ ?_ | refine gDf ?_ ?_ | refine gNt ?_ ?_ | refine gNf ?_ ?_ | refine cD ?_ ?_ | refine cN ?_ ?_ | refine cB ?_ ?_ | refine gB ?_ ?_ | refine stepGuard_dect ?_ ?_ | refine stepGuard_decf ?_ ?_ | refine stepGuard_ndect ?_ ?_ | refine stepGuard_ndecf ?_ ?_ | refine stepGuard_by ?_ ?_) <;> intro h)
                  | with_reducible first | refine And.intro ?_ ?_ | refine J_seq ?_ | refine J_block ?_ | refine J_inBlock ?_ | refine rC ?_ | refine rR ?_ | refine rE ?_ | refine rG ?_ | refine FinQ.now ?_ | refine FinQ.end ?_)))
                refine .mk (2, ch3, true, T3) ⟨by simp only; omega, hP3.meet hed ea (by rw [hbt]; exact hbE), hs3, hc3, fun h j hj => (hE3 h j hj).met fun _ => rfl, fun h => ⟨fun _ => ((hH3 h).1 (by omega)).met fun _ => rfl, fun _ => hh⟩⟩ (by simp only; omega) ?_ ?_
                · simp [go_sem, encNet, encDv]
                · simp
              · rw [decide_eq_false hbE] at cB
                have hcs := count_set (l := T3) (i := n.devs[i].a.toNat) (by omega) htb
                have hse : (T3.map encB).set n.devs[i].a.toNat [.raw (.bool true)] = (T3.set n.devs[i].a.toNat true).map encB := by rw [List.map_set]; rfl
                refine J_run 200 ?_
                iterate 24 (all_goals (try (first
                  | ((with_reducible refine J_draw (id := 17) 200 [] plan60_17 (by kernel_rfl) (by kernel_rfl) ?_); delta plan60_17)
                  | (simp (maxSteps := 1000000) (disch := omega) only [go_sem, hga, hgb, Nat.reduceLT])
                  | ((with_reducible refine CallA.pure cB ?_ ?_); (· simp (disch := omega) only [go_sem, hga, hgb, Nat.reduceLT]); rintro _ _ ⟨rfl, rfl⟩)
                  | ((with_reducible first | refine gDt ?_ ?_ | refine gDf ?_ ?_ | refine gNt ?_ ?_ | refine gNf ?_ ?_ | refine cD ?_ ?_ | refine cN ?_ ?_ | refine cB ?_ ?_ | refine gB ?_ ?_ | refine stepGuard_dect ?_ ?_ | refine stepGuard_decf ?_ ?_ | refine stepGuard_ndect ?_ ?_ | refine stepGuard_ndecf ?_ ?_ | refine stepGuard_by ?_ ?_) <;> intro h)
                  | with_reducible first | refine And.intro ?_ ?_ | refine J_seq ?_ | refine J_block ?_ | refine J_inBlock ?_ | refine rC ?_ | refine rR ?_ | refine rE ?_ | refine rG ?_ | refine FinQ.now ?_ | refine FinQ.end ?_)))
                refine .mk (2, true, met3, T3.set n.devs[i].a.toNat true) ⟨by simp only; omega, hP3.mark hed ea (by rw [hbt]; exact hbE), by simp only; omega, fun _ => by simp only; omega, fun h => (by cases h), fun h => (by cases h)⟩ (by simp only; omega) ?_ ?_
                · simp only [← hse]; simp [go_sem, encNet, encDv]
                · simp
        · have hcl : ch3 = false → Clo n E T3 met3 i := fun h d hd hj => by
            rw [hd?] at hd; cases hd
            exact ⟨(hH3 h).1 (by omega), (hH3 h).2 (by omega)⟩
          refine J_run 200 ?_
          iterate 12 (all_goals (try (first
            | (simp (maxSteps := 1000000) (disch := omega) only [go_sem, Nat.reduceLT])
            | ((with_reducible first | refine gDt ?_ ?_ | refine gDf ?_ ?_ | refine gNt ?_ ?_ | refine gNf ?_ ?_ | refine cD ?_ ?_ | refine cN ?_ ?_ | refine cB ?_ ?_ | refine gB ?_ ?_) <;> intro h)
            | with_reducible first | refine And.intro ?_ ?_ | refine J_seq ?_ | refine J_block ?_ | refine J_inBlock ?_ | refine rC ?_ | refine rR ?_ | refine rE ?_ | refine rG ?_ | refine FinQ.now ?_ | refine FinQ.end ?_)))
          refine .mk (i + 1, ch3, met3, T3) ⟨by simp only; omega, hP3, hs3, hc3, fun h j hj => ?_⟩ (by simp only; omega) ?_ ?_
          · rcases Nat.lt_succ_iff_lt_or_eq.1 hj with h3 | rfl
            · exact hE3 h j h3
            · exact hcl h
          · simp [go_sem, encNet, encDv]
          · simp
    · have hie : i = n.devs.length := by omega
      subst hie
      refine J_run 200 ?_
      iterate 20 (all_goals (try (first
        | (simp (maxSteps := 1000000) (disch := omega) only [go_sem])
        | ((with_reducible first | refine gDt ?_ ?_ | refine gDf ?_ ?_ | refine gNt ?_ ?_ | refine gNf ?_ ?_ | refine cD ?_ ?_ | refine cN ?_ ?_ | refine cB ?_ ?_ | refine gB ?_ ?_) <;> intro h)
        | with_reducible first | refine And.intro ?_ ?_ | refine J_seq ?_ | refine J_block ?_ | refine J_inBlock ?_ | refine rC ?_ | refine rR ?_ | refine rE ?_ | refine rG ?_ | refine FinQ.now ?_ | refine FinQ.end ?_)))
      refine J_nil ?_
      simp only [go_sem]
      refine .mk (ch2, met2, T2) ⟨hP2, hE2⟩ ?_ ?_ ?_
      · cases ch2
        · simp only [Bool.false_eq_true, if_false, if_true]; omega
        · have := hc2 rfl
          simp only [if_true]; omega
      · simp [go_sem, encNet]
      · simp
end Go.Proofs.YthgcmeniecaemaaGreatDoor.Abs
