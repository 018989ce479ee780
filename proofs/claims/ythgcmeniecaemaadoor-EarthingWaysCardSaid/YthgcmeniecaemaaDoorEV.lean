/- References: steps and ways. -/
import Derived.Test.YthgcmeniecaemaaDoorEW
import Derived.Test.YthgcmeniecaemaaDoorR1
import Derived.Test.YthgcmeniecaemaaDoorRT
import Derived.Test.YthgcmeniecaemaaDoorZ3
namespace Go.Proofs.YthgcmeniecaemaaDoor.Abs
set_option linter.unusedSimpArgs false
set_option linter.unusedVariables false
set_option maxRecDepth 100000
open Go Go.RowKit

theorem rOther (n : Net) (hn : n.ok) (i : Nat) (hi : i < n.devs.length) (v : Int) : Fn1 Tryd.prog GT0 60 [.agg (encNet n), .raw (.int .i64 i), .raw (.int .i64 v)] (.raw (.int .i64 (acrossV n.devs[i] v))) [] := by
  have c := refCheck n hn.sized
  have cj := rJoins n.devs[i].kind
  have hdl := hn.dl
  have hdv := getD_Dv hi
  rw [Net.chk_ok.2 hn] at c
  obtain ⟨jk, hjk⟩ : ∃ b, joinsK n.devs[i].kind = b := ⟨_, rfl⟩
  rw [hjk] at cj
  refine holds_of Tryd.func60 rfl rfl ?_
  refine J_run 200 ?_
  delta Tryd.f60
  simp only [encNet] at c ⊢
  cases jk
  all_goals
    iterate 30 (all_goals (try (first
      | (exfalso; omega)
      | (simp (maxSteps := 1000000) (disch := omega) only [go_sem, hdv])
      | ((with_reducible refine CallA.pure c ?_ ?_); (· simp (disch := omega) only [go_sem, hdv]); rintro _ _ ⟨rfl, rfl⟩)
      | ((with_reducible refine CallA.pure cj ?_ ?_); (· simp (disch := omega) only [go_sem, hdv]); rintro _ _ ⟨rfl, rfl⟩)
      | ((with_reducible first | refine gDt ?_ ?_ | refine gDf ?_ ?_ | refine gNt ?_ ?_ | refine gNf ?_ ?_ | refine cD ?_ ?_ | refine cN ?_ ?_ | refine cB ?_ ?_ | refine gB ?_ ?_) <;> intro h)
      | with_reducible first | refine And.intro ?_ ?_ | refine J_seq ?_ | refine J_block ?_ | refine J_inBlock ?_ | refine rC ?_ | refine rR ?_ | refine rE ?_ | refine rG ?_ | refine FinQ.now ?_ | refine FinQ.end ?_)))
    all_goals (unfold acrossV; simp_all)
def initM (N i : Nat) : List Int := (List.range N).map fun v => if v < i then (-1 : Int) else 0
theorem initM_len {N i : Nat} : (initM N i).length = N := by simp [initM]
theorem initM_next {N i : Nat} (hi : i < N) : initM N (i + 1) = (initM N i).set i (-1) := by
  apply List.ext_getElem (by simp [initM])
  intro v h1 h2
  have hv : v < N := by simpa [initM] using h1
  rw [List.getElem_set]
  simp only [initM, List.getElem_map, List.getElem_range]
  by_cases e : i = v
  · subst e; simp
  · rw [if_neg e]
    by_cases h : v < i
    · rw [if_pos (by omega), if_pos h]
    · rw [if_neg (by omega), if_neg h]
theorem initM_zero {N : Nat} : (initM N 0).map encN = List.replicate N [.raw (.int .i64 0)] := by
  simp only [initM, List.map_map]
  apply List.ext_getElem (by simp)
  intro v h1 h2
  simp [encN]
theorem initM_all {N : Nat} : initM N N = List.replicate N (-1) := by
  apply List.ext_getElem (by simp [initM])
  intro v h1 h2
  have hv : v < N := by simpa [initM] using h1
  simp [initM, hv]
theorem Stp.zero {n : Net} {use : List Bool} {t : Nat} (ht : t < n.nodes.length) : Stp n use [(t : Int)] ((List.replicate n.nodes.length (-1)).set t 0) := by
  have hng := negs_set (l := List.replicate n.nodes.length (-1)) (i := t) (by simpa using ht) 0 (by omega)
  have hn0 : negs (List.replicate n.nodes.length (-1)) = n.nodes.length := by simp [negs, List.countP_replicate]
  rw [hn0] at hng
  simp only [List.getElem_replicate] at hng
  rw [if_pos (by omega)] at hng
  have at_ : ∀ v (hv : v < ((List.replicate n.nodes.length (-1 : Int)).set t 0).length), 0 ≤ ((List.replicate n.nodes.length (-1 : Int)).set t 0)[v] → v = t := fun v hv h => by
    rw [List.getElem_set] at h
    split at h
    · omega
    · simp at h
  refine ⟨by simp, fun v hv => ?_, fun x hx => ?_, fun v hv h => ?_, fun v hv h => ?_, fun v hv h => ?_, fun v hv h => ?_⟩
  · rw [List.getElem_set]; split <;> simp
  · rw [List.mem_singleton.1 hx, Int.toNat_natCast, getD_get (by simpa using ht), List.getElem_set_self]
  · exact .base (by rw [at_ v hv h]; simp)
  · have e := at_ v hv h
    subst e
    rw [List.getElem_set_self]; omega
  · rw [at_ v hv (by omega)]; simp
  · have e := at_ v hv (by omega)
    subst e
    rw [List.getElem_set_self] at h; omega
/-- What the steps give. -/
def StepsR (n : Net) (use : List Bool) (t : Nat) (o : List Int) : Prop := o.length = n.nodes.length ∧ (∀ v (hv : v < o.length), -1 ≤ o[v] ∧ o[v] ≤ 100 ∧ (o[v] = 0 → v = t)) ∧ (∀ v (hv : v < o.length), 0 ≤ o[v] ↔ Rch n (Used use) (fun _ => False) (fun u => u = t) v) ∧ ∀ v (hv : v < o.length), 0 < o[v] → ∃ u, Edge n (Used use) v u ∧ ∃ hu : u < o.length, o[u] = o[v] - 1
theorem StepsR.of {n : Net} {use : List Bool} {t : Nat} (ht : t < n.nodes.length) (hN : n.nodes.length ≤ 32) {o : List Int} (h : Stp n use [(t : Int)] o) (hc : ∀ i, i < n.devs.length → Calm n use o i) : StepsR n use t o := by
  have hh := h.all hc (fun x hx => by rw [List.mem_singleton.1 hx]; omega)
  have e : ∀ v, Rch n (Used use) (fun _ => False) (fun u => (u : Int) ∈ [(t : Int)]) v ↔ Rch n (Used use) (fun _ => False) (fun u => u = t) v := fun v =>
    ⟨Rch.mono (fun _ h => h) (fun _ h => h) fun u hu => by have := List.mem_singleton.1 hu; omega, Rch.mono (fun _ h => h) (fun _ h => h) fun u hu => by rw [hu]; simp⟩
  refine ⟨h.len, fun v hv => ⟨h.low v hv, ?_, fun h0 => ?_⟩, fun v hv => (hh.1 v hv).trans (e v), hh.2⟩
  · by_cases h0 : 0 ≤ o[v]
    · have := h.most v hv h0; omega
    · omega
  · have := List.mem_singleton.1 (h.zer v hv h0); omega
theorem Calm1.of {o : List Int} {a b : Nat} (ha : a < o.length) (hb : b < o.length) (h : ¬ (0 ≤ o[a] ∧ (o[b] < 0 ∨ o[a] + 1 < o[b]))) : Calm1 o a b := by
  unfold Calm1
  rw [getD_get ha, getD_get hb]
  intro h0
  omega
def StepsQ (n : Net) (use : List Bool) (t : Nat) (r : AV) (os : List Obj) : Prop := ∃ o, StepsR n use t o ∧ r = .lst 1 (o.map encN) ∧ os = []
set_option maxHeartbeats 16000000 in
theorem stepsF (n : Net) (hn : n.ok) (use : List Bool) (hu : use.length = n.devs.length) (t : Nat) (ht : t < n.nodes.length) :
    Holds Tryd.prog GT0 59 [.agg (encNet n), .lst 1 (use.map encB), .lst 1 [encN t]] [] (StepsQ n use t) := by
  have hnl := hn.nl
  have hdl := hn.dl
  refine holds_of Tryd.func59 rfl rfl ?_
  refine J_run 200 ?_
  delta Tryd.f59
  simp only [encNet, encN]
  iterate 8 (all_goals (try (first
    | (simp (maxSteps := 1000000) (disch := omega) only [go_sem])
    | ((with_reducible first | refine gDt ?_ ?_ | refine gDf ?_ ?_ | refine gNt ?_ ?_ | refine gNf ?_ ?_ | refine cD ?_ ?_ | refine cN ?_ ?_ | refine cB ?_ ?_ | refine gB ?_ ?_) <;> intro h)
    | with_reducible first | refine And.intro ?_ ?_ | refine J_seq ?_ | refine J_block ?_ | refine J_inBlock ?_ | refine rC ?_ | refine rR ?_ | refine rE ?_ | refine rG ?_ | refine FinQ.now ?_ | refine FinQ.end ?_)))
  refine J_for (upto 19 27) (fun i : Nat => [(8, .raw (.int .i64 i))]) (fun i => [.box (encNet n), .arr 1 ((initM n.nodes.length i).map encN)]) (fun i => i ≤ n.nodes.length) (fun i => n.nodes.length - i) 0 (by omega) (.le (by simp [go_sem, encNet, initM_zero]) (by simp)) ?_
  intro i hi
  simp only [encNet]
  have hml := initM_len (N := n.nodes.length) (i := i)
  by_cases hlt : i < n.nodes.length
  · have hnx := initM_next hlt
    have hse := set_encN (l := initM n.nodes.length i) (k := i) (x := -1) (by omega)
    refine J_run 200 ?_
    iterate 12 (all_goals (try (first
      | (simp (maxSteps := 1000000) (disch := omega) only [go_sem])
      | ((with_reducible first | refine gDt ?_ ?_ | refine gDf ?_ ?_ | refine gNt ?_ ?_ | refine gNf ?_ ?_ | refine cD ?_ ?_ | refine cN ?_ ?_ | refine cB ?_ ?_ | refine gB ?_ ?_) <;> intro h)
      | with_reducible first | refine And.intro ?_ ?_ | refine J_seq ?_ | refine J_block ?_ | refine J_inBlock ?_ | refine rC ?_ | refine rR ?_ | refine rE ?_ | refine rG ?_ | refine FinQ.now ?_ | refine FinQ.end ?_)))
    refine .mk (i + 1) hlt (by omega) ?_ ?_
    · rw [hnx, ← hse]; simp [go_sem, encNet]
    · simp
  have hie : i = n.nodes.length := by omega
  subst hie
  rw [initM_all]
  refine J_run 200 ?_
  iterate 8 (all_goals (try (first
    | (simp (maxSteps := 1000000) (disch := omega) only [go_sem])
    | ((with_reducible first | refine gDt ?_ ?_ | refine gDf ?_ ?_ | refine gNt ?_ ?_ | refine gNf ?_ ?_ | refine cD ?_ ?_ | refine cN ?_ ?_ | refine cB ?_ ?_ | refine gB ?_ ?_) <;> intro h)
    | with_reducible first | refine And.intro ?_ ?_ | refine J_seq ?_ | refine J_block ?_ | refine J_inBlock ?_ | refine rC ?_ | refine rR ?_ | refine rE ?_ | refine rG ?_ | refine FinQ.now ?_ | refine FinQ.end ?_)))
  have hse0 := set_encN (l := List.replicate n.nodes.length (-1 : Int)) (k := t) (x := 0) (by simpa using ht)
  refine J_for (upto 28 39) (fun j : Nat => [(9, .raw (.int .i64 j))]) (fun j => [.box (encNet n), .arr 1 ((if j = 0 then List.replicate n.nodes.length (-1 : Int) else (List.replicate n.nodes.length (-1 : Int)).set t 0).map encN)]) (fun j => j ≤ 1) (fun j => 1 - j) 0 (by omega) (.le (by simp [go_sem, encNet]) (by simp)) ?_
  intro j hj
  simp only [encNet]
  by_cases hj0 : j = 0
  · subst hj0
    simp only [if_true]
    refine J_run 200 ?_
    iterate 12 (all_goals (try (first
      | (simp (maxSteps := 1000000) (disch := omega) only [go_sem, List.length_singleton])
      | ((with_reducible first | refine gDt ?_ ?_ | refine gDf ?_ ?_ | refine gNt ?_ ?_ | refine gNf ?_ ?_ | refine cD ?_ ?_ | refine cN ?_ ?_ | refine cB ?_ ?_ | refine gB ?_ ?_) <;> intro h)
      | with_reducible first | refine And.intro ?_ ?_ | refine J_seq ?_ | refine J_block ?_ | refine J_inBlock ?_ | refine rC ?_ | refine rR ?_ | refine rE ?_ | refine rG ?_ | refine FinQ.now ?_ | refine FinQ.end ?_)))
    refine .mk 1 (by omega) (by omega) ?_ ?_
    · rw [if_neg (by omega), ← hse0]; simp [go_sem, encNet]
    · simp
  have hj1 : j = 1 := by omega
  subst hj1
  simp only [Nat.one_ne_zero, if_false]
  have hz0 := Stp.zero (n := n) (use := use) ht
  refine J_run 200 ?_
  iterate 10 (all_goals (try (first
    | (simp (maxSteps := 1000000) (disch := omega) only [go_sem, List.length_singleton])
    | ((with_reducible first | refine gDt ?_ ?_ | refine gDf ?_ ?_ | refine gNt ?_ ?_ | refine gNf ?_ ?_ | refine cD ?_ ?_ | refine cN ?_ ?_ | refine cB ?_ ?_ | refine gB ?_ ?_) <;> intro h)
    | with_reducible first | refine And.intro ?_ ?_ | refine J_seq ?_ | refine J_block ?_ | refine J_inBlock ?_ | refine rC ?_ | refine rR ?_ | refine rE ?_ | refine rG ?_ | refine FinQ.now ?_ | refine FinQ.end ?_)))
  refine J_for ([11, 12, 13, 14] ++ upto 40 109) (fun x : Bool × List Int => [(10, .raw (.bool x.1))]) (fun x => [.box (encNet n), .arr 1 (x.2.map encN)]) (fun x => Stp n use [(t : Int)] x.2 ∧ (x.1 = false → ∀ i, i < n.devs.length → Calm n use x.2 i)) (fun x => 2 * wgtL n.nodes.length x.2 + (if x.1 then 1 else 0)) (true, (List.replicate n.nodes.length (-1 : Int)).set t 0) ⟨hz0, by simp⟩ (.le (by simp [go_sem, encNet]) (by simp)) ?_
  rintro ⟨ch, out⟩ ⟨hS, hC⟩
  simp only [encNet] at hS hC ⊢
  have hol := hS.len
  cases ch with
  | false =>
    refine J_run 200 ?_
    iterate 10 (all_goals (try (first
      | (simp (maxSteps := 1000000) (disch := omega) only [go_sem])
      | ((with_reducible first | refine gDt ?_ ?_ | refine gDf ?_ ?_ | refine gNt ?_ ?_ | refine gNf ?_ ?_ | refine cD ?_ ?_ | refine cN ?_ ?_ | refine cB ?_ ?_ | refine gB ?_ ?_) <;> intro h)
      | with_reducible first | refine And.intro ?_ ?_ | refine J_seq ?_ | refine J_block ?_ | refine J_inBlock ?_ | refine rC ?_ | refine rR ?_ | refine rE ?_ | refine rG ?_)))
    refine .frz [1] (.now ?_)
    simp only [go_sem]
    rw [List.take_of_length_le (by simp; omega)]
    exact ⟨out, .of ht (by omega) hS (hC rfl), rfl, rfl⟩
  | true =>
    refine J_run 200 ?_
    iterate 8 (all_goals (try (first
      | (simp (maxSteps := 1000000) (disch := omega) only [go_sem])
      | ((with_reducible first | refine gDt ?_ ?_ | refine gDf ?_ ?_ | refine gNt ?_ ?_ | refine gNf ?_ ?_ | refine cD ?_ ?_ | refine cN ?_ ?_ | refine cB ?_ ?_ | refine gB ?_ ?_) <;> intro h)
      | with_reducible first | refine And.intro ?_ ?_ | refine J_seq ?_ | refine J_block ?_ | refine J_inBlock ?_ | refine rC ?_ | refine rR ?_ | refine rE ?_ | refine rG ?_ | refine FinQ.now ?_ | refine FinQ.end ?_)))
    refine J_for ([12, 13, 14] ++ upto 41 109) (fun x : Nat × Bool × List Int => [(11, .raw (.int .i64 x.1)), (10, .raw (.bool x.2.1))]) (fun x => [.box (encNet n), .arr 1 (x.2.2.map encN)]) (fun x => x.1 ≤ n.devs.length ∧ Stp n use [(t : Int)] x.2.2 ∧ wgtL n.nodes.length x.2.2 ≤ wgtL n.nodes.length out ∧ (x.2.1 = true → wgtL n.nodes.length x.2.2 < wgtL n.nodes.length out) ∧ (x.2.1 = false → ∀ j, j < x.1 → Calm n use x.2.2 j)) (fun x => n.devs.length - x.1) (0, false, out) ⟨by simp only; omega, hS, Nat.le_refl _, by simp, fun _ j hj => absurd hj (by simp)⟩ (.le (by simp [go_sem, encNet]) (by simp)) ?_
    rintro ⟨i, ch, o⟩ ⟨hi, hS2, hw1, hw2, hE⟩
    simp only [encNet] at hi hS2 hw1 hw2 hE ⊢
    have hol2 := hS2.len
    by_cases hlt : i < n.devs.length
    · have hdv := getD_Dv hlt
      have hd? : n.devs[i]? = some n.devs[i] := List.getElem?_eq_getElem hlt
      have hgu := getD_B (l := use) (i := i) (by omega)
      have hud : use.getD i false = use[i]'(by omega) := getD_get (by omega)
      have cj := rJoins n.devs[i].kind
      have hok := hn.dev' hlt
      have ha0 := hok.a0; have hal := hok.al
      have skip : (use[i]'(by omega) = false ∨ joinsK n.devs[i].kind = false ∨ (Calm1 o n.devs[i].a.toNat n.devs[i].b.toNat ∧ Calm1 o n.devs[i].b.toNat n.devs[i].a.toNat)) → ch = false → ∀ j, j < i + 1 → Calm n use o j := fun hx hc j hj => by
        rcases Nat.lt_succ_iff_lt_or_eq.1 hj with h3 | rfl
        · exact hE hc j h3
        · intro d hd hjk hus
          rw [hd?] at hd; cases hd
          rcases hx with h | h | h
          · rw [Used, hud, h] at hus; cases hus
          · rw [h] at hjk; cases hjk
          · exact h
      obtain ⟨u, hue⟩ : ∃ u, use[i]'(by omega) = u := ⟨_, rfl⟩
      rw [hue] at hgu
      cases u with
      | false =>
        refine J_run 200 ?_
        iterate 16 (all_goals (try (first
          | (simp (maxSteps := 1000000) (disch := omega) only [go_sem, hdv, hgu])
          | ((with_reducible first | refine gDt ?_ ?_ | refine gDf ?_ ?_ | refine gNt ?_ ?_ | refine gNf ?_ ?_ | refine cD ?_ ?_ | refine cN ?_ ?_ | refine cB ?_ ?_ | refine gB ?_ ?_) <;> intro h)
          | with_reducible first | refine And.intro ?_ ?_ | refine J_seq ?_ | refine J_block ?_ | refine J_inBlock ?_ | refine rC ?_ | refine rR ?_ | refine rE ?_ | refine rG ?_ | refine FinQ.now ?_ | refine FinQ.end ?_)))
        all_goals
          refine .mk (i + 1, ch, o) ⟨by simp only; omega, hS2, hw1, hw2, skip (.inl hue)⟩ (by simp only; omega) ?_ ?_
          · simp [go_sem, encNet]
          · simp
      | true =>
        obtain ⟨jk, hjk⟩ : ∃ b, joinsK n.devs[i].kind = b := ⟨_, rfl⟩
        rw [hjk] at cj
        cases jk with
        | false =>
          refine J_run 200 ?_
          iterate 16 (all_goals (try (first
            | (simp (maxSteps := 1000000) (disch := omega) only [go_sem, hdv, hgu])
            | ((with_reducible refine CallA.pure cj ?_ ?_); (· simp (disch := omega) only [go_sem, hdv, hgu]); rintro _ _ ⟨rfl, rfl⟩)
            | ((with_reducible first | refine gDt ?_ ?_ | refine gDf ?_ ?_ | refine gNt ?_ ?_ | refine gNf ?_ ?_ | refine cD ?_ ?_ | refine cN ?_ ?_ | refine cB ?_ ?_ | refine gB ?_ ?_) <;> intro h)
            | with_reducible first | refine And.intro ?_ ?_ | refine J_seq ?_ | refine J_block ?_ | refine J_inBlock ?_ | refine rC ?_ | refine rR ?_ | refine rE ?_ | refine rG ?_ | refine FinQ.now ?_ | refine FinQ.end ?_)))
          all_goals
            refine .mk (i + 1, ch, o) ⟨by simp only; omega, hS2, hw1, hw2, skip (.inr (.inl hjk))⟩ (by simp only; omega) ?_ ?_
            · simp [go_sem, encNet]
            · simp
        | true =>
          have hb := hok.j hjk
          have hga := getD_N (l := o) (i := n.devs[i].a.toNat) (by omega)
          have hgb := getD_N (l := o) (i := n.devs[i].b.toNat) (by omega)
          have hed : Edge n (Used use) n.devs[i].a.toNat n.devs[i].b.toNat := ⟨i, _, hd?, hjk, by rw [Used, hud, hue], .inl ⟨by omega, by omega⟩⟩
          have hla := hS2.low n.devs[i].a.toNat (by omega)
          have hlb := hS2.low n.devs[i].b.toNat (by omega)
          have hma : o[n.devs[i].a.toNat]'(by omega) ≤ 100 := by
            by_cases h0 : 0 ≤ o[n.devs[i].a.toNat]'(by omega)
            · have := hS2.most _ (by omega) h0; omega
            · omega
          have hmb : o[n.devs[i].b.toNat]'(by omega) ≤ 100 := by
            by_cases h0 : 0 ≤ o[n.devs[i].b.toNat]'(by omega)
            · have := hS2.most _ (by omega) h0; omega
            · omega
          obtain ⟨va, hva⟩ : ∃ v, o[n.devs[i].a.toNat]'(by omega) = v := ⟨_, rfl⟩
          obtain ⟨vb, hvb⟩ : ∃ v, o[n.devs[i].b.toNat]'(by omega) = v := ⟨_, rfl⟩
          rw [hva] at hga hla hma
          rw [hvb] at hgb hlb hmb
          by_cases h1 : 0 ≤ va ∧ (vb < 0 ∨ va + 1 < vb)
          · obtain ⟨hS3, hw3⟩ := hS2.step hn hed (by omega) (by omega) (by rw [hva]; exact h1.1) (by rw [hva, hvb]; exact h1.2)
            have hse : (o.map encN).set n.devs[i].b.toNat [.raw (.int .i64 (va + 1))] = (o.set n.devs[i].b.toNat (va + 1)).map encN := by rw [List.map_set]; rfl
            rw [hva] at hS3 hw3
            refine J_run 200 ?_
            iterate 24 (all_goals (try (first
              | (exfalso; omega)
              | ((with_reducible refine J_draw (id := 18) 200 [] plan59_18 (by kernel_rfl) (by kernel_rfl) ?_); delta plan59_18)
              | (simp (maxSteps := 1000000) (disch := omega) only [go_sem, hdv, hgu, hga, hgb])
              | ((with_reducible refine CallA.pure cj ?_ ?_); (· simp (disch := omega) only [go_sem, hdv, hgu, hga, hgb]); rintro _ _ ⟨rfl, rfl⟩)
              | ((with_reducible first | refine gDt ?_ ?_ | refine gDf ?_ ?_ | refine gNt ?_ ?_ | refine gNf ?_ ?_ | refine cD ?_ ?_ | refine cN ?_ ?_ | refine cB ?_ ?_ | refine gB ?_ ?_ | refine stepGuard_dect ?_ ?_ | refine stepGuard_decf ?_ ?_ | refine stepGuard_ndect ?_ ?_ | refine stepGuard_ndecf ?_ ?_ | refine stepGuard_by ?_ ?_) <;> intro h)
              | with_reducible first | refine And.intro ?_ ?_ | refine J_seq ?_ | refine J_block ?_ | refine J_inBlock ?_ | refine rC ?_ | refine rR ?_ | refine rE ?_ | refine rG ?_ | refine FinQ.now ?_ | refine FinQ.end ?_)))
            all_goals
              refine .mk (i + 1, true, o.set n.devs[i].b.toNat (va + 1)) ⟨by simp only; omega, hS3, by simp only; omega, fun _ => by simp only; omega, fun h => by cases h⟩ (by simp only; omega) ?_ ?_
              · simp only [← hse]; simp [go_sem, encNet]
              · simp
          · by_cases h2 : 0 ≤ vb ∧ (va < 0 ∨ vb + 1 < va)
            · obtain ⟨hS3, hw3⟩ := hS2.step hn hed.symm (by omega) (by omega) (by rw [hvb]; exact h2.1) (by rw [hva, hvb]; exact h2.2)
              have hse : (o.map encN).set n.devs[i].a.toNat [.raw (.int .i64 (vb + 1))] = (o.set n.devs[i].a.toNat (vb + 1)).map encN := by rw [List.map_set]; rfl
              rw [hvb] at hS3 hw3
              refine J_run 200 ?_
              iterate 24 (all_goals (try (first
                | (exfalso; omega)
                | ((with_reducible refine J_draw (id := 18) 200 [] plan59_18 (by kernel_rfl) (by kernel_rfl) ?_); delta plan59_18)
                | (simp (maxSteps := 1000000) (disch := omega) only [go_sem, hdv, hgu, hga, hgb])
                | ((with_reducible refine CallA.pure cj ?_ ?_); (· simp (disch := omega) only [go_sem, hdv, hgu, hga, hgb]); rintro _ _ ⟨rfl, rfl⟩)
                | ((with_reducible first | refine gDt ?_ ?_ | refine gDf ?_ ?_ | refine gNt ?_ ?_ | refine gNf ?_ ?_ | refine cD ?_ ?_ | refine cN ?_ ?_ | refine cB ?_ ?_ | refine gB ?_ ?_ | refine stepGuard_dect ?_ ?_ | refine stepGuard_decf ?_ ?_ | refine stepGuard_ndect ?_ ?_ | refine stepGuard_ndecf ?_ ?_ | refine stepGuard_by ?_ ?_) <;> intro h)
                | with_reducible first | refine And.intro ?_ ?_ | refine J_seq ?_ | refine J_block ?_ | refine J_inBlock ?_ | refine rC ?_ | refine rR ?_ | refine rE ?_ | refine rG ?_ | refine FinQ.now ?_ | refine FinQ.end ?_)))
              all_goals
                refine .mk (i + 1, true, o.set n.devs[i].a.toNat (vb + 1)) ⟨by simp only; omega, hS3, by simp only; omega, fun _ => by simp only; omega, fun h => by cases h⟩ (by simp only; omega) ?_ ?_
                · simp only [← hse]; simp [go_sem, encNet]
                · simp
            · refine J_run 200 ?_
              iterate 24 (all_goals (try (first
                | (exfalso; omega)
                | ((with_reducible refine J_draw (id := 18) 200 [] plan59_18 (by kernel_rfl) (by kernel_rfl) ?_); delta plan59_18)
                | (simp (maxSteps := 1000000) (disch := omega) only [go_sem, hdv, hgu, hga, hgb])
                | ((with_reducible refine CallA.pure cj ?_ ?_); (· simp (disch := omega) only [go_sem, hdv, hgu, hga, hgb]); rintro _ _ ⟨rfl, rfl⟩)
                | ((with_reducible first | refine gDt ?_ ?_ | refine gDf ?_ ?_ | refine gNt ?_ ?_ | refine gNf ?_ ?_ | refine cD ?_ ?_ | refine cN ?_ ?_ | refine cB ?_ ?_ | refine gB ?_ ?_ | refine stepGuard_dect ?_ ?_ | refine stepGuard_decf ?_ ?_ | refine stepGuard_ndect ?_ ?_ | refine stepGuard_ndecf ?_ ?_ | refine stepGuard_by ?_ ?_) <;> intro h)
                | with_reducible first | refine And.intro ?_ ?_ | refine J_seq ?_ | refine J_block ?_ | refine J_inBlock ?_ | refine rC ?_ | refine rR ?_ | refine rE ?_ | refine rG ?_ | refine FinQ.now ?_ | refine FinQ.end ?_)))
              all_goals
                refine .mk (i + 1, ch, o) ⟨by simp only; omega, hS2, hw1, hw2, skip (.inr (.inr ⟨.of (by omega) (by omega) (by rw [hva, hvb]; exact h1), .of (by omega) (by omega) (by rw [hva, hvb]; exact h2)⟩))⟩ (by simp only; omega) ?_ ?_
                · simp [go_sem, encNet]
                · simp
    · have hie : i = n.devs.length := by omega
      subst hie
      refine J_run 200 ?_
      iterate 12 (all_goals (try (first
        | (simp (maxSteps := 1000000) (disch := omega) only [go_sem])
        | ((with_reducible first | refine gDt ?_ ?_ | refine gDf ?_ ?_ | refine gNt ?_ ?_ | refine gNf ?_ ?_ | refine cD ?_ ?_ | refine cN ?_ ?_ | refine cB ?_ ?_ | refine gB ?_ ?_) <;> intro h)
        | with_reducible first | refine And.intro ?_ ?_ | refine J_seq ?_ | refine J_block ?_ | refine J_inBlock ?_ | refine rC ?_ | refine rR ?_ | refine rE ?_ | refine rG ?_ | refine FinQ.now ?_ | refine FinQ.end ?_)))
      refine J_nil ?_
      simp only [go_sem]
      refine .mk (ch, o) ⟨hS2, hE⟩ ?_ ?_ ?_
      · cases ch
        · simp only [Bool.false_eq_true, if_false, if_true]; omega
        · have := hw2 rfl
          simp only [if_true]; omega
      · simp [go_sem, encNet]
      · simp
end Go.Proofs.YthgcmeniecaemaaDoor.Abs
