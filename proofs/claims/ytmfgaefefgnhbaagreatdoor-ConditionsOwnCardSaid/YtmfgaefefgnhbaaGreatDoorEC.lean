/- Earthing in the program: what it computes. -/
import Derived.Test.YtmfgaefefgnhbaaGreatDoorEA
import Derived.Test.YtmfgaefefgnhbaaGreatDoorEB
import Derived.Test.YtmfgaefefgnhbaaGreatDoorZ3
import Derived.Test.YtmfgaefefgnhbaaGreatDoorR4
import Derived.Test.YtmfgaefefgnhbaaGreatDoorAbsU
namespace Go.Proofs.YtmfgaefefgnhbaaGreatDoor.Abs
set_option linter.unusedSimpArgs false
set_option linter.unusedVariables false
set_option maxRecDepth 100000
open Go Go.RowKit

theorem containsFunc (ys : List Int) (fn : FuncId) (cap : List AV) (hcap : AV.immL cap = true) (pr : Int → Bool) (hl : ys.length ≤ 9223372036854775807)
    (hp : ∀ y, y ∈ ys → Fn1 Tryz.prog GT0 fn (.raw (.int .i64 y) :: cap) (.raw (.bool (pr y))) []) :
    Fn1 Tryz.prog GT0 135 [.lst 1 (ys.map encN), .clo (.func fn) [] cap] (.raw (.bool (ys.any pr))) [] := by
  have hcapk := fun s => AV.keepsL_imm s cap hcap
  have c := indexFunc ys fn cap hcap pr hl hp
  refine holds_of Tryz.func135 rfl rfl ?_
  refine J_run 200 ?_
  delta Tryz.f135
  repeat' (first
    | (simp (maxSteps := 1000000) (disch := omega) only [go_sem, hcap])
    | ((with_reducible refine CallA.pure c ?_ ?_); (· simp (disch := omega) only [go_sem, hcap]); rintro _ _ ⟨rfl, rfl⟩)
    | ((with_reducible first | refine gDt ?_ ?_ | refine gDf ?_ ?_ | refine gNt ?_ ?_ | refine gNf ?_ ?_ | refine cD ?_ ?_ | refine cN ?_ ?_ | refine cB ?_ ?_ | refine gB ?_ ?_) <;> intro h)
    | with_reducible first | refine And.intro ?_ ?_ | refine J_seq ?_ | refine J_block ?_ | refine J_inBlock ?_ | refine rC ?_ | refine rR ?_ | refine rE ?_ | refine rG ?_ | refine FinQ.now ?_ | refine FinQ.end ?_)
  rw [firstAt_ge]
theorem prot1 (E : List Int) (hl : E.length ≤ 1000000) (v : Int) : Fn1 Tryz.prog GT0 148 [.raw (.int .i64 v), .cptr [.lst 1 (E.map encN)]] (.raw (.bool (decide (v ∈ E)))) [] := by
  have c := contains E v (by omega)
  refine holds_of Tryz.func148 rfl rfl ?_
  refine J_run 200 ?_
  delta Tryz.f148
  repeat' (first
    | (simp (maxSteps := 1000000) (disch := omega) only [go_sem])
    | ((with_reducible refine CallA.pure c ?_ ?_); (· simp (disch := omega) only [go_sem]); rintro _ _ ⟨rfl, rfl⟩)
    | ((with_reducible first | refine gDt ?_ ?_ | refine gDf ?_ ?_ | refine gNt ?_ ?_ | refine gNf ?_ ?_ | refine cD ?_ ?_ | refine cN ?_ ?_ | refine cB ?_ ?_ | refine gB ?_ ?_) <;> intro h)
    | with_reducible first | refine And.intro ?_ ?_ | refine J_seq ?_ | refine J_block ?_ | refine J_inBlock ?_ | refine rC ?_ | refine rR ?_ | refine rE ?_ | refine rG ?_ | refine FinQ.now ?_ | refine FinQ.end ?_)
theorem prot2 (v : Int) : Fn1 Tryz.prog GT0 149 [.raw (.int .i64 v)] (.raw (.bool true)) [] := by
  refine holds_of Tryz.func149 rfl rfl ?_
  refine J_run 200 ?_
  delta Tryz.f149
  repeat' (first
    | (simp (maxSteps := 1000000) (disch := omega) only [go_sem])
    | ((with_reducible first | refine gDt ?_ ?_ | refine gDf ?_ ?_ | refine gNt ?_ ?_ | refine gNf ?_ ?_ | refine cD ?_ ?_ | refine cN ?_ ?_ | refine cB ?_ ?_ | refine gB ?_ ?_) <;> intro h)
    | with_reducible first | refine And.intro ?_ ?_ | refine J_seq ?_ | refine J_block ?_ | refine J_inBlock ?_ | refine rC ?_ | refine rR ?_ | refine rE ?_ | refine rG ?_ | refine FinQ.now ?_ | refine FinQ.end ?_)
theorem prot3 (r : List Bool) (v : Int) (h0 : 0 ≤ v) (hv : v < r.length) : Fn1 Tryz.prog GT0 150 [.raw (.int .i64 v), .cptr [.lst 1 (r.map encB)]] (.raw (.bool (r.getD v.toNat false))) [] := by
  have hg := getD_B (l := r) (i := v.toNat) (by omega)
  have hd : r.getD v.toNat false = r[v.toNat]'(by omega) := getD_get (by omega)
  rw [hd]
  refine holds_of Tryz.func150 rfl rfl ?_
  refine J_run 200 ?_
  delta Tryz.f150
  repeat' (first
    | (simp (maxSteps := 1000000) (disch := omega) only [go_sem, hg])
    | ((with_reducible first | refine gDt ?_ ?_ | refine gDf ?_ ?_ | refine gNt ?_ ?_ | refine gNf ?_ ?_ | refine cD ?_ ?_ | refine cN ?_ ?_ | refine cB ?_ ?_ | refine gB ?_ ?_) <;> intro h)
    | with_reducible first | refine And.intro ?_ ?_ | refine J_seq ?_ | refine J_block ?_ | refine J_inBlock ?_ | refine rC ?_ | refine rR ?_ | refine rE ?_ | refine rG ?_ | refine FinQ.now ?_ | refine FinQ.end ?_)
theorem flood_getD {n : Net} {use stop S : Nat → Prop} {v : Nat} (hv : v < n.nodes.length) : (flood n use stop S).getD v false = true ↔ Rch n use stop S v := by
  rw [getD_get (by rw [flood_len]; exact hv)]; exact flood_at _
noncomputable def reB (n : Net) (E : List Int) (v : Int) : List Bool := flood n (fun _ => True) (fun u => (u : Int) ∈ E) (fun u => (u : Int) ∈ [v])
theorem reB_len {n : Net} {E : List Int} {v : Int} : (reB n E v).length = n.nodes.length := flood_len
theorem reB_at {n : Net} {E : List Int} {v : Int} (h0 : 0 ≤ v) {u : Nat} (hu : u < n.nodes.length) : (reB n E v).getD u false = true ↔ RE n E v.toNat u := by
  rw [reB, flood_getD hu]
  constructor
  · exact Rch.mono (fun _ h => h) (fun _ h => h) fun u hu => by have := List.mem_singleton.1 hu; omega
  · exact Rch.mono (fun _ h => h) (fun _ h => h) fun u hu => by subst hu; simp [Int.toNat_of_nonneg h0]
theorem reB_any {n : Net} (hn : n.ok) {E : List Int} (hE : ∀ x, x ∈ E → 0 ≤ x ∧ x < n.nodes.length) {v : Int} (h0 : 0 ≤ v) (hsrc : ∀ (i : Nat) (d : Dv), n.devs[i]? = some d → (d.kind = 5 ∨ d.kind = 6) → RE n E v.toNat d.a.toNat → d.a ∈ E) : E.any (fun u => (reB n E v).getD u.toNat false) = protB n E v.toNat := by
  rw [Bool.eq_iff_iff, List.any_eq_true, protB, pB_iff]
  constructor
  · rintro ⟨u, hu, hr⟩
    have h1 := hE u hu
    refine ⟨hsrc, u.toNat, by rw [Int.toNat_of_nonneg h1.1]; exact hu, (reB_at h0 (by omega)).1 hr⟩
  · rintro ⟨_, u, hu, hr⟩
    exact ⟨u, hu, (reB_at h0 (by have := hE _ hu; omega)).2 (by simpa using hr)⟩
set_option maxHeartbeats 8000000 in
theorem protF (n : Net) (hn : n.ok) (v : Int) (h0 : 0 ≤ v) (hv : v < n.nodes.length) (E : List Int) (hE : ∀ x, x ∈ E → 0 ≤ x ∧ x < n.nodes.length) (hl : E.length ≤ 1000000) :
    Fn1 Tryz.prog GT0 137 [.agg (encNet n), .raw (.int .i64 v), .lst 1 (E.map encN)] (.raw (.bool (protB n E v.toNat))) [] := by
  have hnl := hn.nl
  have hdl := hn.dl
  have hrl := reB_len (n := n) (E := E) (v := v)
  have c := floodF n hn [v] (fun x hx => by rw [List.mem_singleton.1 hx]; exact ⟨h0, hv⟩) (by simp) 149 [] rfl (fun _ => True) (fun i _ => ⟨true, by simp, prot2 i⟩) 148 [.cptr [.lst 1 (E.map encN)]] rfl (fun u => (u : Int) ∈ E) (fun u hu0 _ => ⟨decide (u ∈ E), by rw [decide_eq_true_eq, Int.toNat_of_nonneg hu0], prot1 E hl u⟩)
  have cc := containsFunc E 150 [.cptr [.lst 1 ((reB n E v).map encB)]] rfl (fun u => (reB n E v).getD u.toNat false) (by omega) fun u hu => prot3 _ u (hE u hu).1 (by rw [hrl]; exact (hE u hu).2)
  rw [show flood n (fun _ => True) (fun u => (u : Int) ∈ E) (fun u => (u : Int) ∈ [v]) = reB n E v from rfl] at c
  refine holds_of Tryz.func137 rfl rfl ?_
  refine J_run 200 ?_
  delta Tryz.f137
  simp only [encNet, List.map_cons, List.map_nil, encN] at c cc ⊢
  iterate 10 (all_goals (try (first
    | (simp (maxSteps := 1000000) (disch := omega) only [go_sem])
    | ((with_reducible first | refine gDt ?_ ?_ | refine gDf ?_ ?_ | refine gNt ?_ ?_ | refine gNf ?_ ?_ | refine cD ?_ ?_ | refine cN ?_ ?_ | refine cB ?_ ?_ | refine gB ?_ ?_) <;> intro h)
    | with_reducible first | refine And.intro ?_ ?_ | refine J_seq ?_ | refine J_block ?_ | refine J_inBlock ?_ | refine rC ?_ | refine rR ?_ | refine rE ?_ | refine rG ?_ | refine FinQ.now ?_ | refine FinQ.end ?_)))
  refine CallA.keep [1, 2] ?_ ?_ c ?_
  · simp only [go_sem, List.take_succ_cons, List.take_zero]
  · simp only [go_sem]
  rintro _ _ ⟨rfl, rfl⟩
  refine ⟨⟨rfl, fun o ho => by rw [List.mem_singleton] at ho; subst ho; exact flatB _⟩, ?_⟩
  iterate 10 (all_goals (try (first
    | (simp (maxSteps := 1000000) (disch := omega) only [go_sem])
    | ((with_reducible first | refine gDt ?_ ?_ | refine gDf ?_ ?_ | refine gNt ?_ ?_ | refine gNf ?_ ?_ | refine cD ?_ ?_ | refine cN ?_ ?_ | refine cB ?_ ?_ | refine gB ?_ ?_) <;> intro h)
    | with_reducible first | refine And.intro ?_ ?_ | refine J_seq ?_ | refine J_block ?_ | refine J_inBlock ?_ | refine rC ?_ | refine rR ?_ | refine rE ?_ | refine rG ?_ | refine FinQ.now ?_ | refine FinQ.end ?_)))
  refine J_for ([11, 12] ++ upto 24 49) (fun i : Nat => [(23, .raw (.int .i64 i))]) (fun _ => [.box (encNet n), .box [.lst 1 (E.map encN)], .arr 1 [[.raw (.int .i64 v)]], .arr 1 ((reB n E v).map encB), .box [.own 3 1 0 n.nodes.length]]) (fun i => i ≤ n.devs.length ∧ ∀ j (hj : j < n.devs.length), j < i → (n.devs[j].kind = 5 ∨ n.devs[j].kind = 6) → RE n E v.toNat n.devs[j].a.toNat → n.devs[j].a ∈ E) (fun i => n.devs.length - i) 0 ⟨by omega, fun j _ hj => absurd hj (by omega)⟩ (.le (by simp [go_sem, encNet]) (by simp)) ?_
  rintro i ⟨hi, hpre⟩
  simp only [encNet]
  by_cases hlt : i < n.devs.length
  · have hdv := getD_Dv hlt
    have hok := hn.dev' hlt
    have ha0 := hok.a0; have hal := hok.al
    have go : (¬ ((n.devs[i].kind = 5 ∨ n.devs[i].kind = 6) ∧ RE n E v.toNat n.devs[i].a.toNat ∧ n.devs[i].a ∉ E)) → ∀ j (hj : j < n.devs.length), j < i + 1 → (n.devs[j].kind = 5 ∨ n.devs[j].kind = 6) → RE n E v.toNat n.devs[j].a.toNat → n.devs[j].a ∈ E := fun hx j hj hji h1 h2 => by
      rcases Nat.lt_succ_iff_lt_or_eq.1 hji with h3 | rfl
      · exact hpre j hj h3 h1 h2
      · exact Classical.byContradiction fun h3 => hx ⟨h1, h2, h3⟩
    have hgB := getD_B (l := reB n E v) (i := n.devs[i].a.toNat) (by omega)
    have hrb := reB_at (n := n) (E := E) h0 (u := n.devs[i].a.toNat) (by omega)
    rw [getD_get (by omega)] at hrb
    have cp := prot1 E hl n.devs[i].a
    by_cases h5 : n.devs[i].kind = 5
    · have e5 : decide (n.devs[i].kind = 5) = true := decide_eq_true h5
      have e6 := e5
      have hk : n.devs[i].kind = 5 ∨ n.devs[i].kind = 6 := .inl h5
      obtain ⟨rb, hrbe⟩ : ∃ b, (reB n E v)[n.devs[i].a.toNat]'(by omega) = b := ⟨_, rfl⟩
      rw [hrbe] at hgB hrb
      cases rb with
      | false =>
        refine J_run 200 ?_
        iterate 16 (all_goals (try (first
          | (simp (maxSteps := 1000000) (disch := omega) only [go_sem, hdv, hgB, e5, e6])
          | ((with_reducible first | refine gDt ?_ ?_ | refine gDf ?_ ?_ | refine gNt ?_ ?_ | refine gNf ?_ ?_ | refine cD ?_ ?_ | refine cN ?_ ?_ | refine cB ?_ ?_ | refine gB ?_ ?_) <;> intro h)
          | with_reducible first | refine And.intro ?_ ?_ | refine J_seq ?_ | refine J_block ?_ | refine J_inBlock ?_ | refine rC ?_ | refine rR ?_ | refine rE ?_ | refine rG ?_ | refine FinQ.now ?_ | refine FinQ.end ?_)))
        all_goals
          refine .mk (i + 1) ⟨hlt, go fun h => by have := hrb.2 h.2.1; cases this⟩ (by omega) ?_ ?_
          · simp [go_sem, encNet]
          · simp
      | true =>
        by_cases haE : n.devs[i].a ∈ E
        · rw [decide_eq_true haE] at cp
          refine J_run 200 ?_
          iterate 16 (all_goals (try (first
            | (simp (maxSteps := 1000000) (disch := omega) only [go_sem, hdv, hgB, e5, e6])
            | ((with_reducible refine CallA.keep [1] ?_ ?_ cp ?_); (· simp (disch := omega) only [go_sem, hdv, hgB, e5, e6]); (· simp (disch := omega) only [go_sem, hdv, hgB, e5, e6]); rintro _ _ ⟨rfl, rfl⟩; refine ⟨⟨rfl, fun _ h => by cases h⟩, ?_⟩)
            | ((with_reducible first | refine gDt ?_ ?_ | refine gDf ?_ ?_ | refine gNt ?_ ?_ | refine gNf ?_ ?_ | refine cD ?_ ?_ | refine cN ?_ ?_ | refine cB ?_ ?_ | refine gB ?_ ?_) <;> intro h)
            | with_reducible first | refine And.intro ?_ ?_ | refine J_seq ?_ | refine J_block ?_ | refine J_inBlock ?_ | refine rC ?_ | refine rR ?_ | refine rE ?_ | refine rG ?_ | refine FinQ.now ?_ | refine FinQ.end ?_)))
          all_goals
            refine .mk (i + 1) ⟨hlt, go fun h => h.2.2 haE⟩ (by omega) ?_ ?_
            · simp [go_sem, encNet]
            · simp
        · rw [decide_eq_false haE] at cp
          have hpf : protB n E v.toNat = false := pB_false fun hp => haE (hp.src i _ (List.getElem?_eq_getElem hlt) hk (hrb.1 rfl))
          rw [hpf]
          refine J_run 200 ?_
          iterate 16 (all_goals (try (first
            | (simp (maxSteps := 1000000) (disch := omega) only [go_sem, hdv, hgB, e5, e6])
            | ((with_reducible refine CallA.keep [1] ?_ ?_ cp ?_); (· simp (disch := omega) only [go_sem, hdv, hgB, e5, e6]); (· simp (disch := omega) only [go_sem, hdv, hgB, e5, e6]); rintro _ _ ⟨rfl, rfl⟩; refine ⟨⟨rfl, fun _ h => by cases h⟩, ?_⟩)
            | ((with_reducible first | refine gDt ?_ ?_ | refine gDf ?_ ?_ | refine gNt ?_ ?_ | refine gNf ?_ ?_ | refine cD ?_ ?_ | refine cN ?_ ?_ | refine cB ?_ ?_ | refine gB ?_ ?_) <;> intro h)
            | with_reducible first | refine And.intro ?_ ?_ | refine J_seq ?_ | refine J_block ?_ | refine J_inBlock ?_ | refine rC ?_ | refine rR ?_ | refine rE ?_ | refine rG ?_ | refine FinQ.now ?_ | refine FinQ.end ?_)))
    · have e5 : decide (n.devs[i].kind = 5) = false := decide_eq_false h5
      by_cases h6 : n.devs[i].kind = 6
      · have e6 : decide (n.devs[i].kind = 6) = true := decide_eq_true h6
        have hk : n.devs[i].kind = 5 ∨ n.devs[i].kind = 6 := .inr h6
        obtain ⟨rb, hrbe⟩ : ∃ b, (reB n E v)[n.devs[i].a.toNat]'(by omega) = b := ⟨_, rfl⟩
        rw [hrbe] at hgB hrb
        cases rb with
        | false =>
          refine J_run 200 ?_
          iterate 16 (all_goals (try (first
            | (simp (maxSteps := 1000000) (disch := omega) only [go_sem, hdv, hgB, e5, e6])
            | ((with_reducible first | refine gDt ?_ ?_ | refine gDf ?_ ?_ | refine gNt ?_ ?_ | refine gNf ?_ ?_ | refine cD ?_ ?_ | refine cN ?_ ?_ | refine cB ?_ ?_ | refine gB ?_ ?_) <;> intro h)
            | with_reducible first | refine And.intro ?_ ?_ | refine J_seq ?_ | refine J_block ?_ | refine J_inBlock ?_ | refine rC ?_ | refine rR ?_ | refine rE ?_ | refine rG ?_ | refine FinQ.now ?_ | refine FinQ.end ?_)))
          all_goals
            refine .mk (i + 1) ⟨hlt, go fun h => by have := hrb.2 h.2.1; cases this⟩ (by omega) ?_ ?_
            · simp [go_sem, encNet]
            · simp
        | true =>
          by_cases haE : n.devs[i].a ∈ E
          · rw [decide_eq_true haE] at cp
            refine J_run 200 ?_
            iterate 16 (all_goals (try (first
              | (simp (maxSteps := 1000000) (disch := omega) only [go_sem, hdv, hgB, e5, e6])
              | ((with_reducible refine CallA.keep [1] ?_ ?_ cp ?_); (· simp (disch := omega) only [go_sem, hdv, hgB, e5, e6]); (· simp (disch := omega) only [go_sem, hdv, hgB, e5, e6]); rintro _ _ ⟨rfl, rfl⟩; refine ⟨⟨rfl, fun _ h => by cases h⟩, ?_⟩)
              | ((with_reducible first | refine gDt ?_ ?_ | refine gDf ?_ ?_ | refine gNt ?_ ?_ | refine gNf ?_ ?_ | refine cD ?_ ?_ | refine cN ?_ ?_ | refine cB ?_ ?_ | refine gB ?_ ?_) <;> intro h)
              | with_reducible first | refine And.intro ?_ ?_ | refine J_seq ?_ | refine J_block ?_ | refine J_inBlock ?_ | refine rC ?_ | refine rR ?_ | refine rE ?_ | refine rG ?_ | refine FinQ.now ?_ | refine FinQ.end ?_)))
            all_goals
              refine .mk (i + 1) ⟨hlt, go fun h => h.2.2 haE⟩ (by omega) ?_ ?_
              · simp [go_sem, encNet]
              · simp
          · rw [decide_eq_false haE] at cp
            have hpf : protB n E v.toNat = false := pB_false fun hp => haE (hp.src i _ (List.getElem?_eq_getElem hlt) hk (hrb.1 rfl))
            rw [hpf]
            refine J_run 200 ?_
            iterate 16 (all_goals (try (first
              | (simp (maxSteps := 1000000) (disch := omega) only [go_sem, hdv, hgB, e5, e6])
              | ((with_reducible refine CallA.keep [1] ?_ ?_ cp ?_); (· simp (disch := omega) only [go_sem, hdv, hgB, e5, e6]); (· simp (disch := omega) only [go_sem, hdv, hgB, e5, e6]); rintro _ _ ⟨rfl, rfl⟩; refine ⟨⟨rfl, fun _ h => by cases h⟩, ?_⟩)
              | ((with_reducible first | refine gDt ?_ ?_ | refine gDf ?_ ?_ | refine gNt ?_ ?_ | refine gNf ?_ ?_ | refine cD ?_ ?_ | refine cN ?_ ?_ | refine cB ?_ ?_ | refine gB ?_ ?_) <;> intro h)
              | with_reducible first | refine And.intro ?_ ?_ | refine J_seq ?_ | refine J_block ?_ | refine J_inBlock ?_ | refine rC ?_ | refine rR ?_ | refine rE ?_ | refine rG ?_ | refine FinQ.now ?_ | refine FinQ.end ?_)))
      · have e6 : decide (n.devs[i].kind = 6) = false := decide_eq_false h6
        refine J_run 200 ?_
        iterate 16 (all_goals (try (first
          | (simp (maxSteps := 1000000) (disch := omega) only [go_sem, hdv, e5, e6])
          | ((with_reducible first | refine gDt ?_ ?_ | refine gDf ?_ ?_ | refine gNt ?_ ?_ | refine gNf ?_ ?_ | refine cD ?_ ?_ | refine cN ?_ ?_ | refine cB ?_ ?_ | refine gB ?_ ?_) <;> intro h)
          | with_reducible first | refine And.intro ?_ ?_ | refine J_seq ?_ | refine J_block ?_ | refine J_inBlock ?_ | refine rC ?_ | refine rR ?_ | refine rE ?_ | refine rG ?_ | refine FinQ.now ?_ | refine FinQ.end ?_)))
        all_goals
          refine .mk (i + 1) ⟨hlt, go fun h => h.1.elim h5 h6⟩ (by omega) ?_ ?_
          · simp [go_sem, encNet]
          · simp
  · rw [reB_any hn hE h0 fun j d hd hk hr => by
      obtain ⟨hj, rfl⟩ := List.getElem?_eq_some_iff.1 hd
      exact hpre j hj (by omega) hk hr] at cc
    have htk : List.take n.nodes.length ((reB n E v).map encB) = (reB n E v).map encB := List.take_of_length_le (by simp [hrl])
    refine J_run 200 ?_
    iterate 20 (all_goals (try (first
      | (simp (maxSteps := 1000000) (disch := omega) only [go_sem, htk])
      | ((with_reducible refine CallA.give [1,3,4] ?_ ?_ cc ?_); (· simp (disch := omega) only [go_sem, htk]); (· simp (disch := omega) only [go_sem, htk]); rintro _ _ ⟨rfl, rfl⟩)
      | ((with_reducible first | refine gDt ?_ ?_ | refine gDf ?_ ?_ | refine gNt ?_ ?_ | refine gNf ?_ ?_ | refine cD ?_ ?_ | refine cN ?_ ?_ | refine cB ?_ ?_ | refine gB ?_ ?_) <;> intro h)
      | with_reducible first | refine And.intro ?_ ?_ | refine J_seq ?_ | refine J_block ?_ | refine J_inBlock ?_ | refine rC ?_ | refine rR ?_ | refine rE ?_ | refine rG ?_ | refine FinQ.now ?_ | refine FinQ.end ?_)))
end Go.Proofs.YtmfgaefefgnhbaaGreatDoor.Abs
