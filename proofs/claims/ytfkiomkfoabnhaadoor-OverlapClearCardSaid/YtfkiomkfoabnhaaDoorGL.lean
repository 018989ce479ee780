/- OverlapClear, walked: it returns true. -/
import Derived.Test.YtfkiomkfoabnhaaDoorGE
import Derived.Test.YtfkiomkfoabnhaaDoorFE
import Derived.Test.YtfkiomkfoabnhaaDoorGX
import Derived.Test.YtfkiomkfoabnhaaDoorZNear
namespace Go.Proofs.YtfkiomkfoabnhaaDoor.Abs
set_option linter.unusedSimpArgs false
set_option linter.unusedVariables false
set_option maxRecDepth 100000
open Go Go.RowKit

theorem Doc.small.sized {n : Net} {x : Doc} (h : x.small n) : x.sized :=
  ⟨by have := h.zl; omega, by have := h.lk.len; omega, by have := h.cl; omega, by have := h.il; omega, by have := h.hl; omega⟩
noncomputable def someB (n : Net) (l : List Doc) (x : Doc) : Bool := activeB x && decide (clashL n l x ≠ [])
theorem some_iff {n : Net} {l : List Doc} (h : allChk n l = 0) : l.any (someB n l) = !clearTo n l l.length := by
  have hc := clear_iff h
  cases hb : clearTo n l l.length with
  | true =>
    have hp := hc.1 hb
    rw [Bool.not_true, List.any_eq_false]
    intro x hx hs
    unfold someB at hs
    simp only [Bool.and_eq_true, decide_eq_true_eq] at hs
    obtain ⟨hA, hne⟩ := hs
    obtain ⟨v, hv⟩ := List.exists_mem_of_ne_nil _ hne
    unfold clashL at hv
    obtain ⟨y, hy, _⟩ := List.mem_map.1 hv
    obtain ⟨hy2, hcb⟩ := List.mem_filter.1 hy
    unfold clashB at hcb
    simp only [Bool.and_eq_true, decide_eq_true_eq] at hcb
    obtain ⟨⟨q1, q2⟩, q3, q4⟩ := hcb
    obtain ⟨i, hi, rfl⟩ := List.getElem_of_mem hx
    obtain ⟨j, hj, rfl⟩ := List.getElem_of_mem hy2
    rcases Nat.lt_trichotomy i j with hij | hij | hij
    · have := hp j i hij hj
      unfold pairB at this
      rw [meetB_comm, q3, testB_comm, q4, q1, hA] at this
      cases this
    · subst hij; exact absurd rfl q2
    · have := hp i j hij hi
      unfold pairB at this
      rw [q3, q4, q1, hA] at this
      cases this
  | false =>
    rw [Bool.not_false]
    refine Classical.byContradiction fun hn => ?_
    have hall : l.any (someB n l) = false := by simpa using hn
    rw [List.any_eq_false] at hall
    have : clearTo n l l.length = true := hc.2 fun i k hk hi => by
      cases hp : pairB n l[i] (l[k]'(by omega)) with
      | false => rfl
      | true =>
        exfalso
        unfold pairB at hp
        simp only [Bool.and_eq_true] at hp
        obtain ⟨⟨⟨p1, p2⟩, p3⟩, p4⟩ := hp
        refine hall l[i] (List.getElem_mem hi) ?_
        unfold someB
        rw [p3, Bool.true_and, decide_eq_true_eq]
        intro he
        have hne : (l[k]'(by omega)).num ≠ l[i].num := by have := allChk_lt h hk hi; omega
        have hmem : (l[k]'(by omega)).num ∈ clashL n l l[i] := by
          unfold clashL
          refine List.mem_map.2 ⟨l[k]'(by omega), List.mem_filter.2 ⟨List.getElem_mem _, ?_⟩, rfl⟩
          unfold clashB
          rw [p4, decide_eq_true hne, p1, p2]; rfl
        rw [he] at hmem
        cases hmem
    rw [this] at hb
    cases hb
theorem any_next {α : Type} {p : α → Bool} {l : List α} {i : Nat} (hi : i < l.length) : (l.take (i + 1)).any p = ((l.take i).any p || p l[i]) := by
  rw [List.take_succ_eq_append_getElem hi, List.any_append]
  simp
set_option maxHeartbeats 16000000 in
theorem overlapClear (l : List Int) (hl : NumsOk l) : Fn1 Tryd.prog GT0 8 [.lst 1 (l.map encN)] (.raw (.bool true)) [] := by
  have ca := awake27
  have cf := few l hl.len
  by_cases h400 : l.length ≤ 400
  · have cn := newDeck l
    have hdk := hl.deck
    rw [decide_eq_true h400] at cf
    refine holds_of Tryd.func8 rfl rfl ?_
    refine J_run 200 ?_
    delta Tryd.f8
    iterate 12 (all_goals (try (first
      | (simp (maxSteps := 1000000) (disch := omega) only [go_sem])
      | ((with_reducible refine CallA.pure ca ?_ ?_); (· simp (disch := omega) only [go_sem]); rintro _ _ ⟨rfl, rfl⟩)
      | ((with_reducible refine CallA.pure cf ?_ ?_); (· simp (disch := omega) only [go_sem]); rintro _ _ ⟨rfl, rfl⟩)
      | ((with_reducible refine CallA.pure cn ?_ ?_); (· simp (disch := omega) only [go_sem]); rintro _ _ ⟨rfl, rfl⟩)
      | ((with_reducible first | refine gDt ?_ ?_ | refine gDf ?_ ?_ | refine gNt ?_ ?_ | refine gNf ?_ ?_ | refine cD ?_ ?_ | refine cN ?_ ?_ | refine cB ?_ ?_ | refine gB ?_ ?_) <;> intro h)
      | with_reducible first | refine And.intro ?_ ?_ | refine J_seq ?_ | refine J_block ?_ | refine J_inBlock ?_ | refine rC ?_ | refine rR ?_ | refine rE ?_ | refine rG ?_ | refine FinQ.now ?_ | refine FinQ.end ?_)))
    refine CallA.mut [0] ?_ ?_ ?_ ?_ (tieD _ hdk) ?_
    · simp only [go_sem]
    · simp only [go_sem]
    · simp only [go_sem]
    · simp only [go_sem]
    rintro _ _ ⟨n, st, d1, hd1, hno, hn6, hv1, hv10, hst, hst12, rfl, rfl⟩
    have cl := listD d1 hd1 n hno (by omega) (by omega)
    simp only [encNet] at cl ⊢
    iterate 8 (all_goals (try (first
      | (simp (maxSteps := 1000000) (disch := omega) only [go_sem])
      | ((with_reducible first | refine gDt ?_ ?_ | refine gDf ?_ ?_ | refine gNt ?_ ?_ | refine gNf ?_ ?_ | refine cD ?_ ?_ | refine cN ?_ ?_ | refine cB ?_ ?_ | refine gB ?_ ?_) <;> intro h)
      | with_reducible first | refine And.intro ?_ ?_ | refine J_seq ?_ | refine J_block ?_ | refine J_inBlock ?_ | refine rC ?_ | refine rR ?_ | refine rE ?_ | refine rG ?_ | refine FinQ.now ?_ | refine FinQ.end ?_)))
    refine CallA.mut [0] ?_ ?_ ?_ ?_ cl ?_
    · simp only [go_sem]
    · simp only [go_sem]
    · simp only [go_sem]
    · simp only [go_sem]
    rintro _ _ ⟨L, d2, hd2, hL4, hsm, rfl, rfl⟩
    have hsz : ∀ x, x ∈ L → x.sized := fun x hx => (hsm x hx).sized
    have cc := ovClear n hno.sized L (by omega) hsz
    have c26 := rDocAll n hno.sized L (by omega) hsz
    by_cases h0 : allChk n L = 0
    · rw [clearR_ok h0] at cc
      have hso := some_iff h0
      obtain ⟨b, hb⟩ : ∃ b, clearTo n L L.length = b := ⟨_, rfl⟩
      rw [hb] at cc hso
      simp only [encNet] at cc
      repeat' (first
        | (simp (maxSteps := 1000000) (disch := omega) only [go_sem])
        | ((with_reducible refine CallA.pure cc ?_ ?_); (· simp (disch := omega) only [go_sem]); rintro _ _ ⟨rfl, rfl⟩)
        | ((with_reducible first | refine gDt ?_ ?_ | refine gDf ?_ ?_ | refine gNt ?_ ?_ | refine gNf ?_ ?_ | refine cD ?_ ?_ | refine cN ?_ ?_ | refine cB ?_ ?_ | refine gB ?_ ?_) <;> intro h)
        | with_reducible first | refine And.intro ?_ ?_ | refine J_seq ?_ | refine J_block ?_ | refine J_inBlock ?_ | refine rC ?_ | refine rR ?_ | refine rE ?_ | refine rG ?_ | refine FinQ.now ?_ | refine FinQ.end ?_)
      refine J_for ([11, 12, 13] ++ upto 48 75) (fun i : Nat => [(47, .raw (.int .i64 i)), (9, .raw (.bool ((L.take i).any (someB n L))))]) (fun i => [.box (encDk d2), .box [.lst 3 (n.nodes.map encNd), .lst 5 (n.devs.map encDv)]]) (fun i => i ≤ L.length) (fun i => L.length - i) 0 (by omega) (.le (by simp [go_sem]) (by simp)) ?_
      intro i hi
      by_cases hlt : i < L.length
      · have hxi := hsz _ (List.getElem_mem hlt)
        have hci := allChk_mem h0 (List.getElem_mem hlt)
        have hg := getD_Doc hlt
        have ht := any_next (p := someB n L) hlt
        have cx := ovClashes n hno.sized L (by omega) hsz L[i] hxi
        rw [clashE_ok h0 hci] at cx
        have hcl := clashL_len (n := n) (d := L[i]) (l := L)
        have ca2 := rActiveF L[i]
        have hsb : someB n L L[i] = (activeB L[i] && decide (clashL n L L[i] ≠ [])) := rfl
        obtain ⟨S, hS⟩ : ∃ C, (L.take i).any (someB n L) = C := ⟨_, rfl⟩
        obtain ⟨C, hC⟩ : ∃ C, clashL n L L[i] = C := ⟨_, rfl⟩
        obtain ⟨A, hA⟩ : ∃ b, activeB L[i] = b := ⟨_, rfl⟩
        rw [hA, hC] at hsb
        rw [hsb, hS] at ht
        rw [hA] at ca2
        rw [hC] at cx hcl
        rw [hS]
        simp only [encNet, encDoc] at ca2 cx hg
        cases S
        · cases A
          · simp only [Bool.false_and, Bool.or_false] at ht
            refine J_run 200 ?_
            repeat' (first
              | (simp (maxSteps := 1000000) (disch := omega) only [go_sem, hg, Nat.reduceLT])
              | ((with_reducible refine CallA.pure ca2 ?_ ?_); (· simp (disch := omega) only [go_sem, hg, Nat.reduceLT]); rintro _ _ ⟨rfl, rfl⟩)
              | ((with_reducible refine CallA.pure cx ?_ ?_); (· simp (disch := omega) only [go_sem, hg, Nat.reduceLT]); rintro _ _ ⟨rfl, rfl⟩)
              | ((with_reducible first | refine gDt ?_ ?_ | refine gDf ?_ ?_ | refine gNt ?_ ?_ | refine gNf ?_ ?_ | refine cD ?_ ?_ | refine cN ?_ ?_ | refine cB ?_ ?_ | refine gB ?_ ?_) <;> intro h)
              | with_reducible first | refine And.intro ?_ ?_ | refine J_seq ?_ | refine J_block ?_ | refine J_inBlock ?_ | refine rC ?_ | refine rR ?_ | refine rE ?_ | refine rG ?_ | refine FinQ.now ?_ | refine FinQ.end ?_)
            refine .mk (i + 1) hlt (by omega) ?_ ?_
            · rw [ht]; simp [go_sem]
            · simp
          · by_cases hn : C = []
            · subst hn
              simp only [ne_eq, not_true_eq_false, decide_false, Bool.and_false, Bool.or_false] at ht
              simp only [List.map_nil] at cx
              refine J_run 200 ?_
              repeat' (first
                | (simp (maxSteps := 1000000) (disch := omega) only [go_sem, hg, Nat.reduceLT])
                | ((with_reducible refine CallA.pure ca2 ?_ ?_); (· simp (disch := omega) only [go_sem, hg, Nat.reduceLT]); rintro _ _ ⟨rfl, rfl⟩)
                | ((with_reducible refine CallA.pure cx ?_ ?_); (· simp (disch := omega) only [go_sem, hg, Nat.reduceLT]); rintro _ _ ⟨rfl, rfl⟩)
                | ((with_reducible first | refine gDt ?_ ?_ | refine gDf ?_ ?_ | refine gNt ?_ ?_ | refine gNf ?_ ?_ | refine cD ?_ ?_ | refine cN ?_ ?_ | refine cB ?_ ?_ | refine gB ?_ ?_) <;> intro h)
                | with_reducible first | refine And.intro ?_ ?_ | refine J_seq ?_ | refine J_block ?_ | refine J_inBlock ?_ | refine rC ?_ | refine rR ?_ | refine rE ?_ | refine rG ?_ | refine FinQ.now ?_ | refine FinQ.end ?_)
              refine .mk (i + 1) hlt (by omega) ?_ ?_
              · rw [ht]; simp [go_sem]
              · simp
            · have hp : 0 < C.length := List.length_pos_iff.2 hn
              have hpI : (0 : Int) < (C.length : Int) := by omega
              have hpd : decide ((0 : Int) < (C.length : Int)) = true := decide_eq_true hpI
              simp only [ne_eq, hn, not_false_eq_true, decide_true, Bool.and_true, Bool.or_true] at ht
              refine J_run 200 ?_
              repeat' (first
                | (simp (maxSteps := 1000000) (disch := omega) only [go_sem, hg, hpd, Nat.reduceLT])
                | ((with_reducible refine CallA.pure ca2 ?_ ?_); (· simp (disch := omega) only [go_sem, hg, hpd, Nat.reduceLT]); rintro _ _ ⟨rfl, rfl⟩)
                | ((with_reducible refine CallA.pure cx ?_ ?_); (· simp (disch := omega) only [go_sem, hg, hpd, Nat.reduceLT]); rintro _ _ ⟨rfl, rfl⟩)
                | ((with_reducible first | refine gDt ?_ ?_ | refine gDf ?_ ?_ | refine gNt ?_ ?_ | refine gNf ?_ ?_ | refine cD ?_ ?_ | refine cN ?_ ?_ | refine cB ?_ ?_ | refine gB ?_ ?_) <;> intro h)
                | with_reducible first | refine And.intro ?_ ?_ | refine J_seq ?_ | refine J_block ?_ | refine J_inBlock ?_ | refine rC ?_ | refine rR ?_ | refine rE ?_ | refine rG ?_ | refine FinQ.now ?_ | refine FinQ.end ?_)
              refine .mk (i + 1) hlt (by omega) ?_ ?_
              · rw [ht]; simp [go_sem]
              · simp
        · simp only [Bool.true_or] at ht
          refine J_run 200 ?_
          repeat' (first
            | (simp (maxSteps := 1000000) (disch := omega) only [go_sem, hg, Nat.reduceLT])
            | ((with_reducible refine CallA.pure ca2 ?_ ?_); (· simp (disch := omega) only [go_sem, hg, Nat.reduceLT]); rintro _ _ ⟨rfl, rfl⟩)
            | ((with_reducible refine CallA.pure cx ?_ ?_); (· simp (disch := omega) only [go_sem, hg, Nat.reduceLT]); rintro _ _ ⟨rfl, rfl⟩)
            | ((with_reducible first | refine gDt ?_ ?_ | refine gDf ?_ ?_ | refine gNt ?_ ?_ | refine gNf ?_ ?_ | refine cD ?_ ?_ | refine cN ?_ ?_ | refine cB ?_ ?_ | refine gB ?_ ?_) <;> intro h)
            | with_reducible first | refine And.intro ?_ ?_ | refine J_seq ?_ | refine J_block ?_ | refine J_inBlock ?_ | refine rC ?_ | refine rR ?_ | refine rE ?_ | refine rG ?_ | refine FinQ.now ?_ | refine FinQ.end ?_)
          refine .mk (i + 1) hlt (by omega) ?_ ?_
          · rw [ht]; simp [go_sem]
          · simp
      · have hie : i = L.length := by omega
        subst hie
        rw [List.take_length, hso]
        cases b
        all_goals
          refine J_run 200 ?_
          repeat' (first
            | (simp (maxSteps := 1000000) (disch := omega) only [go_sem])
            | ((with_reducible first | refine gDt ?_ ?_ | refine gDf ?_ ?_ | refine gNt ?_ ?_ | refine gNf ?_ ?_ | refine cD ?_ ?_ | refine cN ?_ ?_ | refine cB ?_ ?_ | refine gB ?_ ?_) <;> intro h)
            | with_reducible first | refine And.intro ?_ ?_ | refine J_seq ?_ | refine J_block ?_ | refine J_inBlock ?_ | refine rC ?_ | refine rR ?_ | refine rE ?_ | refine rG ?_ | refine FinQ.now ?_ | refine FinQ.end ?_)
    · rw [clearR_err h0] at cc
      obtain ⟨e, he⟩ : ∃ e, allChk n L = e := ⟨_, rfl⟩
      rw [he] at cc c26 h0
      simp only [encNet] at cc c26
      repeat' (first
        | (simp (maxSteps := 1000000) (disch := omega) only [go_sem, h0])
        | ((with_reducible refine CallA.pure cc ?_ ?_); (· simp (disch := omega) only [go_sem, h0]); rintro _ _ ⟨rfl, rfl⟩)
        | ((with_reducible refine CallA.pure c26 ?_ ?_); (· simp (disch := omega) only [go_sem, h0]); rintro _ _ ⟨rfl, rfl⟩)
        | ((with_reducible first | refine gDt ?_ ?_ | refine gDf ?_ ?_ | refine gNt ?_ ?_ | refine gNf ?_ ?_ | refine cD ?_ ?_ | refine cN ?_ ?_ | refine cB ?_ ?_ | refine gB ?_ ?_) <;> intro h)
        | with_reducible first | refine And.intro ?_ ?_ | refine J_seq ?_ | refine J_block ?_ | refine J_inBlock ?_ | refine rC ?_ | refine rR ?_ | refine rE ?_ | refine rG ?_ | refine FinQ.now ?_ | refine FinQ.end ?_)
  · rw [decide_eq_false h400] at cf
    refine holds_of Tryd.func8 rfl rfl ?_
    refine J_run 200 ?_
    delta Tryd.f8
    iterate 12 (all_goals (try (first
      | (simp (maxSteps := 1000000) (disch := omega) only [go_sem])
      | ((with_reducible refine CallA.pure ca ?_ ?_); (· simp (disch := omega) only [go_sem]); rintro _ _ ⟨rfl, rfl⟩)
      | ((with_reducible refine CallA.pure cf ?_ ?_); (· simp (disch := omega) only [go_sem]); rintro _ _ ⟨rfl, rfl⟩)
      | ((with_reducible first | refine gDt ?_ ?_ | refine gDf ?_ ?_ | refine gNt ?_ ?_ | refine gNf ?_ ?_ | refine cD ?_ ?_ | refine cN ?_ ?_ | refine cB ?_ ?_ | refine gB ?_ ?_) <;> intro h)
      | with_reducible first | refine And.intro ?_ ?_ | refine J_seq ?_ | refine J_block ?_ | refine J_inBlock ?_ | refine rC ?_ | refine rR ?_ | refine rE ?_ | refine rG ?_ | refine FinQ.now ?_ | refine FinQ.end ?_)))
theorem overlapClear_av (x : (Sh.slice (.int .i64)).Den) (o : (Sh.slice (.int .i64)).Ok x) : Fn1 Tryd.prog GT0 8 [(Sh.slice (.int .i64)).av x] (.raw (.bool true)) [] := overlapClear x (nums_ok o)
end Go.Proofs.YtfkiomkfoabnhaaDoor.Abs
