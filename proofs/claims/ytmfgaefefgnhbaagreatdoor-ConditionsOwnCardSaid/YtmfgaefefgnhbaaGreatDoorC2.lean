/- Safes: their check, and the safe with a key. Portable earths and registers. Conditions: numbers, certificates, orders, what was proved, counts. Conditions: keys and safes, evidence, the check of an office, own locks. -/
import Derived.Test.YtmfgaefefgnhbaaGreatDoorC1
namespace Go.Proofs.YtmfgaefefgnhbaaGreatDoor.Abs
set_option linter.unusedSimpArgs false
set_option linter.unusedVariables false
set_option maxRecDepth 100000
open Go Go.RowKit

theorem names_hit {l : List ByteArray} (h16 : ¬ 16 < l.length) {i : Nat} (hi : i < l.length) (hpre : ∀ j, j < i → sNameErr l j = 0) {e : Int} (he : sNameErr l i = e) (h0 : e ≠ 0) : sNamesE l = e := by
  unfold sNamesE
  rw [if_neg h16, firstE_hit hi hpre (by omega), he]
theorem sNameErr_at {l : List ByteArray} {i : Nat} (hi : i < l.length) : sNameErr l i = if isName l[i] = false then 3 else if 0 < i ∧ sLt (l[i - 1]'(by omega)) l[i] = false then 14 else 0 := by
  unfold sNameErr
  rw [getD_get hi, getD_get (show i - 1 < l.length by omega)]
set_option maxHeartbeats 4000000 in
theorem peopleF (l : List ByteArray) (hl : l.length ≤ 1000000) (hs : ∀ x, x ∈ l → x.size ≤ 9223372036854775807) : Fn1 Tryz.prog GT0 113 [.lst 1 (l.map encS)] (.raw (.int .i64 (sNamesE l))) [] := by
  by_cases h16 : 16 < l.length
  · have e : sNamesE l = 1 := if_pos h16
    rw [e]
    refine holds_of Tryz.func113 rfl rfl ?_
    refine J_run 200 ?_
    delta Tryz.f113
    repeat' (first
      | (simp (maxSteps := 1000000) (disch := omega) only [go_sem])
      | ((with_reducible first | refine gDt ?_ ?_ | refine gDf ?_ ?_ | refine gNt ?_ ?_ | refine gNf ?_ ?_ | refine cD ?_ ?_ | refine cN ?_ ?_ | refine cB ?_ ?_ | refine gB ?_ ?_) <;> intro h)
      | with_reducible first | refine And.intro ?_ ?_ | refine J_seq ?_ | refine J_block ?_ | refine J_inBlock ?_ | refine rC ?_ | refine rR ?_ | refine rE ?_ | refine rG ?_ | refine FinQ.now ?_ | refine FinQ.end ?_)
  refine holds_of Tryz.func113 rfl rfl ?_
  refine J_run 200 ?_
  delta Tryz.f113
  repeat' (first
    | (simp (maxSteps := 1000000) (disch := omega) only [go_sem])
    | ((with_reducible first | refine gDt ?_ ?_ | refine gDf ?_ ?_ | refine gNt ?_ ?_ | refine gNf ?_ ?_ | refine cD ?_ ?_ | refine cN ?_ ?_ | refine cB ?_ ?_ | refine gB ?_ ?_) <;> intro h)
    | with_reducible first | refine And.intro ?_ ?_ | refine J_seq ?_ | refine J_block ?_ | refine J_inBlock ?_ | refine rC ?_ | refine rR ?_ | refine rE ?_ | refine rG ?_ | refine FinQ.now ?_ | refine FinQ.end ?_)
  refine J_for ([3, 4] ++ upto 11 31) (fun i : Nat => [(10, .raw (.int .i64 i))]) (fun i => []) (fun i => i ≤ (l).length ∧ (∀ j, j < i → sNameErr l j = 0)) (fun i => (l).length - i) 0 ⟨by omega, by omega⟩ (.le (by simp [go_sem]) (by simp)) ?_
  rintro i ⟨hi, hpre⟩
  by_cases hlt : i < l.length
  · have hne := fun e => names_hit (e := e) h16 hlt hpre
    have ha := sNameErr_at hlt
    have nxt : sNameErr l i = 0 → ∀ j, j < i + 1 → sNameErr l j = 0 := fun h0 j hj => by
      rcases Nat.lt_succ_iff_lt_or_eq.1 hj with h3 | rfl
      · exact hpre j h3
      · exact h0
    rw [ha] at hne nxt
    clear ha
    have hg := getD_S hlt
    have cn := nameF l[i] (hs _ (List.getElem_mem hlt))
    obtain ⟨b, hb⟩ : ∃ b, isName l[i] = b := ⟨_, rfl⟩
    rw [hb] at cn hne nxt
    by_cases h0 : i = 0
    · subst h0
      simp only [encS] at hg
      refine J_run 200 ?_
      repeat' (first
        | (simp (maxSteps := 1000000) (disch := omega) only [go_sem, hg])
        | ((with_reducible refine CallA.pure cn ?_ ?_); (· simp (disch := omega) only [go_sem, hg]); rintro _ _ ⟨rfl, rfl⟩)
        | ((with_reducible first | refine gDt ?_ ?_ | refine gDf ?_ ?_ | refine gNt ?_ ?_ | refine gNf ?_ ?_ | refine cD ?_ ?_ | refine cN ?_ ?_ | refine cB ?_ ?_ | refine gB ?_ ?_) <;> intro h)
        | with_reducible first | refine And.intro ?_ ?_ | refine J_seq ?_ | refine J_block ?_ | refine J_inBlock ?_ | refine rC ?_ | refine rR ?_ | refine rE ?_ | refine rG ?_ | refine FinQ.now ?_ | refine FinQ.end ?_)
      all_goals (try simp only [Bool.not_eq_eq_eq_not, Bool.not_true, Bool.not_false] at *)
      all_goals first
        | (rw [hne 3 (if_pos (by assumption)) (by decide)]; done)
        | (refine .mk 1 ⟨hlt, nxt ?_⟩ (by omega) ?_ ?_; (· rw [if_neg (by simp_all), if_neg (by omega)]); (· simp [go_sem]); (· simp))
        | trace_state
    · have hg' := getD_S (l := l) (i := i - 1) (by omega)
      have e1 : ((i : Int) - 1).toNat = i - 1 := by omega
      obtain ⟨c, hc⟩ : ∃ c, sLt (l[i - 1]'(by omega)) l[i] = c := ⟨_, rfl⟩
      have hc2 := hc
      unfold sLt at hc2
      rw [hc] at hne nxt
      simp only [encS] at hg hg'
      refine J_run 200 ?_
      repeat' (first
        | (simp (maxSteps := 1000000) (disch := omega) only [go_sem, hg, hg', e1, hc2])
        | ((with_reducible refine CallA.pure cn ?_ ?_); (· simp (disch := omega) only [go_sem, hg, hg', e1, hc2]); rintro _ _ ⟨rfl, rfl⟩)
        | ((with_reducible first | refine gDt ?_ ?_ | refine gDf ?_ ?_ | refine gNt ?_ ?_ | refine gNf ?_ ?_ | refine cD ?_ ?_ | refine cN ?_ ?_ | refine cB ?_ ?_ | refine gB ?_ ?_) <;> intro h)
        | with_reducible first | refine And.intro ?_ ?_ | refine J_seq ?_ | refine J_block ?_ | refine J_inBlock ?_ | refine rC ?_ | refine rR ?_ | refine rE ?_ | refine rG ?_ | refine FinQ.now ?_ | refine FinQ.end ?_)
      all_goals (try simp only [Bool.not_eq_eq_eq_not, Bool.not_true, Bool.not_false] at *)
      all_goals first
        | (rw [hne 3 (if_pos (by assumption)) (by decide)]; done)
        | (rw [hne 14 (by rw [if_neg (by simp_all), if_pos ⟨by omega, by assumption⟩]) (by decide)]; done)
        | (refine .mk (i + 1) ⟨hlt, nxt ?_⟩ (by omega) ?_ ?_; (· rw [if_neg (by simp_all), if_neg (by simp_all)]); (· simp [go_sem]); (· simp))
        | trace_state
  · have e : sNamesE l = 0 := by
      unfold sNamesE
      rw [if_neg h16]
      exact firstE_none fun j hj => hpre j (by omega)
    rw [e]
    refine J_run 200 ?_
    repeat' (first
      | (simp (maxSteps := 1000000) (disch := omega) only [go_sem])
      | ((with_reducible first | refine gDt ?_ ?_ | refine gDf ?_ ?_ | refine gNt ?_ ?_ | refine gNf ?_ ?_ | refine cD ?_ ?_ | refine cN ?_ ?_ | refine cB ?_ ?_ | refine gB ?_ ?_) <;> intro h)
      | with_reducible first | refine And.intro ?_ ?_ | refine J_seq ?_ | refine J_block ?_ | refine J_inBlock ?_ | refine rC ?_ | refine rR ?_ | refine rE ?_ | refine rG ?_ | refine FinQ.now ?_ | refine FinQ.end ?_)
theorem sKeyErr_at {p : List Safe} {l : List Int} {i : Nat} (hi : i < l.length) : sKeyErr p l i = if l[i] < 0 ∨ 65536 < l[i] then 5 else if 0 < i ∧ l[i] ≤ (l[i - 1]'(by omega)) then 14 else if p.any (fun s => decide (l[i] ∈ s.keys)) then 4 else 0 := by
  unfold sKeyErr
  rw [getD_get hi, getD_get (show i - 1 < l.length by omega)]
/-- A loop over the first safes, looking for a key. -/
theorem any_take_no {l : List Safe} {m : Nat} {k : Int} (h : ∀ j (hj : j < l.length), j < m → decide (k ∈ l[j].keys) = false) : (l.take m).any (fun s => decide (k ∈ s.keys)) = false := by
  rw [List.any_eq_false]
  intro s hs
  obtain ⟨j, hj, rfl⟩ := List.getElem_of_mem hs
  rw [List.length_take] at hj
  rw [List.getElem_take]
  simpa using h j (by omega) (by omega)
theorem any_take_yes {l : List Safe} {m j : Nat} {k : Int} (hj : j < l.length) (hm : j < m) (h : decide (k ∈ l[j].keys) = true) : (l.take m).any (fun s => decide (k ∈ s.keys)) = true := by
  rw [List.any_eq_true]
  refine ⟨l[j], ?_, h⟩
  rw [List.mem_take_iff_getElem]
  exact ⟨j, by omega, rfl⟩
theorem getD_takeSafe {l : List Safe} {m i : Nat} (hi : i < m) (h : i < l.length) : (List.take m (l.map encSafe)).getD i [] = encSafe l[i] := by
  rw [← List.map_take, getD_map (by rw [List.length_take]; omega), List.getElem_take]
set_option maxHeartbeats 8000000 in
theorem safeKeysF (l : List Safe) (hl : l.length ≤ 1000000) (hx : ∀ s, s ∈ l → s.sized) (m : Nat) (hm : m < l.length) : Fn1 Tryz.prog GT0 112 [.lst 3 (l.map encSafe), .raw (.int .i64 m)] (.raw (.int .i64 (firstE (sKeyErr (l.take m) l[m].keys) l[m].keys.length))) [] := by
  have hkl := (hx _ (List.getElem_mem hm)).kl
  have hgm := getD_Safe hm
  have hlen : (l.take m).length = m := by rw [List.length_take]; omega
  obtain ⟨ks, hks⟩ : ∃ ks, l[m].keys = ks := ⟨_, rfl⟩
  simp only [encSafe] at hgm
  rw [hks] at hkl hgm ⊢
  refine holds_of Tryz.func112 rfl rfl ?_
  refine J_run 200 ?_
  delta Tryz.f112
  repeat' (first
    | (simp (maxSteps := 1000000) (disch := omega) only [go_sem, hgm])
    | ((with_reducible first | refine gDt ?_ ?_ | refine gDf ?_ ?_ | refine gNt ?_ ?_ | refine gNf ?_ ?_ | refine cD ?_ ?_ | refine cN ?_ ?_ | refine cB ?_ ?_ | refine gB ?_ ?_) <;> intro h)
    | with_reducible first | refine And.intro ?_ ?_ | refine J_seq ?_ | refine J_block ?_ | refine J_inBlock ?_ | refine rC ?_ | refine rR ?_ | refine rE ?_ | refine rG ?_ | refine FinQ.now ?_ | refine FinQ.end ?_)
  refine J_for ([5, 6] ++ [8] ++ upto 16 56) (fun i : Nat => [(15, .raw (.int .i64 i))]) (fun i => []) (fun i => i ≤ (ks).length ∧ (∀ j, j < i → sKeyErr (l.take m) ks j = 0)) (fun i => (ks).length - i) 0 ⟨by omega, by omega⟩ (.le (by simp [go_sem]) (by simp)) ?_
  rintro i ⟨hi, hpre⟩
  obtain ⟨q, rfl⟩ : ∃ q, q = i := ⟨_, rfl⟩
  by_cases hlt : q < ks.length
  · have hne := fun e => (fun (he : sKeyErr (l.take m) ks q = e) (h0 : e ≠ 0) => show firstE (sKeyErr (l.take m) ks) ks.length = e by rw [firstE_hit hlt hpre (by omega), he])
    have ha := sKeyErr_at (p := l.take m) hlt
    have nxt : sKeyErr (l.take m) ks q = 0 → ∀ j, j < q + 1 → sKeyErr (l.take m) ks j = 0 := fun h0 j hj => by
      rcases Nat.lt_succ_iff_lt_or_eq.1 hj with h3 | rfl
      · exact hpre j h3
      · exact h0
    rw [ha] at hne nxt
    clear ha hpre
    have hg := getD_N hlt
    by_cases hr : ks[q] < 0 ∨ 65536 < ks[q]
    · rw [hne 5 (if_pos hr) (by decide)]
      refine J_run 200 ?_
      repeat' (first
        | (simp (maxSteps := 1000000) (disch := omega) only [go_sem, hgm, hg])
        | ((with_reducible first | refine gDt ?_ ?_ | refine gDf ?_ ?_ | refine gNt ?_ ?_ | refine gNf ?_ ?_ | refine cD ?_ ?_ | refine cN ?_ ?_ | refine cB ?_ ?_ | refine gB ?_ ?_) <;> intro h)
        | with_reducible first | refine And.intro ?_ ?_ | refine J_seq ?_ | refine J_block ?_ | refine J_inBlock ?_ | refine rC ?_ | refine rR ?_ | refine rE ?_ | refine rG ?_ | refine FinQ.now ?_ | refine FinQ.end ?_)
    by_cases h0 : q = 0
    · have h0I : (q : Int) = 0 := by omega
      have h0d : decide ((0 : Int) < (q : Int)) = false := decide_eq_false (by omega)
      refine J_run 200 ?_
      repeat' (first
        | (simp (maxSteps := 1000000) (disch := omega) only [go_sem, hgm, hg, h0d])
        | ((with_reducible first | refine gDt ?_ ?_ | refine gDf ?_ ?_ | refine gNt ?_ ?_ | refine gNf ?_ ?_ | refine cD ?_ ?_ | refine cN ?_ ?_ | refine cB ?_ ?_ | refine gB ?_ ?_) <;> intro h)
        | with_reducible first | refine And.intro ?_ ?_ | refine J_seq ?_ | refine J_block ?_ | refine J_inBlock ?_ | refine rC ?_ | refine rR ?_ | refine rE ?_ | refine rG ?_ | refine FinQ.now ?_ | refine FinQ.end ?_)
      refine J_for ([8] ++ upto 48 55) (fun i : Nat => [(47, .raw (.int .i64 i))]) (fun i => []) (fun i => i ≤ (l.take m).length ∧ (∀ j (hj : j < l.length), j < i → decide (ks[q] ∈ l[j].keys) = false)) (fun i => (l.take m).length - i) 0 ⟨by omega, fun j hj h => by omega⟩ (.le (by simp [go_sem]) (by simp)) ?_
      rintro i ⟨hi, hpre⟩
      rw [hlen] at hi
      by_cases hlt2 : i < m
      · have hil : i < l.length := by omega
        have hg2 := getD_takeSafe hlt2 hil
        have cc := contains l[i].keys ks[q] (by have := (hx _ (List.getElem_mem hil)).kl; omega)
        obtain ⟨b, hb⟩ : ∃ b, decide (ks[q] ∈ l[i].keys) = b := ⟨_, rfl⟩
        rw [hb] at cc
        simp only [encSafe] at hg2
        cases b
        · refine J_run 200 ?_
          repeat' (first
            | (simp (maxSteps := 1000000) (disch := omega) only [go_sem, hg2])
            | ((with_reducible refine CallA.pure cc ?_ ?_); (· simp (disch := omega) only [go_sem, hg2]); rintro _ _ ⟨rfl, rfl⟩)
            | ((with_reducible first | refine gDt ?_ ?_ | refine gDf ?_ ?_ | refine gNt ?_ ?_ | refine gNf ?_ ?_ | refine cD ?_ ?_ | refine cN ?_ ?_ | refine cB ?_ ?_ | refine gB ?_ ?_) <;> intro h)
            | with_reducible first | refine And.intro ?_ ?_ | refine J_seq ?_ | refine J_block ?_ | refine J_inBlock ?_ | refine rC ?_ | refine rR ?_ | refine rE ?_ | refine rG ?_ | refine FinQ.now ?_ | refine FinQ.end ?_)
          refine .mk (i + 1) ⟨by omega, fun j hj hji => ?_⟩ (by omega) (by simp [go_sem]) (by simp)
          rcases Nat.lt_succ_iff_lt_or_eq.1 hji with h3 | rfl
          · exact hpre j hj h3
          · exact hb
        · rw [hne 4 (by rw [if_neg (by omega), if_neg (by omega), if_pos (any_take_yes hil hlt2 hb)]) (by decide)]
          refine J_run 200 ?_
          repeat' (first
            | (simp (maxSteps := 1000000) (disch := omega) only [go_sem, hg2])
            | ((with_reducible refine CallA.pure cc ?_ ?_); (· simp (disch := omega) only [go_sem, hg2]); rintro _ _ ⟨rfl, rfl⟩)
            | ((with_reducible first | refine gDt ?_ ?_ | refine gDf ?_ ?_ | refine gNt ?_ ?_ | refine gNf ?_ ?_ | refine cD ?_ ?_ | refine cN ?_ ?_ | refine cB ?_ ?_ | refine gB ?_ ?_) <;> intro h)
            | with_reducible first | refine And.intro ?_ ?_ | refine J_seq ?_ | refine J_block ?_ | refine J_inBlock ?_ | refine rC ?_ | refine rR ?_ | refine rE ?_ | refine rG ?_ | refine FinQ.now ?_ | refine FinQ.end ?_)
      · have h4 := any_take_no (m := m) fun j hj hjm => hpre j hj (by omega)
        refine J_run 200 ?_
        repeat' (first
          | (simp (maxSteps := 1000000) (disch := omega) only [go_sem])
          | ((with_reducible first | refine gDt ?_ ?_ | refine gDf ?_ ?_ | refine gNt ?_ ?_ | refine gNf ?_ ?_ | refine cD ?_ ?_ | refine cN ?_ ?_ | refine cB ?_ ?_ | refine gB ?_ ?_) <;> intro h)
          | with_reducible first | refine And.intro ?_ ?_ | refine J_seq ?_ | refine J_block ?_ | refine J_inBlock ?_ | refine rC ?_ | refine rR ?_ | refine rE ?_ | refine rG ?_ | refine FinQ.now ?_ | refine FinQ.end ?_)
        refine .mk (q + 1) ⟨by omega, nxt ?_⟩ (by omega) (by simp [go_sem]) (by simp)
        rw [if_neg (by omega), if_neg (by omega), if_neg (by rw [h4]; exact Bool.false_ne_true)]
    · have hg' := getD_N (l := ks) (i := q - 1) (by omega)
      have e1 : ((q : Int) - 1).toNat = q - 1 := by omega
      by_cases hf : ks[q] ≤ (ks[q - 1]'(by omega))
      · rw [hne 14 (by rw [if_neg hr, if_pos ⟨by omega, hf⟩]) (by decide)]
        refine J_run 200 ?_
        repeat' (first
          | (simp (maxSteps := 1000000) (disch := omega) only [go_sem, hgm, hg, hg', e1])
          | ((with_reducible first | refine gDt ?_ ?_ | refine gDf ?_ ?_ | refine gNt ?_ ?_ | refine gNf ?_ ?_ | refine cD ?_ ?_ | refine cN ?_ ?_ | refine cB ?_ ?_ | refine gB ?_ ?_) <;> intro h)
          | with_reducible first | refine And.intro ?_ ?_ | refine J_seq ?_ | refine J_block ?_ | refine J_inBlock ?_ | refine rC ?_ | refine rR ?_ | refine rE ?_ | refine rG ?_ | refine FinQ.now ?_ | refine FinQ.end ?_)
      refine J_run 200 ?_
      repeat' (first
        | (simp (maxSteps := 1000000) (disch := omega) only [go_sem, hgm, hg, hg', e1])
        | ((with_reducible first | refine gDt ?_ ?_ | refine gDf ?_ ?_ | refine gNt ?_ ?_ | refine gNf ?_ ?_ | refine cD ?_ ?_ | refine cN ?_ ?_ | refine cB ?_ ?_ | refine gB ?_ ?_) <;> intro h)
        | with_reducible first | refine And.intro ?_ ?_ | refine J_seq ?_ | refine J_block ?_ | refine J_inBlock ?_ | refine rC ?_ | refine rR ?_ | refine rE ?_ | refine rG ?_ | refine FinQ.now ?_ | refine FinQ.end ?_)
      refine J_for ([8] ++ upto 48 55) (fun i : Nat => [(47, .raw (.int .i64 i))]) (fun i => []) (fun i => i ≤ (l.take m).length ∧ (∀ j (hj : j < l.length), j < i → decide (ks[q] ∈ l[j].keys) = false)) (fun i => (l.take m).length - i) 0 ⟨by omega, fun j hj h => by omega⟩ (.le (by simp [go_sem]) (by simp)) ?_
      rintro i ⟨hi, hpre⟩
      rw [hlen] at hi
      by_cases hlt2 : i < m
      · have hil : i < l.length := by omega
        have hg2 := getD_takeSafe hlt2 hil
        have cc := contains l[i].keys ks[q] (by have := (hx _ (List.getElem_mem hil)).kl; omega)
        obtain ⟨b, hb⟩ : ∃ b, decide (ks[q] ∈ l[i].keys) = b := ⟨_, rfl⟩
        rw [hb] at cc
        simp only [encSafe] at hg2
        cases b
        · refine J_run 200 ?_
          repeat' (first
            | (simp (maxSteps := 1000000) (disch := omega) only [go_sem, hg2])
            | ((with_reducible refine CallA.pure cc ?_ ?_); (· simp (disch := omega) only [go_sem, hg2]); rintro _ _ ⟨rfl, rfl⟩)
            | ((with_reducible first | refine gDt ?_ ?_ | refine gDf ?_ ?_ | refine gNt ?_ ?_ | refine gNf ?_ ?_ | refine cD ?_ ?_ | refine cN ?_ ?_ | refine cB ?_ ?_ | refine gB ?_ ?_) <;> intro h)
            | with_reducible first | refine And.intro ?_ ?_ | refine J_seq ?_ | refine J_block ?_ | refine J_inBlock ?_ | refine rC ?_ | refine rR ?_ | refine rE ?_ | refine rG ?_ | refine FinQ.now ?_ | refine FinQ.end ?_)
          refine .mk (i + 1) ⟨by omega, fun j hj hji => ?_⟩ (by omega) (by simp [go_sem]) (by simp)
          rcases Nat.lt_succ_iff_lt_or_eq.1 hji with h3 | rfl
          · exact hpre j hj h3
          · exact hb
        · rw [hne 4 (by rw [if_neg (by omega), if_neg (by omega), if_pos (any_take_yes hil hlt2 hb)]) (by decide)]
          refine J_run 200 ?_
          repeat' (first
            | (simp (maxSteps := 1000000) (disch := omega) only [go_sem, hg2])
            | ((with_reducible refine CallA.pure cc ?_ ?_); (· simp (disch := omega) only [go_sem, hg2]); rintro _ _ ⟨rfl, rfl⟩)
            | ((with_reducible first | refine gDt ?_ ?_ | refine gDf ?_ ?_ | refine gNt ?_ ?_ | refine gNf ?_ ?_ | refine cD ?_ ?_ | refine cN ?_ ?_ | refine cB ?_ ?_ | refine gB ?_ ?_) <;> intro h)
            | with_reducible first | refine And.intro ?_ ?_ | refine J_seq ?_ | refine J_block ?_ | refine J_inBlock ?_ | refine rC ?_ | refine rR ?_ | refine rE ?_ | refine rG ?_ | refine FinQ.now ?_ | refine FinQ.end ?_)
      · have h4 := any_take_no (m := m) fun j hj hjm => hpre j hj (by omega)
        refine J_run 200 ?_
        repeat' (first
          | (simp (maxSteps := 1000000) (disch := omega) only [go_sem])
          | ((with_reducible first | refine gDt ?_ ?_ | refine gDf ?_ ?_ | refine gNt ?_ ?_ | refine gNf ?_ ?_ | refine cD ?_ ?_ | refine cN ?_ ?_ | refine cB ?_ ?_ | refine gB ?_ ?_) <;> intro h)
          | with_reducible first | refine And.intro ?_ ?_ | refine J_seq ?_ | refine J_block ?_ | refine J_inBlock ?_ | refine rC ?_ | refine rR ?_ | refine rE ?_ | refine rG ?_ | refine FinQ.now ?_ | refine FinQ.end ?_)
        refine .mk (q + 1) ⟨by omega, nxt ?_⟩ (by omega) (by simp [go_sem]) (by simp)
        rw [if_neg (by omega), if_neg (by omega), if_neg (by rw [h4]; exact Bool.false_ne_true)]
  · rw [firstE_none fun j hj => hpre j (by omega)]
    refine J_run 200 ?_
    repeat' (first
      | (simp (maxSteps := 1000000) (disch := omega) only [go_sem, hgm])
      | ((with_reducible first | refine gDt ?_ ?_ | refine gDf ?_ ?_ | refine gNt ?_ ?_ | refine gNf ?_ ?_ | refine cD ?_ ?_ | refine cN ?_ ?_ | refine cB ?_ ?_ | refine gB ?_ ?_) <;> intro h)
      | with_reducible first | refine And.intro ?_ ?_ | refine J_seq ?_ | refine J_block ?_ | refine J_inBlock ?_ | refine rC ?_ | refine rR ?_ | refine rE ?_ | refine rG ?_ | refine FinQ.now ?_ | refine FinQ.end ?_)
theorem safeErr_at {l : List Safe} {i : Nat} (hi : i < l.length) : safeErr l i = if l[i].num < 1 ∨ 16 < l[i].num then 5 else if 0 < i ∧ l[i].num ≤ (l[i - 1]'(by omega)).num then 14 else if firstE (sKeyErr (l.take i) l[i].keys) l[i].keys.length ≠ 0 then firstE (sKeyErr (l.take i) l[i].keys) l[i].keys.length else sNamesE l[i].locked := by
  unfold safeErr
  rw [getD_get hi, getD_get (show i - 1 < l.length by omega)]
theorem safes_hit {l : List Safe} (h16 : ¬ 16 < l.length) {i : Nat} (hi : i < l.length) (hpre : ∀ j, j < i → safeErr l j = 0) {e : Int} (he : safeErr l i = e) (h0 : e ≠ 0) : safesChk l = e := by
  unfold safesChk
  rw [if_neg h16, firstE_hit hi hpre (by omega), he]
set_option maxHeartbeats 8000000 in
theorem safesCheckF (l : List Safe) (hl : l.length ≤ 1000000) (hx : ∀ s, s ∈ l → s.sized) : Fn1 Tryz.prog GT0 81 [.lst 3 (l.map encSafe)] (.raw (.int .i64 (safesChk l))) [] := by
  by_cases h16 : 16 < l.length
  · have e : safesChk l = 1 := if_pos h16
    rw [e]
    refine holds_of Tryz.func81 rfl rfl ?_
    refine J_run 200 ?_
    delta Tryz.f81
    repeat' (first
      | ((with_reducible refine J_draw (id := 8) 200 [] plan81_8 (by kernel_rfl) (by kernel_rfl) ?_); delta plan81_8)
      | (simp (maxSteps := 1000000) (disch := omega) only [go_sem])
      | ((with_reducible first | refine gDt ?_ ?_ | refine gDf ?_ ?_ | refine gNt ?_ ?_ | refine gNf ?_ ?_ | refine cD ?_ ?_ | refine cN ?_ ?_ | refine cB ?_ ?_ | refine gB ?_ ?_ | refine stepGuard_dect ?_ ?_ | refine stepGuard_decf ?_ ?_ | refine stepGuard_ndect ?_ ?_ | refine stepGuard_ndecf ?_ ?_ | refine stepGuard_by ?_ ?_) <;> intro h)
      | with_reducible first | refine And.intro ?_ ?_ | refine J_seq ?_ | refine J_block ?_ | refine J_inBlock ?_ | refine rC ?_ | refine rR ?_ | refine rE ?_ | refine rG ?_ | refine FinQ.now ?_ | refine FinQ.end ?_)
  refine holds_of Tryz.func81 rfl rfl ?_
  refine J_run 200 ?_
  delta Tryz.f81
  repeat' (first
    | ((with_reducible refine J_draw (id := 8) 200 [] plan81_8 (by kernel_rfl) (by kernel_rfl) ?_); delta plan81_8)
    | (simp (maxSteps := 1000000) (disch := omega) only [go_sem])
    | ((with_reducible first | refine gDt ?_ ?_ | refine gDf ?_ ?_ | refine gNt ?_ ?_ | refine gNf ?_ ?_ | refine cD ?_ ?_ | refine cN ?_ ?_ | refine cB ?_ ?_ | refine gB ?_ ?_ | refine stepGuard_dect ?_ ?_ | refine stepGuard_decf ?_ ?_ | refine stepGuard_ndect ?_ ?_ | refine stepGuard_ndecf ?_ ?_ | refine stepGuard_by ?_ ?_) <;> intro h)
    | with_reducible first | refine And.intro ?_ ?_ | refine J_seq ?_ | refine J_block ?_ | refine J_inBlock ?_ | refine rC ?_ | refine rR ?_ | refine rE ?_ | refine rG ?_ | refine FinQ.now ?_ | refine FinQ.end ?_)
  refine J_for (upto 3 6 ++ upto 13 52) (fun i : Nat => [(12, .raw (.int .i64 i))]) (fun i => []) (fun i => i ≤ (l).length ∧ (∀ j, j < i → safeErr l j = 0)) (fun i => (l).length - i) 0 ⟨by omega, by omega⟩ (.le (by simp [go_sem]) (by simp)) ?_
  rintro i ⟨hi, hpre⟩
  by_cases hlt : i < l.length
  · have hne := fun e => safes_hit (e := e) h16 hlt hpre
    have ha := safeErr_at hlt
    have nxt : safeErr l i = 0 → ∀ j, j < i + 1 → safeErr l j = 0 := fun h0 j hj => by
      rcases Nat.lt_succ_iff_lt_or_eq.1 hj with h3 | rfl
      · exact hpre j h3
      · exact h0
    rw [ha] at hne nxt
    clear ha
    have hg := getD_Safe hlt
    have hz := hx _ (List.getElem_mem hlt)
    have ck := safeKeysF l hl hx i hlt
    have cp := peopleF l[i].locked hz.pl hz.sl
    generalize firstE (sKeyErr (l.take i) l[i].keys) l[i].keys.length = ke at ck hne nxt
    generalize sNamesE l[i].locked = pe at cp hne nxt
    simp only [encSafe] at hg
    by_cases hr : l[i].num < 1 ∨ 16 < l[i].num
    · rw [hne 5 (if_pos hr) (by decide)]
      refine J_run 200 ?_
      repeat' (first
        | ((with_reducible refine J_draw (id := 8) 200 [] plan81_8 (by kernel_rfl) (by kernel_rfl) ?_); delta plan81_8)
        | (simp (maxSteps := 1000000) (disch := omega) only [go_sem, hg])
        | ((with_reducible first | refine gDt ?_ ?_ | refine gDf ?_ ?_ | refine gNt ?_ ?_ | refine gNf ?_ ?_ | refine cD ?_ ?_ | refine cN ?_ ?_ | refine cB ?_ ?_ | refine gB ?_ ?_ | refine stepGuard_dect ?_ ?_ | refine stepGuard_decf ?_ ?_ | refine stepGuard_ndect ?_ ?_ | refine stepGuard_ndecf ?_ ?_ | refine stepGuard_by ?_ ?_) <;> intro h)
        | with_reducible first | refine And.intro ?_ ?_ | refine J_seq ?_ | refine J_block ?_ | refine J_inBlock ?_ | refine rC ?_ | refine rR ?_ | refine rE ?_ | refine rG ?_ | refine FinQ.now ?_ | refine FinQ.end ?_)
    have hg' := getD_Safe (l := l) (i := i - 1) (by omega)
    have e1 : i ≠ 0 → ((i : Int) - 1).toNat = i - 1 := by omega
    simp only [encSafe] at hg'
    by_cases h0 : i = 0
    · have e1 : decide ((0 : Int) < (i : Int)) = false := decide_eq_false (by omega)
      by_cases k0 : ke = 0
      · subst k0
        by_cases p0 : pe = 0
        · subst p0
          refine J_run 200 ?_
          repeat' (first
            | ((with_reducible refine J_draw (id := 8) 200 [] plan81_8 (by kernel_rfl) (by kernel_rfl) ?_); delta plan81_8)
            | (simp (maxSteps := 1000000) (disch := omega) only [go_sem, hg, hg', e1])
            | ((with_reducible refine CallA.pure ck ?_ ?_); (· simp (disch := omega) only [go_sem, hg, hg', e1]); rintro _ _ ⟨rfl, rfl⟩)
            | ((with_reducible refine CallA.pure cp ?_ ?_); (· simp (disch := omega) only [go_sem, hg, hg', e1]); rintro _ _ ⟨rfl, rfl⟩)
            | ((with_reducible first | refine gDt ?_ ?_ | refine gDf ?_ ?_ | refine gNt ?_ ?_ | refine gNf ?_ ?_ | refine cD ?_ ?_ | refine cN ?_ ?_ | refine cB ?_ ?_ | refine gB ?_ ?_ | refine stepGuard_dect ?_ ?_ | refine stepGuard_decf ?_ ?_ | refine stepGuard_ndect ?_ ?_ | refine stepGuard_ndecf ?_ ?_ | refine stepGuard_by ?_ ?_) <;> intro h)
            | with_reducible first | refine And.intro ?_ ?_ | refine J_seq ?_ | refine J_block ?_ | refine J_inBlock ?_ | refine rC ?_ | refine rR ?_ | refine rE ?_ | refine rG ?_ | refine FinQ.now ?_ | refine FinQ.end ?_)
          refine .mk (i + 1) ⟨hlt, nxt ?_⟩ (by omega) (by simp [go_sem]) (by simp)
          rw [if_neg hr, if_neg (by omega), if_neg (by simp)]
        · rw [hne pe (by rw [if_neg hr, if_neg (by omega), if_neg (by simp)]) p0]
          refine J_run 200 ?_
          repeat' (first
            | ((with_reducible refine J_draw (id := 8) 200 [] plan81_8 (by kernel_rfl) (by kernel_rfl) ?_); delta plan81_8)
            | (simp (maxSteps := 1000000) (disch := omega) only [go_sem, hg, hg', e1, p0])
            | ((with_reducible refine CallA.pure ck ?_ ?_); (· simp (disch := omega) only [go_sem, hg, hg', e1, p0]); rintro _ _ ⟨rfl, rfl⟩)
            | ((with_reducible refine CallA.pure cp ?_ ?_); (· simp (disch := omega) only [go_sem, hg, hg', e1, p0]); rintro _ _ ⟨rfl, rfl⟩)
            | ((with_reducible first | refine gDt ?_ ?_ | refine gDf ?_ ?_ | refine gNt ?_ ?_ | refine gNf ?_ ?_ | refine cD ?_ ?_ | refine cN ?_ ?_ | refine cB ?_ ?_ | refine gB ?_ ?_ | refine stepGuard_dect ?_ ?_ | refine stepGuard_decf ?_ ?_ | refine stepGuard_ndect ?_ ?_ | refine stepGuard_ndecf ?_ ?_ | refine stepGuard_by ?_ ?_) <;> intro h)
            | with_reducible first | refine And.intro ?_ ?_ | refine J_seq ?_ | refine J_block ?_ | refine J_inBlock ?_ | refine rC ?_ | refine rR ?_ | refine rE ?_ | refine rG ?_ | refine FinQ.now ?_ | refine FinQ.end ?_)
      · rw [hne ke (by rw [if_neg hr, if_neg (by omega), if_pos k0]) k0]
        refine J_run 200 ?_
        repeat' (first
          | ((with_reducible refine J_draw (id := 8) 200 [] plan81_8 (by kernel_rfl) (by kernel_rfl) ?_); delta plan81_8)
          | (simp (maxSteps := 1000000) (disch := omega) only [go_sem, hg, hg', e1, k0])
          | ((with_reducible refine CallA.pure ck ?_ ?_); (· simp (disch := omega) only [go_sem, hg, hg', e1, k0]); rintro _ _ ⟨rfl, rfl⟩)
          | ((with_reducible first | refine gDt ?_ ?_ | refine gDf ?_ ?_ | refine gNt ?_ ?_ | refine gNf ?_ ?_ | refine cD ?_ ?_ | refine cN ?_ ?_ | refine cB ?_ ?_ | refine gB ?_ ?_ | refine stepGuard_dect ?_ ?_ | refine stepGuard_decf ?_ ?_ | refine stepGuard_ndect ?_ ?_ | refine stepGuard_ndecf ?_ ?_ | refine stepGuard_by ?_ ?_) <;> intro h)
          | with_reducible first | refine And.intro ?_ ?_ | refine J_seq ?_ | refine J_block ?_ | refine J_inBlock ?_ | refine rC ?_ | refine rR ?_ | refine rE ?_ | refine rG ?_ | refine FinQ.now ?_ | refine FinQ.end ?_)
    · have e1 := e1 h0
      by_cases hf : l[i].num ≤ (l[i - 1]'(by omega)).num
      · rw [hne 14 (by rw [if_neg hr, if_pos ⟨by omega, hf⟩]) (by decide)]
        refine J_run 200 ?_
        repeat' (first
          | ((with_reducible refine J_draw (id := 8) 200 [] plan81_8 (by kernel_rfl) (by kernel_rfl) ?_); delta plan81_8)
          | (simp (maxSteps := 1000000) (disch := omega) only [go_sem, hg, hg', e1])
          | ((with_reducible first | refine gDt ?_ ?_ | refine gDf ?_ ?_ | refine gNt ?_ ?_ | refine gNf ?_ ?_ | refine cD ?_ ?_ | refine cN ?_ ?_ | refine cB ?_ ?_ | refine gB ?_ ?_ | refine stepGuard_dect ?_ ?_ | refine stepGuard_decf ?_ ?_ | refine stepGuard_ndect ?_ ?_ | refine stepGuard_ndecf ?_ ?_ | refine stepGuard_by ?_ ?_) <;> intro h)
          | with_reducible first | refine And.intro ?_ ?_ | refine J_seq ?_ | refine J_block ?_ | refine J_inBlock ?_ | refine rC ?_ | refine rR ?_ | refine rE ?_ | refine rG ?_ | refine FinQ.now ?_ | refine FinQ.end ?_)
      by_cases k0 : ke = 0
      · subst k0
        by_cases p0 : pe = 0
        · subst p0
          refine J_run 200 ?_
          repeat' (first
            | ((with_reducible refine J_draw (id := 8) 200 [] plan81_8 (by kernel_rfl) (by kernel_rfl) ?_); delta plan81_8)
            | (simp (maxSteps := 1000000) (disch := omega) only [go_sem, hg, hg', e1])
            | ((with_reducible refine CallA.pure ck ?_ ?_); (· simp (disch := omega) only [go_sem, hg, hg', e1]); rintro _ _ ⟨rfl, rfl⟩)
            | ((with_reducible refine CallA.pure cp ?_ ?_); (· simp (disch := omega) only [go_sem, hg, hg', e1]); rintro _ _ ⟨rfl, rfl⟩)
            | ((with_reducible first | refine gDt ?_ ?_ | refine gDf ?_ ?_ | refine gNt ?_ ?_ | refine gNf ?_ ?_ | refine cD ?_ ?_ | refine cN ?_ ?_ | refine cB ?_ ?_ | refine gB ?_ ?_ | refine stepGuard_dect ?_ ?_ | refine stepGuard_decf ?_ ?_ | refine stepGuard_ndect ?_ ?_ | refine stepGuard_ndecf ?_ ?_ | refine stepGuard_by ?_ ?_) <;> intro h)
            | with_reducible first | refine And.intro ?_ ?_ | refine J_seq ?_ | refine J_block ?_ | refine J_inBlock ?_ | refine rC ?_ | refine rR ?_ | refine rE ?_ | refine rG ?_ | refine FinQ.now ?_ | refine FinQ.end ?_)
          refine .mk (i + 1) ⟨hlt, nxt ?_⟩ (by omega) (by simp [go_sem]) (by simp)
          rw [if_neg hr, if_neg (by omega), if_neg (by simp)]
        · rw [hne pe (by rw [if_neg hr, if_neg (by omega), if_neg (by simp)]) p0]
          refine J_run 200 ?_
          repeat' (first
            | ((with_reducible refine J_draw (id := 8) 200 [] plan81_8 (by kernel_rfl) (by kernel_rfl) ?_); delta plan81_8)
            | (simp (maxSteps := 1000000) (disch := omega) only [go_sem, hg, hg', e1, p0])
            | ((with_reducible refine CallA.pure ck ?_ ?_); (· simp (disch := omega) only [go_sem, hg, hg', e1, p0]); rintro _ _ ⟨rfl, rfl⟩)
            | ((with_reducible refine CallA.pure cp ?_ ?_); (· simp (disch := omega) only [go_sem, hg, hg', e1, p0]); rintro _ _ ⟨rfl, rfl⟩)
            | ((with_reducible first | refine gDt ?_ ?_ | refine gDf ?_ ?_ | refine gNt ?_ ?_ | refine gNf ?_ ?_ | refine cD ?_ ?_ | refine cN ?_ ?_ | refine cB ?_ ?_ | refine gB ?_ ?_ | refine stepGuard_dect ?_ ?_ | refine stepGuard_decf ?_ ?_ | refine stepGuard_ndect ?_ ?_ | refine stepGuard_ndecf ?_ ?_ | refine stepGuard_by ?_ ?_) <;> intro h)
            | with_reducible first | refine And.intro ?_ ?_ | refine J_seq ?_ | refine J_block ?_ | refine J_inBlock ?_ | refine rC ?_ | refine rR ?_ | refine rE ?_ | refine rG ?_ | refine FinQ.now ?_ | refine FinQ.end ?_)
      · rw [hne ke (by rw [if_neg hr, if_neg (by omega), if_pos k0]) k0]
        refine J_run 200 ?_
        repeat' (first
          | ((with_reducible refine J_draw (id := 8) 200 [] plan81_8 (by kernel_rfl) (by kernel_rfl) ?_); delta plan81_8)
          | (simp (maxSteps := 1000000) (disch := omega) only [go_sem, hg, hg', e1, k0])
          | ((with_reducible refine CallA.pure ck ?_ ?_); (· simp (disch := omega) only [go_sem, hg, hg', e1, k0]); rintro _ _ ⟨rfl, rfl⟩)
          | ((with_reducible first | refine gDt ?_ ?_ | refine gDf ?_ ?_ | refine gNt ?_ ?_ | refine gNf ?_ ?_ | refine cD ?_ ?_ | refine cN ?_ ?_ | refine cB ?_ ?_ | refine gB ?_ ?_ | refine stepGuard_dect ?_ ?_ | refine stepGuard_decf ?_ ?_ | refine stepGuard_ndect ?_ ?_ | refine stepGuard_ndecf ?_ ?_ | refine stepGuard_by ?_ ?_) <;> intro h)
          | with_reducible first | refine And.intro ?_ ?_ | refine J_seq ?_ | refine J_block ?_ | refine J_inBlock ?_ | refine rC ?_ | refine rR ?_ | refine rE ?_ | refine rG ?_ | refine FinQ.now ?_ | refine FinQ.end ?_)
  · have e : safesChk l = 0 := by
      unfold safesChk
      rw [if_neg h16]
      exact firstE_none fun j hj => hpre j (by omega)
    rw [e]
    refine J_run 200 ?_
    repeat' (first
      | ((with_reducible refine J_draw (id := 8) 200 [] plan81_8 (by kernel_rfl) (by kernel_rfl) ?_); delta plan81_8)
      | (simp (maxSteps := 1000000) (disch := omega) only [go_sem])
      | ((with_reducible first | refine gDt ?_ ?_ | refine gDf ?_ ?_ | refine gNt ?_ ?_ | refine gNf ?_ ?_ | refine cD ?_ ?_ | refine cN ?_ ?_ | refine cB ?_ ?_ | refine gB ?_ ?_ | refine stepGuard_dect ?_ ?_ | refine stepGuard_decf ?_ ?_ | refine stepGuard_ndect ?_ ?_ | refine stepGuard_ndecf ?_ ?_ | refine stepGuard_by ?_ ?_) <;> intro h)
      | with_reducible first | refine And.intro ?_ ?_ | refine J_seq ?_ | refine J_block ?_ | refine J_inBlock ?_ | refine rC ?_ | refine rR ?_ | refine rE ?_ | refine rG ?_ | refine FinQ.now ?_ | refine FinQ.end ?_)
theorem in1 (s : Safe) (hs : s.sized) (k : Int) : Fn1 Tryz.prog GT0 100 [.agg (encSafe s), .cptr [.raw (.int .i64 k)]] (.raw (.bool (decide (k ∈ s.keys)))) [] := by
  have c := contains s.keys k (by have := hs.kl; omega)
  simp only [encSafe]
  refine holds_of Tryz.func100 rfl rfl ?_
  refine J_run 200 ?_
  delta Tryz.f100
  repeat' (first
    | (simp (maxSteps := 1000000) (disch := omega) only [go_sem])
    | ((with_reducible refine CallA.pure c ?_ ?_); (· simp (disch := omega) only [go_sem]); rintro _ _ ⟨rfl, rfl⟩)
    | ((with_reducible first | refine gDt ?_ ?_ | refine gDf ?_ ?_ | refine gNt ?_ ?_ | refine gNf ?_ ?_ | refine cD ?_ ?_ | refine cN ?_ ?_ | refine cB ?_ ?_ | refine gB ?_ ?_) <;> intro h)
    | with_reducible first | refine And.intro ?_ ?_ | refine J_seq ?_ | refine J_block ?_ | refine J_inBlock ?_ | refine rC ?_ | refine rR ?_ | refine rE ?_ | refine rG ?_ | refine FinQ.now ?_ | refine FinQ.end ?_)
theorem withF (l : List Safe) (hl : l.length ≤ 1000000) (hx : ∀ s, s ∈ l → s.sized) (fn : FuncId) (cap : List AV) (hcap : AV.immL cap = true) (pr : Safe → Bool)
    (hp : ∀ y, y ∈ l → Fn1 Tryz.prog GT0 fn (.agg (encSafe y) :: cap) (.raw (.bool (pr y))) []) :
    Fn1 Tryz.prog GT0 99 [.lst 3 (l.map encSafe), .clo (.func fn) [] cap] (.raw (.int .i64 (if safesChk l ≠ 0 then -1 else firstAt pr l))) [] := by
  have hcapk := fun s => AV.keepsL_imm s cap hcap
  have cc := safesCheckF l hl hx
  have ci := indexFuncS l fn cap hcap pr hl hp
  by_cases h0 : safesChk l = 0
  · rw [if_neg (by simp [h0])]
    rw [h0] at cc
    refine holds_of Tryz.func99 rfl rfl ?_
    refine J_run 200 ?_
    delta Tryz.f99
    repeat' (first
      | (simp (maxSteps := 1000000) (disch := omega) only [go_sem, hcap])
      | ((with_reducible refine CallA.pure cc ?_ ?_); (· simp (disch := omega) only [go_sem, hcap]); rintro _ _ ⟨rfl, rfl⟩)
      | ((with_reducible refine CallA.pure ci ?_ ?_); (· simp (disch := omega) only [go_sem, hcap]); rintro _ _ ⟨rfl, rfl⟩)
      | ((with_reducible first | refine gDt ?_ ?_ | refine gDf ?_ ?_ | refine gNt ?_ ?_ | refine gNf ?_ ?_ | refine cD ?_ ?_ | refine cN ?_ ?_ | refine cB ?_ ?_ | refine gB ?_ ?_) <;> intro h)
      | with_reducible first | refine And.intro ?_ ?_ | refine J_seq ?_ | refine J_block ?_ | refine J_inBlock ?_ | refine rC ?_ | refine rR ?_ | refine rE ?_ | refine rG ?_ | refine FinQ.now ?_ | refine FinQ.end ?_)
  · rw [if_pos h0]
    refine holds_of Tryz.func99 rfl rfl ?_
    refine J_run 200 ?_
    delta Tryz.f99
    repeat' (first
      | (simp (maxSteps := 1000000) (disch := omega) only [go_sem, h0, hcap])
      | ((with_reducible refine CallA.pure cc ?_ ?_); (· simp (disch := omega) only [go_sem, h0, hcap]); rintro _ _ ⟨rfl, rfl⟩)
      | ((with_reducible first | refine gDt ?_ ?_ | refine gDf ?_ ?_ | refine gNt ?_ ?_ | refine gNf ?_ ?_ | refine cD ?_ ?_ | refine cN ?_ ?_ | refine cB ?_ ?_ | refine gB ?_ ?_) <;> intro h)
      | with_reducible first | refine And.intro ?_ ?_ | refine J_seq ?_ | refine J_block ?_ | refine J_inBlock ?_ | refine rC ?_ | refine rR ?_ | refine rE ?_ | refine rG ?_ | refine FinQ.now ?_ | refine FinQ.end ?_)
theorem firstAt_lt {α : Type} {p : α → Bool} (l : List α) (h : 0 ≤ firstAt p l) : firstAt p l < l.length := by
  induction l with
  | nil => simp [firstAt] at h
  | cons x l ih =>
    simp only [firstAt, List.length_cons] at h ⊢
    split
    · omega
    · rename_i hp
      rw [if_neg hp] at h
      split
      · omega
      · rename_i h1
        have := ih (by omega)
        omega
theorem firstAt_find {α : Type} {p : α → Bool} : ∀ {l : List α} (h : 0 ≤ firstAt p l), l.find? p = l[(firstAt p l).toNat]?
  | [], h => by simp [firstAt] at h
  | x :: l, h => by
    simp only [firstAt] at h ⊢
    by_cases hp : p x = true
    · rw [if_pos hp, List.find?_cons_of_pos hp]; rfl
    · rw [if_neg hp] at h ⊢
      rw [List.find?_cons_of_neg hp]
      by_cases h0 : firstAt p l < 0
      · rw [if_pos h0] at h; omega
      · rw [if_neg h0, firstAt_find (by omega), show (firstAt p l + 1).toNat = (firstAt p l).toNat + 1 by omega, List.getElem?_cons_succ]
theorem firstAt_no {α : Type} {p : α → Bool} {l : List α} (h : ¬ 0 ≤ firstAt p l) : l.find? p = none := by
  rw [List.find?_eq_none]
  intro x hx hp
  exact h ((firstAt_ge' _).2 (List.any_eq_true.2 ⟨x, hx, hp⟩))
set_option maxHeartbeats 2000000 in
theorem inSafeF (l : List Safe) (hl : l.length ≤ 1000000) (hx : ∀ s, s ∈ l → s.sized) (k : Int) : Fn1 Tryz.prog GT0 65 [.lst 3 (l.map encSafe), .raw (.int .i64 k)] (.raw (.int .i64 (inSafe l k))) [] := by
  have c := withF l hl hx 100 [.cptr [.raw (.int .i64 k)]] rfl (fun s => decide (k ∈ s.keys)) fun s hs => in1 s (hx s hs) k
  unfold inSafe
  by_cases h0 : safesChk l = 0
  · rw [if_neg (by simp [h0])] at c ⊢
    by_cases h1 : 0 ≤ firstAt (fun s => decide (k ∈ s.keys)) l
    · have h2 := firstAt_lt l h1
      have h3 := firstAt_find h1
      obtain ⟨i, hi⟩ : ∃ i : Nat, firstAt (fun s => decide (k ∈ s.keys)) l = i := ⟨_, (Int.toNat_of_nonneg h1).symm⟩
      rw [hi] at c h2 h3
      rw [Int.toNat_natCast, List.getElem?_eq_getElem (by omega)] at h3
      rw [h3]
      have hg := getD_Safe (show i < l.length by omega)
      simp only [encSafe] at hg
      dsimp only
      refine holds_of Tryz.func65 rfl rfl ?_
      refine J_run 200 ?_
      delta Tryz.f65
      repeat' (first
        | (simp (maxSteps := 1000000) (disch := omega) only [go_sem, hg])
        | ((with_reducible refine CallA.give [0] ?_ ?_ c ?_); (· simp (disch := omega) only [go_sem, hg]); (· simp (disch := omega) only [go_sem, hg]); rintro _ _ ⟨rfl, rfl⟩)
        | ((with_reducible first | refine gDt ?_ ?_ | refine gDf ?_ ?_ | refine gNt ?_ ?_ | refine gNf ?_ ?_ | refine cD ?_ ?_ | refine cN ?_ ?_ | refine cB ?_ ?_ | refine gB ?_ ?_) <;> intro h)
        | with_reducible first | refine And.intro ?_ ?_ | refine J_seq ?_ | refine J_block ?_ | refine J_inBlock ?_ | refine rC ?_ | refine rR ?_ | refine rE ?_ | refine rG ?_ | refine FinQ.now ?_ | refine FinQ.end ?_)
    · rw [firstAt_no h1]
      dsimp only
      have hm : firstAt (fun s => decide (k ∈ s.keys)) l = -1 := by have := firstAt_lo (p := fun s : Safe => decide (k ∈ s.keys)) l; omega
      rw [hm] at c
      refine holds_of Tryz.func65 rfl rfl ?_
      refine J_run 200 ?_
      delta Tryz.f65
      repeat' (first
        | (simp (maxSteps := 1000000) (disch := omega) only [go_sem])
        | ((with_reducible refine CallA.give [0] ?_ ?_ c ?_); (· simp (disch := omega) only [go_sem]); (· simp (disch := omega) only [go_sem]); rintro _ _ ⟨rfl, rfl⟩)
        | ((with_reducible first | refine gDt ?_ ?_ | refine gDf ?_ ?_ | refine gNt ?_ ?_ | refine gNf ?_ ?_ | refine cD ?_ ?_ | refine cN ?_ ?_ | refine cB ?_ ?_ | refine gB ?_ ?_) <;> intro h)
        | with_reducible first | refine And.intro ?_ ?_ | refine J_seq ?_ | refine J_block ?_ | refine J_inBlock ?_ | refine rC ?_ | refine rR ?_ | refine rE ?_ | refine rG ?_ | refine FinQ.now ?_ | refine FinQ.end ?_)
  · rw [if_pos h0] at c ⊢
    refine holds_of Tryz.func65 rfl rfl ?_
    refine J_run 200 ?_
    delta Tryz.f65
    repeat' (first
      | (simp (maxSteps := 1000000) (disch := omega) only [go_sem])
      | ((with_reducible refine CallA.give [0] ?_ ?_ c ?_); (· simp (disch := omega) only [go_sem]); (· simp (disch := omega) only [go_sem]); rintro _ _ ⟨rfl, rfl⟩)
      | ((with_reducible first | refine gDt ?_ ?_ | refine gDf ?_ ?_ | refine gNt ?_ ?_ | refine gNf ?_ ?_ | refine cD ?_ ?_ | refine cN ?_ ?_ | refine cB ?_ ?_ | refine gB ?_ ?_) <;> intro h)
      | with_reducible first | refine And.intro ?_ ?_ | refine J_seq ?_ | refine J_block ?_ | refine J_inBlock ?_ | refine rC ?_ | refine rR ?_ | refine rE ?_ | refine rG ?_ | refine FinQ.now ?_ | refine FinQ.end ?_)
end Go.Proofs.YtmfgaefefgnhbaaGreatDoor.Abs
namespace Go.Proofs.YtmfgaefefgnhbaaGreatDoor.Abs
set_option linter.unusedSimpArgs false
set_option linter.unusedVariables false
set_option maxRecDepth 100000
open Go Go.RowKit

def encOpt (x : Option Int) : Int := x.getD 0
theorem portPlace (l : List Row) (hl : l.length ≤ 1000000) (hs : ∀ r, r ∈ l → r.name.size ≤ 9223372036854775807) (k : Int) : Fn1 Tryz.prog GT0 66 [.lst 4 (l.map encRow), .raw (.int .i64 k)] (.tup [.raw (.int .i64 (encOpt (placeOf l k))), .raw (.bool (placeOf l k).isSome)]) [] := by
  have c := findF l hl hs k
  unfold placeOf
  cases h : findRow l k with
  | none =>
    rw [h] at c
    simp only [encHold, Option.isSome] at c
    simp only [encOpt, Option.isSome, Option.getD]
    refine holds_of Tryz.func66 rfl rfl ?_
    refine J_run 200 ?_
    delta Tryz.f66
    repeat' (first
      | (simp (maxSteps := 1000000) (disch := omega) only [go_sem])
      | ((with_reducible refine CallA.pure c ?_ ?_); (· simp (disch := omega) only [go_sem]); rintro _ _ ⟨rfl, rfl⟩)
      | ((with_reducible first | refine gDt ?_ ?_ | refine gDf ?_ ?_ | refine gNt ?_ ?_ | refine gNf ?_ ?_ | refine cD ?_ ?_ | refine cN ?_ ?_ | refine cB ?_ ?_ | refine gB ?_ ?_) <;> intro h)
      | with_reducible first | refine And.intro ?_ ?_ | refine J_seq ?_ | refine J_block ?_ | refine J_inBlock ?_ | refine rC ?_ | refine rR ?_ | refine rE ?_ | refine rG ?_ | refine FinQ.now ?_ | refine FinQ.end ?_)
  | some r =>
    rw [h] at c
    simp only [encHold, Option.isSome] at c
    dsimp only
    by_cases h4 : r.kind = 4
    · rw [if_pos h4]
      simp only [encOpt, Option.isSome, Option.getD]
      have h4d := decide_eq_true h4
      refine holds_of Tryz.func66 rfl rfl ?_
      refine J_run 200 ?_
      delta Tryz.f66
      repeat' (first
        | (simp (maxSteps := 1000000) (disch := omega) only [go_sem, h4d])
        | ((with_reducible refine CallA.pure c ?_ ?_); (· simp (disch := omega) only [go_sem, h4d]); rintro _ _ ⟨rfl, rfl⟩)
        | ((with_reducible first | refine gDt ?_ ?_ | refine gDf ?_ ?_ | refine gNt ?_ ?_ | refine gNf ?_ ?_ | refine cD ?_ ?_ | refine cN ?_ ?_ | refine cB ?_ ?_ | refine gB ?_ ?_) <;> intro h)
        | with_reducible first | refine And.intro ?_ ?_ | refine J_seq ?_ | refine J_block ?_ | refine J_inBlock ?_ | refine rC ?_ | refine rR ?_ | refine rE ?_ | refine rG ?_ | refine FinQ.now ?_ | refine FinQ.end ?_)
    · rw [if_neg h4]
      simp only [encOpt, Option.isSome, Option.getD]
      have h4d := decide_eq_false h4
      refine holds_of Tryz.func66 rfl rfl ?_
      refine J_run 200 ?_
      delta Tryz.f66
      repeat' (first
        | (simp (maxSteps := 1000000) (disch := omega) only [go_sem, h4d])
        | ((with_reducible refine CallA.pure c ?_ ?_); (· simp (disch := omega) only [go_sem, h4d]); rintro _ _ ⟨rfl, rfl⟩)
        | ((with_reducible first | refine gDt ?_ ?_ | refine gDf ?_ ?_ | refine gNt ?_ ?_ | refine gNf ?_ ?_ | refine cD ?_ ?_ | refine cN ?_ ?_ | refine cB ?_ ?_ | refine gB ?_ ?_) <;> intro h)
        | with_reducible first | refine And.intro ?_ ?_ | refine J_seq ?_ | refine J_block ?_ | refine J_inBlock ?_ | refine rC ?_ | refine rR ?_ | refine rE ?_ | refine rG ?_ | refine FinQ.now ?_ | refine FinQ.end ?_)
theorem low5 {m : Int} (h : inI m) : (IntKind.i64.wrap (BitVec.ofInt 64 m &&& ~~~ BitVec.ofInt 64 31).toNat = 0) ↔ (0 ≤ m ∧ m ≤ 31) := by
  have e : ∀ x : BitVec 64, IntKind.i64.wrap (x.toNat : Int) = 0 ↔ x = 0#64 := fun x => by
    have hx := x.isLt
    constructor
    · intro h0
      apply BitVec.eq_of_toNat_eq
      simp only [IntKind.wrap, IntKind.bits, IntKind.signed] at h0
      simp at h0 ⊢
      omega
    · rintro rfl; rfl
  rw [e]
  have hx := (BitVec.ofInt 64 m).isLt
  have hm : ((BitVec.ofInt 64 m).toNat : Int) = m % 18446744073709551616 := by rw [BitVec.toNat_ofInt]; simp; omega
  obtain ⟨x, hxe⟩ : ∃ x, BitVec.ofInt 64 m = x := ⟨_, rfl⟩
  rw [hxe] at hm hx ⊢
  have key : (x &&& ~~~ BitVec.ofInt 64 31 = 0#64) ↔ x.toNat < 32 := by
    constructor
    · intro h0
      refine Nat.lt_of_not_le fun hge => ?_
      obtain ⟨i, hi, hb⟩ := Nat.exists_ge_and_testBit_of_ge_two_pow (n := 5) (x := x.toNat) hge
      have hi64 : i < 64 := by
        refine Nat.lt_of_not_le fun h64 => ?_
        rw [Nat.testBit_lt_two_pow (Nat.lt_of_lt_of_le hx (Nat.pow_le_pow_right (by omega) h64))] at hb
        cases hb
      have h1 := congrArg (fun y : BitVec 64 => y.getLsbD i) h0
      have h2 : (BitVec.ofInt 64 31).getLsbD i = false := by
        have : (BitVec.ofInt 64 31).toNat = 31 := by decide
        rw [BitVec.getLsbD, this]
        exact Nat.testBit_lt_two_pow (Nat.lt_of_lt_of_le (by decide : 31 < 2 ^ 5) (Nat.pow_le_pow_right (by omega) hi))
      simp only [BitVec.getLsbD_and, BitVec.getLsbD_not, h2] at h1
      rw [BitVec.getLsbD, hb] at h1
      simp [hi64] at h1
    · intro hlt
      apply BitVec.eq_of_getLsbD_eq
      intro i hi
      simp only [BitVec.getLsbD_and, BitVec.getLsbD_not]
      by_cases h10 : i < 5
      · have h2 : (BitVec.ofInt 64 31).getLsbD i = true := by
          have : ∀ j, j < 5 → (BitVec.ofInt 64 31).getLsbD j = true := by decide
          exact this i h10
        rw [h2]
        simp
      · have : x.getLsbD i = false := by
          rw [BitVec.getLsbD]
          exact Nat.testBit_lt_two_pow (Nat.lt_of_lt_of_le (show x.toNat < 2 ^ 5 by omega) (Nat.pow_le_pow_right (by omega) (by omega)))
        rw [this]
        simp
  rw [key]
  unfold inI at h
  omega
structure Pers.sized (p : Pers) : Prop where
  ns : p.name.size ≤ 9223372036854775807
  si : inI p.skills
set_option maxHeartbeats 4000000 in
theorem persValid (p : Pers) (hp : p.sized) : Fn1 Tryz.prog GT0 55 [.agg (encPers p)] (.raw (.int .i64 (persE p))) [] := by
  have cn := nameF p.name hp.ns
  have cv := validSp p.frm p.til
  have hm := low5 hp.si
  unfold persE
  simp only [encPers]
  refine holds_of Tryz.func55 rfl rfl ?_
  refine J_run 200 ?_
  delta Tryz.f55
  repeat' (first
    | (simp (maxSteps := 1000000) (disch := omega) only [go_sem])
    | ((with_reducible refine CallA.pure cn ?_ ?_); (· simp (disch := omega) only [go_sem]); rintro _ _ ⟨rfl, rfl⟩)
    | ((with_reducible refine CallA.pure cv ?_ ?_); (· simp (disch := omega) only [go_sem]); rintro _ _ ⟨rfl, rfl⟩)
    | ((with_reducible first | refine gDt ?_ ?_ | refine gDf ?_ ?_ | refine gNt ?_ ?_ | refine gNf ?_ ?_ | refine cD ?_ ?_ | refine cN ?_ ?_ | refine cB ?_ ?_ | refine gB ?_ ?_) <;> intro h)
    | with_reducible first | refine And.intro ?_ ?_ | refine J_seq ?_ | refine J_block ?_ | refine J_inBlock ?_ | refine rC ?_ | refine rR ?_ | refine rE ?_ | refine rG ?_ | refine FinQ.now ?_ | refine FinQ.end ?_)
  all_goals (try simp only [Bool.not_eq_eq_eq_not, Bool.not_true, Bool.not_false] at *)
  all_goals first
    | (have h5 := hm.1 (by assumption); clear hm; (repeat' split) <;> first | rfl | (exfalso; omega) | (exfalso; simp_all; done))
    | (have h5 : ¬ (0 ≤ p.skills ∧ p.skills ≤ 31) := fun h => absurd (hm.2 h) (by assumption); clear hm; (repeat' split) <;> first | rfl | (exfalso; omega) | (exfalso; simp_all; done))
    | ((repeat' split) <;> first | rfl | (exfalso; omega) | (exfalso; simp_all; done))
theorem reg_hit {l : List Pers} (h64 : ¬ 64 < l.length) {i : Nat} (hi : i < l.length) (hpre : ∀ j, j < i → regErr l j = 0) {e : Int} (he : regErr l i = e) (h0 : e ≠ 0) : regChk l = e := by
  unfold regChk
  rw [if_neg h64, firstE_hit hi hpre (by omega), he]
theorem regErr_at {l : List Pers} {i : Nat} (hi : i < l.length) : regErr l i = if persE l[i] ≠ 0 then persE l[i] else if 0 < i ∧ sLt (l[i - 1]'(by omega)).name l[i].name = false then 4 else 0 := by
  unfold regErr
  rw [getD_get hi, getD_get (show i - 1 < l.length by omega)]
set_option maxHeartbeats 4000000 in
theorem regCheck (l : List Pers) (hl : l.length ≤ 1000000) (hs : ∀ p, p ∈ l → p.sized) : Fn1 Tryz.prog GT0 17 [.agg (encReg l)] (.raw (.int .i64 (regChk l))) [] := by
  by_cases h64 : 64 < l.length
  · have e : regChk l = 1 := if_pos h64
    rw [e]
    simp only [encReg]
    refine holds_of Tryz.func17 rfl rfl ?_
    refine J_run 200 ?_
    delta Tryz.f17
    repeat' (first
      | ((with_reducible refine J_draw (id := 9) 200 [] plan17_9 (by kernel_rfl) (by kernel_rfl) ?_); delta plan17_9)
      | (simp (maxSteps := 1000000) (disch := omega) only [go_sem])
      | ((with_reducible first | refine gDt ?_ ?_ | refine gDf ?_ ?_ | refine gNt ?_ ?_ | refine gNf ?_ ?_ | refine cD ?_ ?_ | refine cN ?_ ?_ | refine cB ?_ ?_ | refine gB ?_ ?_ | refine stepGuard_dect ?_ ?_ | refine stepGuard_decf ?_ ?_ | refine stepGuard_ndect ?_ ?_ | refine stepGuard_ndecf ?_ ?_ | refine stepGuard_by ?_ ?_) <;> intro h)
      | with_reducible first | refine And.intro ?_ ?_ | refine J_seq ?_ | refine J_block ?_ | refine J_inBlock ?_ | refine rC ?_ | refine rR ?_ | refine rE ?_ | refine rG ?_ | refine FinQ.now ?_ | refine FinQ.end ?_)
  simp only [encReg]
  refine holds_of Tryz.func17 rfl rfl ?_
  refine J_run 200 ?_
  delta Tryz.f17
  repeat' (first
    | ((with_reducible refine J_draw (id := 9) 200 [] plan17_9 (by kernel_rfl) (by kernel_rfl) ?_); delta plan17_9)
    | (simp (maxSteps := 1000000) (disch := omega) only [go_sem])
    | ((with_reducible first | refine gDt ?_ ?_ | refine gDf ?_ ?_ | refine gNt ?_ ?_ | refine gNf ?_ ?_ | refine cD ?_ ?_ | refine cN ?_ ?_ | refine cB ?_ ?_ | refine gB ?_ ?_ | refine stepGuard_dect ?_ ?_ | refine stepGuard_decf ?_ ?_ | refine stepGuard_ndect ?_ ?_ | refine stepGuard_ndecf ?_ ?_ | refine stepGuard_by ?_ ?_) <;> intro h)
    | with_reducible first | refine And.intro ?_ ?_ | refine J_seq ?_ | refine J_block ?_ | refine J_inBlock ?_ | refine rC ?_ | refine rR ?_ | refine rE ?_ | refine rG ?_ | refine FinQ.now ?_ | refine FinQ.end ?_)
  refine J_for (upto 3 5 ++ upto 14 37) (fun i : Nat => [(13, .raw (.int .i64 i))]) (fun i => [.box [.lst 5 (l.map encPers)]]) (fun i => i ≤ (l).length ∧ (∀ j, j < i → regErr l j = 0)) (fun i => (l).length - i) 0 ⟨by omega, by omega⟩ (.le (by simp [go_sem]) (by simp)) ?_
  rintro i ⟨hi, hpre⟩
  by_cases hlt : i < l.length
  · have hne := fun e => reg_hit (e := e) h64 hlt hpre
    have ha := regErr_at hlt
    have nxt : regErr l i = 0 → ∀ j, j < i + 1 → regErr l j = 0 := fun h0 j hj => by
      rcases Nat.lt_succ_iff_lt_or_eq.1 hj with h3 | rfl
      · exact hpre j h3
      · exact h0
    rw [ha] at hne nxt
    clear ha
    have hg := getD_Pers hlt
    have cv := persValid l[i] (hs _ (List.getElem_mem hlt))
    obtain ⟨e, he⟩ : ∃ e, persE l[i] = e := ⟨_, rfl⟩
    rw [he] at cv hne nxt
    simp only [encPers] at hg cv
    by_cases he0 : e = 0
    · subst he0
      by_cases h0 : i = 0
      · subst h0
        refine J_run 200 ?_
        repeat' (first
          | ((with_reducible refine J_draw (id := 9) 200 [] plan17_9 (by kernel_rfl) (by kernel_rfl) ?_); delta plan17_9)
          | (simp (maxSteps := 1000000) (disch := omega) only [go_sem, hg])
          | ((with_reducible refine CallA.pure cv ?_ ?_); (· simp (disch := omega) only [go_sem, hg]); rintro _ _ ⟨rfl, rfl⟩)
          | ((with_reducible first | refine gDt ?_ ?_ | refine gDf ?_ ?_ | refine gNt ?_ ?_ | refine gNf ?_ ?_ | refine cD ?_ ?_ | refine cN ?_ ?_ | refine cB ?_ ?_ | refine gB ?_ ?_ | refine stepGuard_dect ?_ ?_ | refine stepGuard_decf ?_ ?_ | refine stepGuard_ndect ?_ ?_ | refine stepGuard_ndecf ?_ ?_ | refine stepGuard_by ?_ ?_) <;> intro h)
          | with_reducible first | refine And.intro ?_ ?_ | refine J_seq ?_ | refine J_block ?_ | refine J_inBlock ?_ | refine rC ?_ | refine rR ?_ | refine rE ?_ | refine rG ?_ | refine FinQ.now ?_ | refine FinQ.end ?_)
        refine .mk 1 ⟨hlt, nxt (by simp)⟩ (by omega) (by simp [go_sem]) (by simp)
      · have hg' := getD_Pers (l := l) (i := i - 1) (by omega)
        have e1 : ((i : Int) - 1).toNat = i - 1 := by omega
        simp only [encPers] at hg'
        obtain ⟨c, hc⟩ : ∃ c, sLt (l[i - 1]'(by omega)).name l[i].name = c := ⟨_, rfl⟩
        have hc2 := hc
        unfold sLt at hc2
        rw [hc] at hne nxt
        cases c
        · rw [hne 4 (by rw [if_neg (by simp), if_pos ⟨by omega, rfl⟩]) (by decide)]
          refine J_run 200 ?_
          repeat' (first
            | ((with_reducible refine J_draw (id := 9) 200 [] plan17_9 (by kernel_rfl) (by kernel_rfl) ?_); delta plan17_9)
            | (simp (maxSteps := 1000000) (disch := omega) only [go_sem, hg, hg', e1, hc2])
            | ((with_reducible refine CallA.pure cv ?_ ?_); (· simp (disch := omega) only [go_sem, hg, hg', e1, hc2]); rintro _ _ ⟨rfl, rfl⟩)
            | ((with_reducible first | refine gDt ?_ ?_ | refine gDf ?_ ?_ | refine gNt ?_ ?_ | refine gNf ?_ ?_ | refine cD ?_ ?_ | refine cN ?_ ?_ | refine cB ?_ ?_ | refine gB ?_ ?_ | refine stepGuard_dect ?_ ?_ | refine stepGuard_decf ?_ ?_ | refine stepGuard_ndect ?_ ?_ | refine stepGuard_ndecf ?_ ?_ | refine stepGuard_by ?_ ?_) <;> intro h)
            | with_reducible first | refine And.intro ?_ ?_ | refine J_seq ?_ | refine J_block ?_ | refine J_inBlock ?_ | refine rC ?_ | refine rR ?_ | refine rE ?_ | refine rG ?_ | refine FinQ.now ?_ | refine FinQ.end ?_)
        · refine J_run 200 ?_
          repeat' (first
            | ((with_reducible refine J_draw (id := 9) 200 [] plan17_9 (by kernel_rfl) (by kernel_rfl) ?_); delta plan17_9)
            | (simp (maxSteps := 1000000) (disch := omega) only [go_sem, hg, hg', e1, hc2])
            | ((with_reducible refine CallA.pure cv ?_ ?_); (· simp (disch := omega) only [go_sem, hg, hg', e1, hc2]); rintro _ _ ⟨rfl, rfl⟩)
            | ((with_reducible first | refine gDt ?_ ?_ | refine gDf ?_ ?_ | refine gNt ?_ ?_ | refine gNf ?_ ?_ | refine cD ?_ ?_ | refine cN ?_ ?_ | refine cB ?_ ?_ | refine gB ?_ ?_ | refine stepGuard_dect ?_ ?_ | refine stepGuard_decf ?_ ?_ | refine stepGuard_ndect ?_ ?_ | refine stepGuard_ndecf ?_ ?_ | refine stepGuard_by ?_ ?_) <;> intro h)
            | with_reducible first | refine And.intro ?_ ?_ | refine J_seq ?_ | refine J_block ?_ | refine J_inBlock ?_ | refine rC ?_ | refine rR ?_ | refine rE ?_ | refine rG ?_ | refine FinQ.now ?_ | refine FinQ.end ?_)
          refine .mk (i + 1) ⟨hlt, nxt (by simp)⟩ (by omega) (by simp [go_sem]) (by simp)
    · rw [hne e (if_pos he0) he0]
      refine J_run 200 ?_
      repeat' (first
        | ((with_reducible refine J_draw (id := 9) 200 [] plan17_9 (by kernel_rfl) (by kernel_rfl) ?_); delta plan17_9)
        | (simp (maxSteps := 1000000) (disch := omega) only [go_sem, hg, he0])
        | ((with_reducible refine CallA.pure cv ?_ ?_); (· simp (disch := omega) only [go_sem, hg, he0]); rintro _ _ ⟨rfl, rfl⟩)
        | ((with_reducible first | refine gDt ?_ ?_ | refine gDf ?_ ?_ | refine gNt ?_ ?_ | refine gNf ?_ ?_ | refine cD ?_ ?_ | refine cN ?_ ?_ | refine cB ?_ ?_ | refine gB ?_ ?_ | refine stepGuard_dect ?_ ?_ | refine stepGuard_decf ?_ ?_ | refine stepGuard_ndect ?_ ?_ | refine stepGuard_ndecf ?_ ?_ | refine stepGuard_by ?_ ?_) <;> intro h)
        | with_reducible first | refine And.intro ?_ ?_ | refine J_seq ?_ | refine J_block ?_ | refine J_inBlock ?_ | refine rC ?_ | refine rR ?_ | refine rE ?_ | refine rG ?_ | refine FinQ.now ?_ | refine FinQ.end ?_)
  · have e : regChk l = 0 := by
      unfold regChk
      rw [if_neg h64]
      exact firstE_none fun j hj => hpre j (by omega)
    rw [e]
    refine J_run 200 ?_
    repeat' (first
      | ((with_reducible refine J_draw (id := 9) 200 [] plan17_9 (by kernel_rfl) (by kernel_rfl) ?_); delta plan17_9)
      | (simp (maxSteps := 1000000) (disch := omega) only [go_sem])
      | ((with_reducible first | refine gDt ?_ ?_ | refine gDf ?_ ?_ | refine gNt ?_ ?_ | refine gNf ?_ ?_ | refine cD ?_ ?_ | refine cN ?_ ?_ | refine cB ?_ ?_ | refine gB ?_ ?_ | refine stepGuard_dect ?_ ?_ | refine stepGuard_decf ?_ ?_ | refine stepGuard_ndect ?_ ?_ | refine stepGuard_ndecf ?_ ?_ | refine stepGuard_by ?_ ?_) <;> intro h)
      | with_reducible first | refine And.intro ?_ ?_ | refine J_seq ?_ | refine J_block ?_ | refine J_inBlock ?_ | refine rC ?_ | refine rR ?_ | refine rE ?_ | refine rG ?_ | refine FinQ.now ?_ | refine FinQ.end ?_)
theorem index1 (p : Pers) (s : ByteArray) : Fn1 Tryz.prog GT0 121 [.agg (encPers p), .cptr [.raw (.string s)]] (.raw (.bool (decide (p.name = s)))) [] := by
  simp only [encPers]
  refine holds_of Tryz.func121 rfl rfl ?_
  refine J_run 200 ?_
  delta Tryz.f121
  repeat' (first
    | (simp (maxSteps := 1000000) (disch := omega) only [go_sem])
    | ((with_reducible first | refine gDt ?_ ?_ | refine gDf ?_ ?_ | refine gNt ?_ ?_ | refine gNf ?_ ?_ | refine cD ?_ ?_ | refine cN ?_ ?_ | refine cB ?_ ?_ | refine gB ?_ ?_) <;> intro h)
    | with_reducible first | refine And.intro ?_ ?_ | refine J_seq ?_ | refine J_block ?_ | refine J_inBlock ?_ | refine rC ?_ | refine rR ?_ | refine rE ?_ | refine rG ?_ | refine FinQ.now ?_ | refine FinQ.end ?_)
theorem regIndex (l : List Pers) (hl : l.length ≤ 1000000) (s : ByteArray) : Fn1 Tryz.prog GT0 97 [.agg (encReg l), .raw (.string s)] (.raw (.int .i64 (firstAt (fun p => decide (p.name = s)) l))) [] := by
  have c := indexFuncP l 121 [.cptr [.raw (.string s)]] rfl (fun p => decide (p.name = s)) (by omega) fun p _ => index1 p s
  simp only [encReg]
  refine holds_of Tryz.func97 rfl rfl ?_
  refine J_run 200 ?_
  delta Tryz.f97
  repeat' (first
    | (simp (maxSteps := 1000000) (disch := omega) only [go_sem])
    | ((with_reducible refine CallA.give [1] ?_ ?_ c ?_); (· simp (disch := omega) only [go_sem]); (· simp (disch := omega) only [go_sem]); rintro _ _ ⟨rfl, rfl⟩)
    | ((with_reducible first | refine gDt ?_ ?_ | refine gDf ?_ ?_ | refine gNt ?_ ?_ | refine gNf ?_ ?_ | refine cD ?_ ?_ | refine cN ?_ ?_ | refine cB ?_ ?_ | refine gB ?_ ?_) <;> intro h)
    | with_reducible first | refine And.intro ?_ ?_ | refine J_seq ?_ | refine J_block ?_ | refine J_inBlock ?_ | refine rC ?_ | refine rR ?_ | refine rE ?_ | refine rG ?_ | refine FinQ.now ?_ | refine FinQ.end ?_)
theorem regFindF (l : List Pers) (hl : l.length ≤ 1000000) (hs : ∀ p, p ∈ l → p.sized) (s : ByteArray) : Fn1 Tryz.prog GT0 61 [.agg (encReg l), .raw (.string s)] (.raw (.int .i64 (regFind l s))) [] := by
  have cc := regCheck l hl hs
  have ci := regIndex l hl s
  unfold regFind
  by_cases h : regChk l = 0
  · rw [if_neg (by simp [h])]
    rw [h] at cc
    simp only [encReg] at cc ci ⊢
    refine holds_of Tryz.func61 rfl rfl ?_
    refine J_run 200 ?_
    delta Tryz.f61
    repeat' (first
      | (simp (maxSteps := 1000000) (disch := omega) only [go_sem])
      | ((with_reducible refine CallA.pure cc ?_ ?_); (· simp (disch := omega) only [go_sem]); rintro _ _ ⟨rfl, rfl⟩)
      | ((with_reducible refine CallA.pure ci ?_ ?_); (· simp (disch := omega) only [go_sem]); rintro _ _ ⟨rfl, rfl⟩)
      | ((with_reducible first | refine gDt ?_ ?_ | refine gDf ?_ ?_ | refine gNt ?_ ?_ | refine gNf ?_ ?_ | refine cD ?_ ?_ | refine cN ?_ ?_ | refine cB ?_ ?_ | refine gB ?_ ?_) <;> intro h)
      | with_reducible first | refine And.intro ?_ ?_ | refine J_seq ?_ | refine J_block ?_ | refine J_inBlock ?_ | refine rC ?_ | refine rR ?_ | refine rE ?_ | refine rG ?_ | refine FinQ.now ?_ | refine FinQ.end ?_)
  · rw [if_pos h]
    simp only [encReg] at cc ci ⊢
    refine holds_of Tryz.func61 rfl rfl ?_
    refine J_run 200 ?_
    delta Tryz.f61
    repeat' (first
      | (simp (maxSteps := 1000000) (disch := omega) only [go_sem, h])
      | ((with_reducible refine CallA.pure cc ?_ ?_); (· simp (disch := omega) only [go_sem, h]); rintro _ _ ⟨rfl, rfl⟩)
      | ((with_reducible refine CallA.pure ci ?_ ?_); (· simp (disch := omega) only [go_sem, h]); rintro _ _ ⟨rfl, rfl⟩)
      | ((with_reducible first | refine gDt ?_ ?_ | refine gDf ?_ ?_ | refine gNt ?_ ?_ | refine gNf ?_ ?_ | refine cD ?_ ?_ | refine cN ?_ ?_ | refine cB ?_ ?_ | refine gB ?_ ?_) <;> intro h)
      | with_reducible first | refine And.intro ?_ ?_ | refine J_seq ?_ | refine J_block ?_ | refine J_inBlock ?_ | refine rC ?_ | refine rR ?_ | refine rE ?_ | refine rG ?_ | refine FinQ.now ?_ | refine FinQ.end ?_)
theorem regFind_lt {l : List Pers} {s : ByteArray} (h : 0 ≤ regFind l s) : (regFind l s).toNat < l.length ∧ regFind l s = ((regFind l s).toNat : Int) := by
  refine ⟨?_, (Int.toNat_of_nonneg h).symm⟩
  unfold regFind at h ⊢
  by_cases h0 : regChk l ≠ 0
  · rw [if_pos h0] at h; omega
  · rw [if_neg h0] at h ⊢
    have := firstAt_lt l h
    omega
set_option maxHeartbeats 4000000 in
theorem canF (l : List Pers) (hl : l.length ≤ 1000000) (hs : ∀ p, p ∈ l → p.sized) (s : ByteArray) (k t : Int) (hk : inI k) : Fn1 Tryz.prog GT0 20 [.agg (encReg l), .raw (.string s), .raw (.int .i64 k), .raw (.int .i64 t)] (.raw (.bool (canB l s k t))) [] := by
  have cf := regFindF l hl hs s
  have hm := low5 hk
  by_cases h0 : 0 ≤ regFind l s
  · obtain ⟨h1, h2⟩ := regFind_lt h0
    have hg := getD_Pers h1
    have hd : canB l s k t = (decide (1 ≤ k ∧ k ≤ 31) && canAt l[(regFind l s).toNat] k t) := by
      unfold canB
      rw [decide_eq_true h0, getD_get h1, Bool.true_and]
    rw [hd]
    unfold canAt
    obtain ⟨i, hi⟩ : ∃ i, (regFind l s).toNat = i := ⟨_, rfl⟩
    rw [h2] at cf
    simp only [hi] at cf hg ⊢
    simp only [encReg, encPers] at cf hg ⊢
    by_cases hkr : 1 ≤ k ∧ k ≤ 31
    · rw [decide_eq_true hkr, Bool.true_and]
      refine holds_of Tryz.func20 rfl rfl ?_
      refine J_run 200 ?_
      delta Tryz.f20
      repeat' (first
        | (simp (maxSteps := 1000000) (disch := omega) only [go_sem, hg])
        | ((with_reducible refine CallA.pure cf ?_ ?_); (· simp (disch := omega) only [go_sem, hg]); rintro _ _ ⟨rfl, rfl⟩)
        | ((with_reducible first | refine gDt ?_ ?_ | refine gDf ?_ ?_ | refine gNt ?_ ?_ | refine gNf ?_ ?_ | refine cD ?_ ?_ | refine cN ?_ ?_ | refine cB ?_ ?_ | refine gB ?_ ?_) <;> intro h)
        | with_reducible first | refine And.intro ?_ ?_ | refine J_seq ?_ | refine J_block ?_ | refine J_inBlock ?_ | refine rC ?_ | refine rR ?_ | refine rE ?_ | refine rG ?_ | refine FinQ.now ?_ | refine FinQ.end ?_)
      all_goals first
        | (exact absurd (hm.2 ⟨by omega, by omega⟩) (by assumption))
        | (exfalso; clear hm; omega)
        | (have h3 : andI l[i].skills k = k := by assumption
           rename_i h
           simp [h3, h])
        | (have h3 : ¬ andI l[i].skills k = k := by assumption
           simp [h3])
        | trace_state
    · rw [decide_eq_false hkr, Bool.false_and]
      refine holds_of Tryz.func20 rfl rfl ?_
      refine J_run 200 ?_
      delta Tryz.f20
      repeat' (first
        | (simp (maxSteps := 1000000) (disch := omega) only [go_sem, hg])
        | ((with_reducible refine CallA.pure cf ?_ ?_); (· simp (disch := omega) only [go_sem, hg]); rintro _ _ ⟨rfl, rfl⟩)
        | ((with_reducible first | refine gDt ?_ ?_ | refine gDf ?_ ?_ | refine gNt ?_ ?_ | refine gNf ?_ ?_ | refine cD ?_ ?_ | refine cN ?_ ?_ | refine cB ?_ ?_ | refine gB ?_ ?_) <;> intro h)
        | with_reducible first | refine And.intro ?_ ?_ | refine J_seq ?_ | refine J_block ?_ | refine J_inBlock ?_ | refine rC ?_ | refine rR ?_ | refine rE ?_ | refine rG ?_ | refine FinQ.now ?_ | refine FinQ.end ?_)
      all_goals first
        | rfl
        | (have := hm.1 (by assumption); clear hm; exfalso; omega)
        | trace_state
  · have hd : canB l s k t = false := by unfold canB; rw [decide_eq_false h0]; rfl
    rw [hd]
    obtain ⟨i, hi⟩ : ∃ i, regFind l s = i := ⟨_, rfl⟩
    rw [hi] at cf h0
    simp only [encReg] at cf ⊢
    refine holds_of Tryz.func20 rfl rfl ?_
    refine J_run 200 ?_
    delta Tryz.f20
    repeat' (first
      | (simp (maxSteps := 1000000) (disch := omega) only [go_sem])
      | ((with_reducible refine CallA.pure cf ?_ ?_); (· simp (disch := omega) only [go_sem]); rintro _ _ ⟨rfl, rfl⟩)
      | ((with_reducible first | refine gDt ?_ ?_ | refine gDf ?_ ?_ | refine gNt ?_ ?_ | refine gNf ?_ ?_ | refine cD ?_ ?_ | refine cN ?_ ?_ | refine cB ?_ ?_ | refine gB ?_ ?_) <;> intro h)
      | with_reducible first | refine And.intro ?_ ?_ | refine J_seq ?_ | refine J_block ?_ | refine J_inBlock ?_ | refine rC ?_ | refine rR ?_ | refine rE ?_ | refine rG ?_ | refine FinQ.now ?_ | refine FinQ.end ?_)
end Go.Proofs.YtmfgaefefgnhbaaGreatDoor.Abs
namespace Go.Proofs.YtmfgaefefgnhbaaGreatDoor.Abs
set_option linter.unusedSimpArgs false
set_option linter.unusedVariables false
set_option maxRecDepth 100000
open Go Go.RowKit

theorem cNumbered (k : Int) : Fn1 Tryz.prog GT0 83 [.raw (.int .i64 k)] (.raw (.bool (decide (1 ≤ k ∧ k ≤ 65536)))) [] := by
  refine holds_of Tryz.func83 rfl rfl ?_
  refine J_run 200 ?_
  delta Tryz.f83
  repeat' (first
    | (simp (maxSteps := 1000000) (disch := omega) only [go_sem])
    | ((with_reducible first | refine gDt ?_ ?_ | refine gDf ?_ ?_ | refine gNt ?_ ?_ | refine gNf ?_ ?_ | refine cD ?_ ?_ | refine cN ?_ ?_ | refine cB ?_ ?_ | refine gB ?_ ?_) <;> intro h)
    | with_reducible first | refine And.intro ?_ ?_ | refine J_seq ?_ | refine J_block ?_ | refine J_inBlock ?_ | refine rC ?_ | refine rR ?_ | refine rE ?_ | refine rG ?_ | refine FinQ.now ?_ | refine FinQ.end ?_)
  all_goals first | (simp_all []; done) | (simp_all []; omega) | omega
theorem cCompany (k : Int) : Fn1 Tryz.prog GT0 16 [.raw (.int .i64 k)] (.raw (.bool (decide (0 ≤ k ∧ k ≤ 7)))) [] := by
  refine holds_of Tryz.func16 rfl rfl ?_
  refine J_run 200 ?_
  delta Tryz.f16
  repeat' (first
    | (simp (maxSteps := 1000000) (disch := omega) only [go_sem])
    | ((with_reducible first | refine gDt ?_ ?_ | refine gDf ?_ ?_ | refine gNt ?_ ?_ | refine gNf ?_ ?_ | refine cD ?_ ?_ | refine cN ?_ ?_ | refine cB ?_ ?_ | refine gB ?_ ?_) <;> intro h)
    | with_reducible first | refine And.intro ?_ ?_ | refine J_seq ?_ | refine J_block ?_ | refine J_inBlock ?_ | refine rC ?_ | refine rR ?_ | refine rE ?_ | refine rG ?_ | refine FinQ.now ?_ | refine FinQ.end ?_)
  all_goals first | (simp_all []; done) | (simp_all []; omega) | omega
theorem lockChk_dev {n : Net} {l : List Lk} (h : lockChk n l = 0) : ∀ k, k ∈ l → 0 ≤ k.dev ∧ k.dev < n.devs.length := fun k hk => by
  have := (locks_iff.1 h).each k hk
  unfold lErr at this
  split at this
  · cases this
  · omega
theorem certificate1 (n : Net) (c : Cert) (k : Lk) (h0 : 0 ≤ k.dev) (h1 : k.dev < n.devs.length) : Fn1 Tryz.prog GT0 114 [.agg (encLk k), .cptr (encNet n), .cptr (encCert c)] (.raw (.bool (decide (compOf n k ≠ c.giver)))) [] := by
  have hl : k.dev.toNat < n.devs.length := by omega
  have e : ((k.dev.toNat : Nat) : Int) = k.dev := by omega
  have hg := getD_Dv hl
  unfold compOf
  rw [getD_get hl]
  simp only [encLk, encNet, encCert, encDv] at hg ⊢
  refine holds_of Tryz.func114 rfl rfl ?_
  refine J_run 200 ?_
  delta Tryz.f114
  repeat' (first
    | ((with_reducible refine J_draw (id := 1) 200 [] plan114_1 (by kernel_rfl) (by kernel_rfl) ?_); delta plan114_1)
    | (simp (maxSteps := 1000000) (disch := omega) only [go_sem, hg])
    | ((with_reducible first | refine gDt ?_ ?_ | refine gDf ?_ ?_ | refine gNt ?_ ?_ | refine gNf ?_ ?_ | refine cD ?_ ?_ | refine cN ?_ ?_ | refine cB ?_ ?_ | refine gB ?_ ?_ | refine stepGuard_dect ?_ ?_ | refine stepGuard_decf ?_ ?_ | refine stepGuard_ndect ?_ ?_ | refine stepGuard_ndecf ?_ ?_ | refine stepGuard_by ?_ ?_) <;> intro h)
    | with_reducible first | refine And.intro ?_ ?_ | refine J_seq ?_ | refine J_block ?_ | refine J_inBlock ?_ | refine rC ?_ | refine rR ?_ | refine rE ?_ | refine rG ?_ | refine FinQ.now ?_ | refine FinQ.end ?_)
  all_goals first | (rw [Bool.eq_iff_iff]; simp []; omega) | (simp_all []; done) | (rw [Bool.eq_iff_iff]; simp_all []; omega) | (simp_all []; omega) | omega
set_option maxHeartbeats 4000000 in
theorem certificateF (n : Net) (hs : n.sized) (c : Cert) (hc : c.locks.length ≤ 1000000) : Fn1 Tryz.prog GT0 82 [.agg (encNet n), .agg (encCert c)] (.raw (.bool (certB n c))) [] := by
  have c1 := cNumbered c.num
  have c2 := cCompany c.asker
  have c3 := cCompany c.giver
  have cl := lockCheck n hs c.locks hc
  by_cases hh : certHead c = true
  · have hh2 := of_decide_eq_true hh
    by_cases h0 : lockChk n c.locks = 0
    · have hd := lockChk_dev h0
      have cf := containsFuncL c.locks 114 [.cptr (encNet n), .cptr (encCert c)] rfl (fun k => decide (compOf n k ≠ c.giver)) (by omega) fun k hk => certificate1 n c k (hd k hk).1 (hd k hk).2
      have e : certB n c = !(c.locks.any fun k => decide (compOf n k ≠ c.giver)) := by unfold certB; rw [hh, decide_eq_true h0]; rfl
      rw [e]
      rw [h0] at cl
      obtain ⟨b, hb⟩ : ∃ b, (c.locks.any fun k => decide (compOf n k ≠ c.giver)) = b := ⟨_, rfl⟩
      rw [hb] at cf ⊢
      rw [decide_eq_true (by omega)] at c1 c2 c3
      simp only [encNet, encCert] at cl cf ⊢
      refine holds_of Tryz.func82 rfl rfl ?_
      refine J_run 200 ?_
      delta Tryz.f82
      repeat' (first
        | (simp (maxSteps := 1000000) (disch := omega) only [go_sem])
        | ((with_reducible refine CallA.pure c1 ?_ ?_); (· simp (disch := omega) only [go_sem]); rintro _ _ ⟨rfl, rfl⟩)
        | ((with_reducible refine CallA.pure c2 ?_ ?_); (· simp (disch := omega) only [go_sem]); rintro _ _ ⟨rfl, rfl⟩)
        | ((with_reducible refine CallA.pure c3 ?_ ?_); (· simp (disch := omega) only [go_sem]); rintro _ _ ⟨rfl, rfl⟩)
        | ((with_reducible refine CallA.pure cl ?_ ?_); (· simp (disch := omega) only [go_sem]); rintro _ _ ⟨rfl, rfl⟩)
        | ((with_reducible refine CallA.give [0,1] ?_ ?_ cf ?_); (· simp (disch := omega) only [go_sem]); (· simp (disch := omega) only [go_sem]); rintro _ _ ⟨rfl, rfl⟩)
        | ((with_reducible first | refine gDt ?_ ?_ | refine gDf ?_ ?_ | refine gNt ?_ ?_ | refine gNf ?_ ?_ | refine cD ?_ ?_ | refine cN ?_ ?_ | refine cB ?_ ?_ | refine gB ?_ ?_) <;> intro h)
        | with_reducible first | refine And.intro ?_ ?_ | refine J_seq ?_ | refine J_block ?_ | refine J_inBlock ?_ | refine rC ?_ | refine rR ?_ | refine rE ?_ | refine rG ?_ | refine FinQ.now ?_ | refine FinQ.end ?_)
    · have e : certB n c = false := by unfold certB; rw [decide_eq_false h0, Bool.and_false, Bool.false_and]
      rw [e]
      rw [decide_eq_true (by omega)] at c1 c2 c3
      simp only [encNet, encCert] at cl ⊢
      refine holds_of Tryz.func82 rfl rfl ?_
      refine J_run 200 ?_
      delta Tryz.f82
      repeat' (first
        | (simp (maxSteps := 1000000) (disch := omega) only [go_sem, h0])
        | ((with_reducible refine CallA.pure c1 ?_ ?_); (· simp (disch := omega) only [go_sem, h0]); rintro _ _ ⟨rfl, rfl⟩)
        | ((with_reducible refine CallA.pure c2 ?_ ?_); (· simp (disch := omega) only [go_sem, h0]); rintro _ _ ⟨rfl, rfl⟩)
        | ((with_reducible refine CallA.pure c3 ?_ ?_); (· simp (disch := omega) only [go_sem, h0]); rintro _ _ ⟨rfl, rfl⟩)
        | ((with_reducible refine CallA.pure cl ?_ ?_); (· simp (disch := omega) only [go_sem, h0]); rintro _ _ ⟨rfl, rfl⟩)
        | ((with_reducible first | refine gDt ?_ ?_ | refine gDf ?_ ?_ | refine gNt ?_ ?_ | refine gNf ?_ ?_ | refine cD ?_ ?_ | refine cN ?_ ?_ | refine cB ?_ ?_ | refine gB ?_ ?_) <;> intro h)
        | with_reducible first | refine And.intro ?_ ?_ | refine J_seq ?_ | refine J_block ?_ | refine J_inBlock ?_ | refine rC ?_ | refine rR ?_ | refine rE ?_ | refine rG ?_ | refine FinQ.now ?_ | refine FinQ.end ?_)
  · have e : certB n c = false := by unfold certB; rw [Bool.not_eq_true _ |>.mp hh]; rfl
    rw [e]
    have hh2 : ¬ _ := fun h => hh (decide_eq_true h)
    simp only [encNet, encCert] at cl ⊢
    refine holds_of Tryz.func82 rfl rfl ?_
    refine J_run 200 ?_
    delta Tryz.f82
    repeat' (first
      | (simp (maxSteps := 1000000) (disch := omega) only [go_sem])
      | ((with_reducible refine CallA.pure c1 ?_ ?_); (· simp (disch := omega) only [go_sem]); rintro _ _ ⟨rfl, rfl⟩)
      | ((with_reducible refine CallA.pure c2 ?_ ?_); (· simp (disch := omega) only [go_sem]); rintro _ _ ⟨rfl, rfl⟩)
      | ((with_reducible refine CallA.pure c3 ?_ ?_); (· simp (disch := omega) only [go_sem]); rintro _ _ ⟨rfl, rfl⟩)
      | ((with_reducible first | refine gDt ?_ ?_ | refine gDf ?_ ?_ | refine gNt ?_ ?_ | refine gNf ?_ ?_ | refine cD ?_ ?_ | refine cN ?_ ?_ | refine cB ?_ ?_ | refine gB ?_ ?_) <;> intro h)
      | with_reducible first | refine And.intro ?_ ?_ | refine J_seq ?_ | refine J_block ?_ | refine J_inBlock ?_ | refine rC ?_ | refine rR ?_ | refine rE ?_ | refine rG ?_ | refine FinQ.now ?_ | refine FinQ.end ?_)
theorem allTo_next {f : Nat → Bool} {i : Nat} (hpre : ∀ j, j < i → f j = true) (h : f i = true) : ∀ j, j < i + 1 → f j = true := fun j hj => by
  rcases Nat.lt_succ_iff_lt_or_eq.1 hj with h3 | rfl
  · exact hpre j h3
  · exact h
theorem certAt_at {n : Net} {l : List Cert} {i : Nat} (hi : i < l.length) : certAt n l i = (certB n l[i] && (decide (i = 0) || certLt (l[i - 1]'(by omega)) l[i])) := by
  unfold certAt
  rw [getD_get hi, getD_get (show i - 1 < l.length by omega)]
theorem certsB_no {n : Net} {l : List Cert} {i : Nat} (hi : i < l.length) (h : certAt n l i = false) : certsB n l = false := by
  unfold certsB
  rw [allTo_hit hi h]
  rfl
theorem certsB_yes {n : Net} {l : List Cert} (h : ∀ j, j < l.length → certAt n l j = true) : certsB n l = decide (l.length ≤ 16) := by
  unfold certsB
  rw [allTo_true.2 h, Bool.true_and]
set_option maxHeartbeats 8000000 in
theorem certificatesF (n : Net) (hs : n.sized) (l : List Cert) (hl : l.length ≤ 1000000) (hx : ∀ c, c ∈ l → c.locks.length ≤ 1000000) : Fn1 Tryz.prog GT0 44 [.agg (encNet n), .lst 5 (l.map encCert)] (.raw (.bool (certsB n l))) [] := by
  simp only [encNet]
  refine holds_of Tryz.func44 rfl rfl ?_
  refine J_run 200 ?_
  delta Tryz.f44
  repeat' (first
    | ((with_reducible refine J_draw (id := 4) 200 [] plan44_4 (by kernel_rfl) (by kernel_rfl) ?_); delta plan44_4)
    | (simp (maxSteps := 1000000) (disch := omega) only [go_sem])
    | ((with_reducible first | refine gDt ?_ ?_ | refine gDf ?_ ?_ | refine gNt ?_ ?_ | refine gNf ?_ ?_ | refine cD ?_ ?_ | refine cN ?_ ?_ | refine cB ?_ ?_ | refine gB ?_ ?_ | refine stepGuard_dect ?_ ?_ | refine stepGuard_decf ?_ ?_ | refine stepGuard_ndect ?_ ?_ | refine stepGuard_ndecf ?_ ?_ | refine stepGuard_by ?_ ?_) <;> intro h)
    | with_reducible first | refine And.intro ?_ ?_ | refine J_seq ?_ | refine J_block ?_ | refine J_inBlock ?_ | refine rC ?_ | refine rR ?_ | refine rE ?_ | refine rG ?_ | refine FinQ.now ?_ | refine FinQ.end ?_)
  refine J_for ([5, 6] ++ upto 10 55) (fun i : Nat => [(9, .raw (.int .i64 i))]) (fun i => [.box [.lst 3 (n.nodes.map encNd), .lst 5 (n.devs.map encDv)]]) (fun i => i ≤ (l).length ∧ (∀ j, j < i → certAt n l j = true)) (fun i => (l).length - i) 0 ⟨by omega, by omega⟩ (.le (by simp [go_sem]) (by simp)) ?_
  rintro i ⟨hi, hpre⟩
  by_cases hlt : i < l.length
  · have hno := certsB_no (n := n) hlt
    have hyes := allTo_next hpre
    have ha := certAt_at (n := n) hlt
    have cc := certificateF n hs l[i] (hx _ (List.getElem_mem hlt))
    have hg := getD_Cert hlt
    obtain ⟨b, hb⟩ : ∃ b, certB n l[i] = b := ⟨_, rfl⟩
    rw [hb] at cc ha
    simp only [encNet, encCert] at cc hg
    cases b
    · rw [hno ha]
      refine J_run 200 ?_
      repeat' (first
        | ((with_reducible refine J_draw (id := 4) 200 [] plan44_4 (by kernel_rfl) (by kernel_rfl) ?_); delta plan44_4)
        | (simp (maxSteps := 1000000) (disch := omega) only [go_sem, hg])
        | ((with_reducible refine CallA.pure cc ?_ ?_); (· simp (disch := omega) only [go_sem, hg]); rintro _ _ ⟨rfl, rfl⟩)
        | ((with_reducible first | refine gDt ?_ ?_ | refine gDf ?_ ?_ | refine gNt ?_ ?_ | refine gNf ?_ ?_ | refine cD ?_ ?_ | refine cN ?_ ?_ | refine cB ?_ ?_ | refine gB ?_ ?_ | refine stepGuard_dect ?_ ?_ | refine stepGuard_decf ?_ ?_ | refine stepGuard_ndect ?_ ?_ | refine stepGuard_ndecf ?_ ?_ | refine stepGuard_by ?_ ?_) <;> intro h)
        | with_reducible first | refine And.intro ?_ ?_ | refine J_seq ?_ | refine J_block ?_ | refine J_inBlock ?_ | refine rC ?_ | refine rR ?_ | refine rE ?_ | refine rG ?_ | refine FinQ.now ?_ | refine FinQ.end ?_)
    by_cases h0 : i = 0
    · subst h0
      rw [decide_eq_true rfl, Bool.true_or, Bool.and_true] at ha
      refine J_run 200 ?_
      repeat' (first
        | ((with_reducible refine J_draw (id := 4) 200 [] plan44_4 (by kernel_rfl) (by kernel_rfl) ?_); delta plan44_4)
        | (simp (maxSteps := 1000000) (disch := omega) only [go_sem, hg])
        | ((with_reducible refine CallA.pure cc ?_ ?_); (· simp (disch := omega) only [go_sem, hg]); rintro _ _ ⟨rfl, rfl⟩)
        | ((with_reducible first | refine gDt ?_ ?_ | refine gDf ?_ ?_ | refine gNt ?_ ?_ | refine gNf ?_ ?_ | refine cD ?_ ?_ | refine cN ?_ ?_ | refine cB ?_ ?_ | refine gB ?_ ?_ | refine stepGuard_dect ?_ ?_ | refine stepGuard_decf ?_ ?_ | refine stepGuard_ndect ?_ ?_ | refine stepGuard_ndecf ?_ ?_ | refine stepGuard_by ?_ ?_) <;> intro h)
        | with_reducible first | refine And.intro ?_ ?_ | refine J_seq ?_ | refine J_block ?_ | refine J_inBlock ?_ | refine rC ?_ | refine rR ?_ | refine rE ?_ | refine rG ?_ | refine FinQ.now ?_ | refine FinQ.end ?_)
      refine .mk 1 ⟨hlt, hyes ha⟩ (by omega) (by simp [go_sem]) (by simp)
    · have hg' := getD_Cert (l := l) (i := i - 1) (by omega)
      have e1 : ((i : Int) - 1).toNat = i - 1 := by omega
      simp only [encCert] at hg'
      rw [decide_eq_false h0, Bool.false_or, Bool.true_and] at ha
      unfold certLt at ha
      rw [ha] at hno hyes
      refine J_run 200 ?_
      repeat' (first
        | ((with_reducible refine J_draw (id := 4) 200 [] plan44_4 (by kernel_rfl) (by kernel_rfl) ?_); delta plan44_4)
        | (simp (maxSteps := 1000000) (disch := omega) only [go_sem, hg, hg', e1])
        | ((with_reducible refine CallA.pure cc ?_ ?_); (· simp (disch := omega) only [go_sem, hg, hg', e1]); rintro _ _ ⟨rfl, rfl⟩)
        | ((with_reducible first | refine gDt ?_ ?_ | refine gDf ?_ ?_ | refine gNt ?_ ?_ | refine gNf ?_ ?_ | refine cD ?_ ?_ | refine cN ?_ ?_ | refine cB ?_ ?_ | refine gB ?_ ?_ | refine stepGuard_dect ?_ ?_ | refine stepGuard_decf ?_ ?_ | refine stepGuard_ndect ?_ ?_ | refine stepGuard_ndecf ?_ ?_ | refine stepGuard_by ?_ ?_) <;> intro h)
        | with_reducible first | refine And.intro ?_ ?_ | refine J_seq ?_ | refine J_block ?_ | refine J_inBlock ?_ | refine rC ?_ | refine rR ?_ | refine rE ?_ | refine rG ?_ | refine FinQ.now ?_ | refine FinQ.end ?_)
      all_goals first
        | (rw [hno (decide_eq_false (by omega))]; done)
        | (refine .mk (i + 1) ⟨hlt, hyes (decide_eq_true (by omega))⟩ (by omega) (by simp [go_sem]) (by simp))
        | trace_state
  · rw [certsB_yes fun j hj => hpre j (by omega)]
    refine J_run 200 ?_
    repeat' (first
      | ((with_reducible refine J_draw (id := 4) 200 [] plan44_4 (by kernel_rfl) (by kernel_rfl) ?_); delta plan44_4)
      | (simp (maxSteps := 1000000) (disch := omega) only [go_sem])
      | ((with_reducible first | refine gDt ?_ ?_ | refine gDf ?_ ?_ | refine gNt ?_ ?_ | refine gNf ?_ ?_ | refine cD ?_ ?_ | refine cN ?_ ?_ | refine cB ?_ ?_ | refine gB ?_ ?_ | refine stepGuard_dect ?_ ?_ | refine stepGuard_decf ?_ ?_ | refine stepGuard_ndect ?_ ?_ | refine stepGuard_ndecf ?_ ?_ | refine stepGuard_by ?_ ?_) <;> intro h)
      | with_reducible first | refine And.intro ?_ ?_ | refine J_seq ?_ | refine J_block ?_ | refine J_inBlock ?_ | refine rC ?_ | refine rR ?_ | refine rE ?_ | refine rG ?_ | refine FinQ.now ?_ | refine FinQ.end ?_)
    rw [decide_eq_decide]; omega
theorem ordAt_at {l : List Ord} {i : Nat} (hi : i < l.length) : ordAt l i = (decide (1 ≤ l[i].num ∧ l[i].num ≤ 65536) && (decide (i = 0) || decide ((l[i - 1]'(by omega)).num < l[i].num))) := by
  unfold ordAt
  rw [getD_get hi, getD_get (show i - 1 < l.length by omega)]
theorem ordsB_no {l : List Ord} {i : Nat} (hi : i < l.length) (h : ordAt l i = false) : ordsB l = false := by
  unfold ordsB
  rw [allTo_hit hi h]
  rfl
theorem ordsB_yes {l : List Ord} (h : ∀ j, j < l.length → ordAt l j = true) : ordsB l = decide (l.length ≤ 64) := by
  unfold ordsB
  rw [allTo_true.2 h, Bool.true_and]
set_option maxHeartbeats 4000000 in
theorem ordersF (l : List Ord) (hl : l.length ≤ 1000000) : Fn1 Tryz.prog GT0 45 [.lst 8 (l.map encOrd)] (.raw (.bool (ordsB l))) [] := by
  refine holds_of Tryz.func45 rfl rfl ?_
  refine J_run 200 ?_
  delta Tryz.f45
  repeat' (first
    | ((with_reducible refine J_draw (id := 4) 200 [] plan45_4 (by kernel_rfl) (by kernel_rfl) ?_); delta plan45_4)
    | (simp (maxSteps := 1000000) (disch := omega) only [go_sem])
    | ((with_reducible first | refine gDt ?_ ?_ | refine gDf ?_ ?_ | refine gNt ?_ ?_ | refine gNf ?_ ?_ | refine cD ?_ ?_ | refine cN ?_ ?_ | refine cB ?_ ?_ | refine gB ?_ ?_ | refine stepGuard_dect ?_ ?_ | refine stepGuard_decf ?_ ?_ | refine stepGuard_ndect ?_ ?_ | refine stepGuard_ndecf ?_ ?_ | refine stepGuard_by ?_ ?_) <;> intro h)
    | with_reducible first | refine And.intro ?_ ?_ | refine J_seq ?_ | refine J_block ?_ | refine J_inBlock ?_ | refine rC ?_ | refine rR ?_ | refine rE ?_ | refine rG ?_ | refine FinQ.now ?_ | refine FinQ.end ?_)
  refine J_for ([3, 4] ++ upto 8 31) (fun i : Nat => [(7, .raw (.int .i64 i))]) (fun i => []) (fun i => i ≤ (l).length ∧ (∀ j, j < i → ordAt l j = true)) (fun i => (l).length - i) 0 ⟨by omega, by omega⟩ (.le (by simp [go_sem]) (by simp)) ?_
  rintro i ⟨hi, hpre⟩
  by_cases hlt : i < l.length
  · have hno := ordsB_no hlt
    have hyes := allTo_next hpre
    have ha := ordAt_at hlt
    rw [ha] at hno hyes
    clear ha
    have hg := getD_Ord hlt
    have cc := cNumbered l[i].num
    simp only [encOrd] at hg
    by_cases hn : 1 ≤ l[i].num ∧ l[i].num ≤ 65536
    · rw [decide_eq_true hn] at cc
      by_cases h0 : i = 0
      · subst h0
        refine J_run 200 ?_
        repeat' (first
          | ((with_reducible refine J_draw (id := 4) 200 [] plan45_4 (by kernel_rfl) (by kernel_rfl) ?_); delta plan45_4)
          | (simp (maxSteps := 1000000) (disch := omega) only [go_sem, hg])
          | ((with_reducible refine CallA.pure cc ?_ ?_); (· simp (disch := omega) only [go_sem, hg]); rintro _ _ ⟨rfl, rfl⟩)
          | ((with_reducible first | refine gDt ?_ ?_ | refine gDf ?_ ?_ | refine gNt ?_ ?_ | refine gNf ?_ ?_ | refine cD ?_ ?_ | refine cN ?_ ?_ | refine cB ?_ ?_ | refine gB ?_ ?_ | refine stepGuard_dect ?_ ?_ | refine stepGuard_decf ?_ ?_ | refine stepGuard_ndect ?_ ?_ | refine stepGuard_ndecf ?_ ?_ | refine stepGuard_by ?_ ?_) <;> intro h)
          | with_reducible first | refine And.intro ?_ ?_ | refine J_seq ?_ | refine J_block ?_ | refine J_inBlock ?_ | refine rC ?_ | refine rR ?_ | refine rE ?_ | refine rG ?_ | refine FinQ.now ?_ | refine FinQ.end ?_)
        refine .mk 1 ⟨hlt, hyes (by rw [decide_eq_true hn]; rfl)⟩ (by omega) (by simp [go_sem]) (by simp)
      · have hg' := getD_Ord (l := l) (i := i - 1) (by omega)
        have e1 : ((i : Int) - 1).toNat = i - 1 := by omega
        simp only [encOrd] at hg'
        refine J_run 200 ?_
        repeat' (first
          | ((with_reducible refine J_draw (id := 4) 200 [] plan45_4 (by kernel_rfl) (by kernel_rfl) ?_); delta plan45_4)
          | (simp (maxSteps := 1000000) (disch := omega) only [go_sem, hg, hg', e1])
          | ((with_reducible refine CallA.pure cc ?_ ?_); (· simp (disch := omega) only [go_sem, hg, hg', e1]); rintro _ _ ⟨rfl, rfl⟩)
          | ((with_reducible first | refine gDt ?_ ?_ | refine gDf ?_ ?_ | refine gNt ?_ ?_ | refine gNf ?_ ?_ | refine cD ?_ ?_ | refine cN ?_ ?_ | refine cB ?_ ?_ | refine gB ?_ ?_ | refine stepGuard_dect ?_ ?_ | refine stepGuard_decf ?_ ?_ | refine stepGuard_ndect ?_ ?_ | refine stepGuard_ndecf ?_ ?_ | refine stepGuard_by ?_ ?_) <;> intro h)
          | with_reducible first | refine And.intro ?_ ?_ | refine J_seq ?_ | refine J_block ?_ | refine J_inBlock ?_ | refine rC ?_ | refine rR ?_ | refine rE ?_ | refine rG ?_ | refine FinQ.now ?_ | refine FinQ.end ?_)
        all_goals first
          | (rw [hno (by rw [decide_eq_true hn, decide_eq_false h0, decide_eq_false (by omega)]; rfl)]; done)
          | (refine .mk (i + 1) ⟨hlt, hyes (by rw [decide_eq_true hn, decide_eq_true (show (l[i - 1]'(by omega)).num < l[i].num by omega), Bool.or_true]; rfl)⟩ (by omega) (by simp [go_sem]) (by simp))
          | trace_state
    · rw [hno (by rw [decide_eq_false hn]; rfl)]
      rw [decide_eq_false hn] at cc
      refine J_run 200 ?_
      repeat' (first
        | ((with_reducible refine J_draw (id := 4) 200 [] plan45_4 (by kernel_rfl) (by kernel_rfl) ?_); delta plan45_4)
        | (simp (maxSteps := 1000000) (disch := omega) only [go_sem, hg])
        | ((with_reducible refine CallA.pure cc ?_ ?_); (· simp (disch := omega) only [go_sem, hg]); rintro _ _ ⟨rfl, rfl⟩)
        | ((with_reducible first | refine gDt ?_ ?_ | refine gDf ?_ ?_ | refine gNt ?_ ?_ | refine gNf ?_ ?_ | refine cD ?_ ?_ | refine cN ?_ ?_ | refine cB ?_ ?_ | refine gB ?_ ?_ | refine stepGuard_dect ?_ ?_ | refine stepGuard_decf ?_ ?_ | refine stepGuard_ndect ?_ ?_ | refine stepGuard_ndecf ?_ ?_ | refine stepGuard_by ?_ ?_) <;> intro h)
        | with_reducible first | refine And.intro ?_ ?_ | refine J_seq ?_ | refine J_block ?_ | refine J_inBlock ?_ | refine rC ?_ | refine rR ?_ | refine rE ?_ | refine rG ?_ | refine FinQ.now ?_ | refine FinQ.end ?_)
  · rw [ordsB_yes fun j hj => hpre j (by omega)]
    refine J_run 200 ?_
    repeat' (first
      | ((with_reducible refine J_draw (id := 4) 200 [] plan45_4 (by kernel_rfl) (by kernel_rfl) ?_); delta plan45_4)
      | (simp (maxSteps := 1000000) (disch := omega) only [go_sem])
      | ((with_reducible first | refine gDt ?_ ?_ | refine gDf ?_ ?_ | refine gNt ?_ ?_ | refine gNf ?_ ?_ | refine cD ?_ ?_ | refine cN ?_ ?_ | refine cB ?_ ?_ | refine gB ?_ ?_ | refine stepGuard_dect ?_ ?_ | refine stepGuard_decf ?_ ?_ | refine stepGuard_ndect ?_ ?_ | refine stepGuard_ndecf ?_ ?_ | refine stepGuard_by ?_ ?_) <;> intro h)
      | with_reducible first | refine And.intro ?_ ?_ | refine J_seq ?_ | refine J_block ?_ | refine J_inBlock ?_ | refine rC ?_ | refine rR ?_ | refine rE ?_ | refine rG ?_ | refine FinQ.now ?_ | refine FinQ.end ?_)
    rw [decide_eq_decide]; omega
theorem cCounted1 (o : Off) (d : Doc) : Fn1 Tryz.prog GT0 85 [.agg (encDoc d), .cptr (encOff o)] (.raw (.bool (decide (o.last < d.num)))) [] := by
  simp only [encOff, encDoc]
  refine holds_of Tryz.func85 rfl rfl ?_
  refine J_run 200 ?_
  delta Tryz.f85
  repeat' (first
    | (simp (maxSteps := 1000000) (disch := omega) only [go_sem])
    | ((with_reducible first | refine gDt ?_ ?_ | refine gDf ?_ ?_ | refine gNt ?_ ?_ | refine gNf ?_ ?_ | refine cD ?_ ?_ | refine cN ?_ ?_ | refine cB ?_ ?_ | refine gB ?_ ?_) <;> intro h)
    | with_reducible first | refine And.intro ?_ ?_ | refine J_seq ?_ | refine J_block ?_ | refine J_inBlock ?_ | refine rC ?_ | refine rR ?_ | refine rE ?_ | refine rG ?_ | refine FinQ.now ?_ | refine FinQ.end ?_)
theorem cCounted2 (o : Off) (x : Ord) : Fn1 Tryz.prog GT0 87 [.agg (encOrd x), .cptr (encOff o)] (.raw (.bool (decide (o.last < x.num)))) [] := by
  simp only [encOff, encOrd]
  refine holds_of Tryz.func87 rfl rfl ?_
  refine J_run 200 ?_
  delta Tryz.f87
  repeat' (first
    | (simp (maxSteps := 1000000) (disch := omega) only [go_sem])
    | ((with_reducible first | refine gDt ?_ ?_ | refine gDf ?_ ?_ | refine gNt ?_ ?_ | refine gNf ?_ ?_ | refine cD ?_ ?_ | refine cN ?_ ?_ | refine cB ?_ ?_ | refine gB ?_ ?_) <;> intro h)
    | with_reducible first | refine And.intro ?_ ?_ | refine J_seq ?_ | refine J_block ?_ | refine J_inBlock ?_ | refine rC ?_ | refine rR ?_ | refine rE ?_ | refine rG ?_ | refine FinQ.now ?_ | refine FinQ.end ?_)
theorem cCounted3 (o : Off) (c : Cert) : Fn1 Tryz.prog GT0 89 [.agg (encCert c), .cptr (encOff o)] (.raw (.bool (decide (c.asker = o.comp ∧ o.last < c.num)))) [] := by
  simp only [encOff, encCert]
  refine holds_of Tryz.func89 rfl rfl ?_
  refine J_run 200 ?_
  delta Tryz.f89
  repeat' (first
    | (simp (maxSteps := 1000000) (disch := omega) only [go_sem])
    | ((with_reducible first | refine gDt ?_ ?_ | refine gDf ?_ ?_ | refine gNt ?_ ?_ | refine gNf ?_ ?_ | refine cD ?_ ?_ | refine cN ?_ ?_ | refine cB ?_ ?_ | refine gB ?_ ?_) <;> intro h)
    | with_reducible first | refine And.intro ?_ ?_ | refine J_seq ?_ | refine J_block ?_ | refine J_inBlock ?_ | refine rC ?_ | refine rR ?_ | refine rE ?_ | refine rG ?_ | refine FinQ.now ?_ | refine FinQ.end ?_)
  all_goals first | (rw [Bool.eq_iff_iff]; simp []; omega) | (simp_all []; done) | (rw [Bool.eq_iff_iff]; simp_all []; omega) | (simp_all []; omega) | omega
set_option maxHeartbeats 4000000 in
theorem countedCF (o : Off) (hs : o.sized) : Fn1 Tryz.prog GT0 46 [.agg (encOff o)] (.raw (.bool (countedB o))) [] := by
  have c1 := containsFuncD o.docs 85 [.cptr (encOff o)] rfl (fun d => decide (o.last < d.num)) hs.dl fun d _ => cCounted1 o d
  have c2 := containsFuncO o.ords 87 [.cptr (encOff o)] rfl (fun x => decide (o.last < x.num)) hs.rl fun d _ => cCounted2 o d
  have c3 := containsFuncC o.certs 89 [.cptr (encOff o)] rfl (fun c => decide (c.asker = o.comp ∧ o.last < c.num)) hs.cl fun d _ => cCounted3 o d
  unfold countedB
  obtain ⟨b1, h1⟩ : ∃ b, (o.docs.any fun d => decide (o.last < d.num)) = b := ⟨_, rfl⟩
  obtain ⟨b2, h2⟩ : ∃ b, (o.ords.any fun x => decide (o.last < x.num)) = b := ⟨_, rfl⟩
  obtain ⟨b3, h3⟩ : ∃ b, (o.certs.any fun c => decide (c.asker = o.comp ∧ o.last < c.num)) = b := ⟨_, rfl⟩
  rw [h1] at c1 ⊢
  rw [h2] at c2 ⊢
  rw [h3] at c3 ⊢
  simp only [encOff] at c1 c2 c3 ⊢
  cases b1 <;> cases b2 <;> cases b3
  all_goals
    refine holds_of Tryz.func46 rfl rfl ?_
    refine J_run 200 ?_
    delta Tryz.f46
    repeat' (first
      | (simp (maxSteps := 1000000) (disch := omega) only [go_sem])
      | ((with_reducible refine CallA.give [0] ?_ ?_ c1 ?_); (· simp (disch := omega) only [go_sem]); (· simp (disch := omega) only [go_sem]); rintro _ _ ⟨rfl, rfl⟩)
      | ((with_reducible refine CallA.pure c2 ?_ ?_); (· simp (disch := omega) only [go_sem]); rintro _ _ ⟨rfl, rfl⟩)
      | ((with_reducible refine CallA.pure c3 ?_ ?_); (· simp (disch := omega) only [go_sem]); rintro _ _ ⟨rfl, rfl⟩)
      | ((with_reducible first | refine gDt ?_ ?_ | refine gDf ?_ ?_ | refine gNt ?_ ?_ | refine gNf ?_ ?_ | refine cD ?_ ?_ | refine cN ?_ ?_ | refine cB ?_ ?_ | refine gB ?_ ?_) <;> intro h)
      | with_reducible first | refine And.intro ?_ ?_ | refine J_seq ?_ | refine J_block ?_ | refine J_inBlock ?_ | refine rC ?_ | refine rR ?_ | refine rE ?_ | refine rG ?_ | refine FinQ.now ?_ | refine FinQ.end ?_)
end Go.Proofs.YtmfgaefefgnhbaaGreatDoor.Abs
namespace Go.Proofs.YtmfgaefefgnhbaaGreatDoor.Abs
set_option linter.unusedSimpArgs false
set_option linter.unusedVariables false
set_option maxRecDepth 100000
open Go Go.RowKit

theorem Lk.eq_iff (a b : Lk) : a = b ↔ a.dev = b.dev ∧ a.pos = b.pos ∧ a.key = b.key := by
  cases a; cases b; simp
set_option maxHeartbeats 4000000 in
theorem indexLk (l : List Lk) (hl : l.length ≤ 1000000) (k : Lk) : Fn1 Tryz.prog GT0 63 [.lst 3 (l.map encLk), .agg (encLk k)] (.raw (.int .i64 (firstAt (fun x => decide (x = k)) l))) [] := by
  simp only [encLk]
  refine holds_of Tryz.func63 rfl rfl ?_
  refine J_run 200 ?_
  delta Tryz.f63
  repeat' (first
    | ((with_reducible refine J_draw (id := 4) 200 [] plan63_4 (by kernel_rfl) (by kernel_rfl) ?_); delta plan63_4)
    | (simp (maxSteps := 1000000) (disch := omega) only [go_sem])
    | ((with_reducible first | refine gDt ?_ ?_ | refine gDf ?_ ?_ | refine gNt ?_ ?_ | refine gNf ?_ ?_ | refine cD ?_ ?_ | refine cN ?_ ?_ | refine cB ?_ ?_ | refine gB ?_ ?_ | refine stepGuard_dect ?_ ?_ | refine stepGuard_decf ?_ ?_ | refine stepGuard_ndect ?_ ?_ | refine stepGuard_ndecf ?_ ?_ | refine stepGuard_by ?_ ?_) <;> intro h)
    | with_reducible first | refine And.intro ?_ ?_ | refine J_seq ?_ | refine J_block ?_ | refine J_inBlock ?_ | refine rC ?_ | refine rR ?_ | refine rE ?_ | refine rG ?_ | refine FinQ.now ?_ | refine FinQ.end ?_)
  refine J_for ([5] ++ upto 9 18) (fun i : Nat => [(8, .raw (.int .i64 i))]) (fun i => [.box [.raw (.int .i64 k.dev), .raw (.int .i64 k.pos), .raw (.int .i64 k.key)]]) (fun i => i ≤ (l).length ∧ (∀ j (hj : j < l.length), j < i → decide (l[j] = k) = false)) (fun i => (l).length - i) 0 ⟨by omega, fun j hj h => by omega⟩ (.le (by simp [go_sem]) (by simp)) ?_
  rintro i ⟨hi, hpre⟩
  by_cases hlt : i < l.length
  · have hg := getD_Lk hlt
    by_cases he : l[i] = k
    · rw [firstAt_some hlt (decide_eq_true he) fun j hj => hpre j (by omega) hj]
      have h1 := (Lk.eq_iff _ _).1 he
      refine J_run 200 ?_
      repeat' (first
        | ((with_reducible refine J_draw (id := 4) 200 [] plan63_4 (by kernel_rfl) (by kernel_rfl) ?_); delta plan63_4)
        | (simp (maxSteps := 1000000) (disch := omega) only [go_sem, hg])
        | ((with_reducible first | refine gDt ?_ ?_ | refine gDf ?_ ?_ | refine gNt ?_ ?_ | refine gNf ?_ ?_ | refine cD ?_ ?_ | refine cN ?_ ?_ | refine cB ?_ ?_ | refine gB ?_ ?_ | refine stepGuard_dect ?_ ?_ | refine stepGuard_decf ?_ ?_ | refine stepGuard_ndect ?_ ?_ | refine stepGuard_ndecf ?_ ?_ | refine stepGuard_by ?_ ?_) <;> intro h)
        | with_reducible first | refine And.intro ?_ ?_ | refine J_seq ?_ | refine J_block ?_ | refine J_inBlock ?_ | refine rC ?_ | refine rR ?_ | refine rE ?_ | refine rG ?_ | refine FinQ.now ?_ | refine FinQ.end ?_)
    · have h1 : ¬ (l[i].dev = k.dev ∧ l[i].pos = k.pos ∧ l[i].key = k.key) := fun h => he ((Lk.eq_iff _ _).2 h)
      have hd : (decide (k.dev = l[i].dev) && (decide (k.pos = l[i].pos) && decide (k.key = l[i].key))) = false := by
        rw [← Bool.not_eq_true]
        simp only [Bool.and_eq_true, decide_eq_true_eq]
        exact fun h => h1 ⟨h.1.symm, h.2.1.symm, h.2.2.symm⟩
      refine J_run 200 ?_
      repeat' (first
        | ((with_reducible refine J_draw (id := 4) 200 [] plan63_4 (by kernel_rfl) (by kernel_rfl) ?_); delta plan63_4)
        | (simp (maxSteps := 1000000) (disch := omega) only [go_sem, hg, hd])
        | ((with_reducible first | refine gDt ?_ ?_ | refine gDf ?_ ?_ | refine gNt ?_ ?_ | refine gNf ?_ ?_ | refine cD ?_ ?_ | refine cN ?_ ?_ | refine cB ?_ ?_ | refine gB ?_ ?_ | refine stepGuard_dect ?_ ?_ | refine stepGuard_decf ?_ ?_ | refine stepGuard_ndect ?_ ?_ | refine stepGuard_ndecf ?_ ?_ | refine stepGuard_by ?_ ?_) <;> intro h)
        | with_reducible first | refine And.intro ?_ ?_ | refine J_seq ?_ | refine J_block ?_ | refine J_inBlock ?_ | refine rC ?_ | refine rR ?_ | refine rE ?_ | refine rG ?_ | refine FinQ.now ?_ | refine FinQ.end ?_)
      refine .mk (i + 1) ⟨hlt, fun j hj hji => ?_⟩ (by omega) (by simp [go_sem]) (by simp)
      rcases Nat.lt_succ_iff_lt_or_eq.1 hji with h3 | rfl
      · exact hpre j hj h3
      · exact decide_eq_false he
  · rw [firstAt_none fun x hx => by
      obtain ⟨j, hj, rfl⟩ := List.getElem_of_mem hx
      exact hpre j hj (by omega)]
    refine J_run 200 ?_
    repeat' (first
      | ((with_reducible refine J_draw (id := 4) 200 [] plan63_4 (by kernel_rfl) (by kernel_rfl) ?_); delta plan63_4)
      | (simp (maxSteps := 1000000) (disch := omega) only [go_sem])
      | ((with_reducible first | refine gDt ?_ ?_ | refine gDf ?_ ?_ | refine gNt ?_ ?_ | refine gNf ?_ ?_ | refine cD ?_ ?_ | refine cN ?_ ?_ | refine cB ?_ ?_ | refine gB ?_ ?_ | refine stepGuard_dect ?_ ?_ | refine stepGuard_decf ?_ ?_ | refine stepGuard_ndect ?_ ?_ | refine stepGuard_ndecf ?_ ?_ | refine stepGuard_by ?_ ?_) <;> intro h)
      | with_reducible first | refine And.intro ?_ ?_ | refine J_seq ?_ | refine J_block ?_ | refine J_inBlock ?_ | refine rC ?_ | refine rR ?_ | refine rE ?_ | refine rG ?_ | refine FinQ.now ?_ | refine FinQ.end ?_)
theorem any_eq_mem (l : List Lk) (k : Lk) : (l.any fun x => decide (x = k)) = decide (k ∈ l) := by
  rw [Bool.eq_iff_iff, List.any_eq_true, decide_eq_true_eq]
  constructor
  · rintro ⟨x, hx, h⟩
    rw [decide_eq_true_eq] at h
    exact h ▸ hx
  · exact fun h => ⟨k, h, decide_eq_true rfl⟩
theorem containsLk (l : List Lk) (hl : l.length ≤ 1000000) (k : Lk) : Fn1 Tryz.prog GT0 28 [.lst 3 (l.map encLk), .agg (encLk k)] (.raw (.bool (decide (k ∈ l)))) [] := by
  have c := indexLk l hl k
  rw [← any_eq_mem, ← firstAt_ge]
  simp only [encLk] at c ⊢
  refine holds_of Tryz.func28 rfl rfl ?_
  refine J_run 200 ?_
  delta Tryz.f28
  repeat' (first
    | (simp (maxSteps := 1000000) (disch := omega) only [go_sem])
    | ((with_reducible refine CallA.pure c ?_ ?_); (· simp (disch := omega) only [go_sem]); rintro _ _ ⟨rfl, rfl⟩)
    | ((with_reducible first | refine gDt ?_ ?_ | refine gDf ?_ ?_ | refine gNt ?_ ?_ | refine gNf ?_ ?_ | refine cD ?_ ?_ | refine cN ?_ ?_ | refine cB ?_ ?_ | refine gB ?_ ?_) <;> intro h)
    | with_reducible first | refine And.intro ?_ ?_ | refine J_seq ?_ | refine J_block ?_ | refine J_inBlock ?_ | refine rC ?_ | refine rR ?_ | refine rE ?_ | refine rG ?_ | refine FinQ.now ?_ | refine FinQ.end ?_)
set_option maxHeartbeats 4000000 in
theorem provedF (n : Net) (l : List Int) (hl : l.length ≤ 1000000) (hn : n.nodes.length ≤ 9223372036854775807) : Fn1 Tryz.prog GT0 79 [.agg (encNet n), .lst 1 (l.map encN)] (.raw (.bool (rising l n.nodes.length))) [] := by
  simp only [encNet]
  refine holds_of Tryz.func79 rfl rfl ?_
  refine J_run 200 ?_
  delta Tryz.f79
  repeat' (first
    | (simp (maxSteps := 1000000) (disch := omega) only [go_sem])
    | ((with_reducible first | refine gDt ?_ ?_ | refine gDf ?_ ?_ | refine gNt ?_ ?_ | refine gNf ?_ ?_ | refine cD ?_ ?_ | refine cN ?_ ?_ | refine cB ?_ ?_ | refine gB ?_ ?_) <;> intro h)
    | with_reducible first | refine And.intro ?_ ?_ | refine J_seq ?_ | refine J_block ?_ | refine J_inBlock ?_ | refine rC ?_ | refine rR ?_ | refine rE ?_ | refine rG ?_ | refine FinQ.now ?_ | refine FinQ.end ?_)
  refine J_for ([5, 6] ++ upto 10 36) (fun i : Nat => [(9, .raw (.int .i64 i))]) (fun i => [.box [.lst 3 (n.nodes.map encNd), .lst 5 (n.devs.map encDv)]]) (fun i => i ≤ (l).length ∧ (∀ j (hj : j < l.length), j < i → ((if j = 0 then -1 else l.getD (j - 1) 0) < l[j] ∧ l[j] < n.nodes.length) ∧ 0 ≤ l[j])) (fun i => (l).length - i) 0 ⟨by omega, fun j hj h => by omega⟩ (.le (by simp [go_sem]) (by simp)) ?_
  rintro i ⟨hi, hpre⟩
  by_cases hlt : i < l.length
  · have hno : ¬ ((if i = 0 then -1 else l.getD (i - 1) 0) < l[i] ∧ l[i] < n.nodes.length) → rising l n.nodes.length = false := fun hc => by
      rw [← Bool.not_eq_true]
      exact fun h => hc (risingFrom_iff.1 h i hlt)
    have hyes : ((if i = 0 then -1 else l.getD (i - 1) 0) < l[i] ∧ l[i] < n.nodes.length) ∧ 0 ≤ l[i] → ∀ j (hj : j < l.length), j < i + 1 → ((if j = 0 then -1 else l.getD (j - 1) 0) < l[j] ∧ l[j] < n.nodes.length) ∧ 0 ≤ l[j] := fun hc j hj hji => by
      rcases Nat.lt_succ_iff_lt_or_eq.1 hji with h3 | rfl
      · exact hpre j hj h3
      · exact hc
    have hg := getD_N hlt
    by_cases h0 : i = 0
    · subst h0
      rw [if_pos rfl] at hno hyes
      refine J_run 200 ?_
      repeat' (first
        | (simp (maxSteps := 1000000) (disch := omega) only [go_sem, hg])
        | ((with_reducible first | refine gDt ?_ ?_ | refine gDf ?_ ?_ | refine gNt ?_ ?_ | refine gNf ?_ ?_ | refine cD ?_ ?_ | refine cN ?_ ?_ | refine cB ?_ ?_ | refine gB ?_ ?_) <;> intro h)
        | with_reducible first | refine And.intro ?_ ?_ | refine J_seq ?_ | refine J_block ?_ | refine J_inBlock ?_ | refine rC ?_ | refine rR ?_ | refine rE ?_ | refine rG ?_ | refine FinQ.now ?_ | refine FinQ.end ?_)
      all_goals first
        | (rw [hno (by omega)]; done)
        | (refine .mk 1 ⟨hlt, hyes (by omega)⟩ (by omega) (by simp [go_sem]) (by simp))
        | trace_state
    · have hq := (hpre (i - 1) (by omega) (by omega)).2
      have hg' := getD_N (l := l) (i := i - 1) (by omega)
      have e1 : ((i : Int) - 1).toNat = i - 1 := by omega
      rw [if_neg h0, getD_get (show i - 1 < l.length by omega)] at hno hyes
      refine J_run 200 ?_
      repeat' (first
        | (simp (maxSteps := 1000000) (disch := omega) only [go_sem, hg, hg', e1])
        | ((with_reducible first | refine gDt ?_ ?_ | refine gDf ?_ ?_ | refine gNt ?_ ?_ | refine gNf ?_ ?_ | refine cD ?_ ?_ | refine cN ?_ ?_ | refine cB ?_ ?_ | refine gB ?_ ?_) <;> intro h)
        | with_reducible first | refine And.intro ?_ ?_ | refine J_seq ?_ | refine J_block ?_ | refine J_inBlock ?_ | refine rC ?_ | refine rR ?_ | refine rE ?_ | refine rG ?_ | refine FinQ.now ?_ | refine FinQ.end ?_)
      all_goals first
        | (rw [hno (by omega)]; done)
        | (refine .mk (i + 1) ⟨hlt, hyes (by omega)⟩ (by omega) (by simp [go_sem]) (by simp))
        | trace_state
  · rw [show rising l n.nodes.length = true from risingFrom_iff.2 fun j hj => (hpre j hj (by omega)).1]
    refine J_run 200 ?_
    repeat' (first
      | (simp (maxSteps := 1000000) (disch := omega) only [go_sem])
      | ((with_reducible first | refine gDt ?_ ?_ | refine gDf ?_ ?_ | refine gNt ?_ ?_ | refine gNf ?_ ?_ | refine cD ?_ ?_ | refine cN ?_ ?_ | refine cB ?_ ?_ | refine gB ?_ ?_) <;> intro h)
      | with_reducible first | refine And.intro ?_ ?_ | refine J_seq ?_ | refine J_block ?_ | refine J_inBlock ?_ | refine rC ?_ | refine rR ?_ | refine rE ?_ | refine rG ?_ | refine FinQ.now ?_ | refine FinQ.end ?_)
theorem evidence1 (n : Net) (o : Off) (k : Lk) (h0 : 0 ≤ k.dev) (h1 : k.dev < n.devs.length) : Fn1 Tryz.prog GT0 78 [.agg (encLk k), .cptr (encNet n), .cptr (encOff o)] (.raw (.bool (decide (compOf n k ≠ o.comp)))) [] := by
  have hl : k.dev.toNat < n.devs.length := by omega
  have hg := getD_Dv hl
  unfold compOf
  rw [getD_get hl]
  simp only [encLk, encNet, encOff, encDv] at hg ⊢
  refine holds_of Tryz.func78 rfl rfl ?_
  refine J_run 200 ?_
  delta Tryz.f78
  repeat' (first
    | ((with_reducible refine J_draw (id := 1) 200 [] plan78_1 (by kernel_rfl) (by kernel_rfl) ?_); delta plan78_1)
    | (simp (maxSteps := 1000000) (disch := omega) only [go_sem, hg])
    | ((with_reducible first | refine gDt ?_ ?_ | refine gDf ?_ ?_ | refine gNt ?_ ?_ | refine gNf ?_ ?_ | refine cD ?_ ?_ | refine cN ?_ ?_ | refine cB ?_ ?_ | refine gB ?_ ?_ | refine stepGuard_dect ?_ ?_ | refine stepGuard_decf ?_ ?_ | refine stepGuard_ndect ?_ ?_ | refine stepGuard_ndecf ?_ ?_ | refine stepGuard_by ?_ ?_) <;> intro h)
    | with_reducible first | refine And.intro ?_ ?_ | refine J_seq ?_ | refine J_block ?_ | refine J_inBlock ?_ | refine rC ?_ | refine rR ?_ | refine rE ?_ | refine rG ?_ | refine FinQ.now ?_ | refine FinQ.end ?_)
  all_goals first | (rw [Bool.eq_iff_iff]; simp []; omega) | (simp_all []; done) | (rw [Bool.eq_iff_iff]; simp_all []; omega) | (simp_all []; omega) | omega
set_option maxHeartbeats 4000000 in
theorem evidenceF (n : Net) (hs : n.sized) (o : Off) (ho : o.sized) : Fn1 Tryz.prog GT0 41 [.agg (encNet n), .agg (encOff o)] (.raw (.int .i64 (evidE n o))) [] := by
  have hbl := ho.bl
  have hdl := hs.dl
  have cb := belCheck o.bels ho.bl ho.bi
  have cl := lockCheck n hs o.locks ho.ll
  have cp := provedF n o.proved ho.pl hs.nl
  unfold evidE
  by_cases h1 : o.bels.length = n.devs.length
  · rw [if_neg (by simp [h1])]
    by_cases h2 : belChk o.bels = 0
    · rw [if_neg (by simp [h2])]
      rw [h2] at cb
      by_cases h3 : lockChk n o.locks = 0
      · rw [if_neg (by simp [h3])]
        rw [h3] at cl
        have hd := lockChk_dev h3
        have cf := containsFuncL o.locks 78 [.cptr (encNet n), .cptr (encOff o)] rfl (fun k => decide (compOf n k ≠ o.comp)) (by have := ho.ll; omega) fun k hk => evidence1 n o k (hd k hk).1 (hd k hk).2
        obtain ⟨b, hb⟩ : ∃ b, (o.locks.any fun k => decide (compOf n k ≠ o.comp)) = b := ⟨_, rfl⟩
        rw [hb] at cf ⊢
        obtain ⟨r, hr⟩ : ∃ r, rising o.proved n.nodes.length = r := ⟨_, rfl⟩
        rw [hr] at cp ⊢
        simp only [encNet, encOff] at cb cl cf cp ⊢
        cases b
        · cases r
          · refine holds_of Tryz.func41 rfl rfl ?_
            refine J_run 200 ?_
            delta Tryz.f41
            repeat' (first
              | (simp (maxSteps := 1000000) (disch := omega) only [go_sem])
              | ((with_reducible refine CallA.pure cb ?_ ?_); (· simp (disch := omega) only [go_sem]); rintro _ _ ⟨rfl, rfl⟩)
              | ((with_reducible refine CallA.pure cl ?_ ?_); (· simp (disch := omega) only [go_sem]); rintro _ _ ⟨rfl, rfl⟩)
              | ((with_reducible refine CallA.pure cp ?_ ?_); (· simp (disch := omega) only [go_sem]); rintro _ _ ⟨rfl, rfl⟩)
              | ((with_reducible refine CallA.keep [0,1] ?_ ?_ cf ?_); (· simp (disch := omega) only [go_sem]); (· simp (disch := omega) only [go_sem]); rintro _ _ ⟨rfl, rfl⟩; refine ⟨⟨rfl, fun _ h => by cases h⟩, ?_⟩)
              | ((with_reducible first | refine gDt ?_ ?_ | refine gDf ?_ ?_ | refine gNt ?_ ?_ | refine gNf ?_ ?_ | refine cD ?_ ?_ | refine cN ?_ ?_ | refine cB ?_ ?_ | refine gB ?_ ?_) <;> intro h)
              | with_reducible first | refine And.intro ?_ ?_ | refine J_seq ?_ | refine J_block ?_ | refine J_inBlock ?_ | refine rC ?_ | refine rR ?_ | refine rE ?_ | refine rG ?_ | refine FinQ.now ?_ | refine FinQ.end ?_)
          · refine holds_of Tryz.func41 rfl rfl ?_
            refine J_run 200 ?_
            delta Tryz.f41
            repeat' (first
              | (simp (maxSteps := 1000000) (disch := omega) only [go_sem])
              | ((with_reducible refine CallA.pure cb ?_ ?_); (· simp (disch := omega) only [go_sem]); rintro _ _ ⟨rfl, rfl⟩)
              | ((with_reducible refine CallA.pure cl ?_ ?_); (· simp (disch := omega) only [go_sem]); rintro _ _ ⟨rfl, rfl⟩)
              | ((with_reducible refine CallA.pure cp ?_ ?_); (· simp (disch := omega) only [go_sem]); rintro _ _ ⟨rfl, rfl⟩)
              | ((with_reducible refine CallA.keep [0,1] ?_ ?_ cf ?_); (· simp (disch := omega) only [go_sem]); (· simp (disch := omega) only [go_sem]); rintro _ _ ⟨rfl, rfl⟩; refine ⟨⟨rfl, fun _ h => by cases h⟩, ?_⟩)
              | ((with_reducible first | refine gDt ?_ ?_ | refine gDf ?_ ?_ | refine gNt ?_ ?_ | refine gNf ?_ ?_ | refine cD ?_ ?_ | refine cN ?_ ?_ | refine cB ?_ ?_ | refine gB ?_ ?_) <;> intro h)
              | with_reducible first | refine And.intro ?_ ?_ | refine J_seq ?_ | refine J_block ?_ | refine J_inBlock ?_ | refine rC ?_ | refine rR ?_ | refine rE ?_ | refine rG ?_ | refine FinQ.now ?_ | refine FinQ.end ?_)
        · refine holds_of Tryz.func41 rfl rfl ?_
          refine J_run 200 ?_
          delta Tryz.f41
          repeat' (first
            | (simp (maxSteps := 1000000) (disch := omega) only [go_sem])
            | ((with_reducible refine CallA.pure cb ?_ ?_); (· simp (disch := omega) only [go_sem]); rintro _ _ ⟨rfl, rfl⟩)
            | ((with_reducible refine CallA.pure cl ?_ ?_); (· simp (disch := omega) only [go_sem]); rintro _ _ ⟨rfl, rfl⟩)
            | ((with_reducible refine CallA.give [0,1] ?_ ?_ cf ?_); (· simp (disch := omega) only [go_sem]); (· simp (disch := omega) only [go_sem]); rintro _ _ ⟨rfl, rfl⟩)
            | ((with_reducible first | refine gDt ?_ ?_ | refine gDf ?_ ?_ | refine gNt ?_ ?_ | refine gNf ?_ ?_ | refine cD ?_ ?_ | refine cN ?_ ?_ | refine cB ?_ ?_ | refine gB ?_ ?_) <;> intro h)
            | with_reducible first | refine And.intro ?_ ?_ | refine J_seq ?_ | refine J_block ?_ | refine J_inBlock ?_ | refine rC ?_ | refine rR ?_ | refine rE ?_ | refine rG ?_ | refine FinQ.now ?_ | refine FinQ.end ?_)
      · rw [if_pos h3]
        simp only [encNet, encOff] at cb cl ⊢
        refine holds_of Tryz.func41 rfl rfl ?_
        refine J_run 200 ?_
        delta Tryz.f41
        repeat' (first
          | (simp (maxSteps := 1000000) (disch := omega) only [go_sem, h3])
          | ((with_reducible refine CallA.pure cb ?_ ?_); (· simp (disch := omega) only [go_sem, h3]); rintro _ _ ⟨rfl, rfl⟩)
          | ((with_reducible refine CallA.pure cl ?_ ?_); (· simp (disch := omega) only [go_sem, h3]); rintro _ _ ⟨rfl, rfl⟩)
          | ((with_reducible first | refine gDt ?_ ?_ | refine gDf ?_ ?_ | refine gNt ?_ ?_ | refine gNf ?_ ?_ | refine cD ?_ ?_ | refine cN ?_ ?_ | refine cB ?_ ?_ | refine gB ?_ ?_) <;> intro h)
          | with_reducible first | refine And.intro ?_ ?_ | refine J_seq ?_ | refine J_block ?_ | refine J_inBlock ?_ | refine rC ?_ | refine rR ?_ | refine rE ?_ | refine rG ?_ | refine FinQ.now ?_ | refine FinQ.end ?_)
    · rw [if_pos h2]
      simp only [encNet, encOff] at cb ⊢
      refine holds_of Tryz.func41 rfl rfl ?_
      refine J_run 200 ?_
      delta Tryz.f41
      repeat' (first
        | (simp (maxSteps := 1000000) (disch := omega) only [go_sem, h2])
        | ((with_reducible refine CallA.pure cb ?_ ?_); (· simp (disch := omega) only [go_sem, h2]); rintro _ _ ⟨rfl, rfl⟩)
        | ((with_reducible first | refine gDt ?_ ?_ | refine gDf ?_ ?_ | refine gNt ?_ ?_ | refine gNf ?_ ?_ | refine cD ?_ ?_ | refine cN ?_ ?_ | refine cB ?_ ?_ | refine gB ?_ ?_) <;> intro h)
        | with_reducible first | refine And.intro ?_ ?_ | refine J_seq ?_ | refine J_block ?_ | refine J_inBlock ?_ | refine rC ?_ | refine rR ?_ | refine rE ?_ | refine rG ?_ | refine FinQ.now ?_ | refine FinQ.end ?_)
  · rw [if_pos h1]
    simp only [encNet, encOff]
    refine holds_of Tryz.func41 rfl rfl ?_
    refine J_run 200 ?_
    delta Tryz.f41
    repeat' (first
      | (simp (maxSteps := 1000000) (disch := omega) only [go_sem])
      | ((with_reducible first | refine gDt ?_ ?_ | refine gDf ?_ ?_ | refine gNt ?_ ?_ | refine gNf ?_ ?_ | refine cD ?_ ?_ | refine cN ?_ ?_ | refine cB ?_ ?_ | refine gB ?_ ?_) <;> intro h)
      | with_reducible first | refine And.intro ?_ ?_ | refine J_seq ?_ | refine J_block ?_ | refine J_inBlock ?_ | refine rC ?_ | refine rR ?_ | refine rE ?_ | refine rG ?_ | refine FinQ.now ?_ | refine FinQ.end ?_)
theorem things_any {o : Off} {i : Nat} (hi : i < o.ports.length) (h : (findRow o.keys o.ports[i].num).isSome = true) : (o.ports.any fun r => (findRow o.keys r.num).isSome) = true := List.any_eq_true.2 ⟨_, List.getElem_mem hi, h⟩
theorem things_none {o : Off} (h : ∀ j (hj : j < o.ports.length), (findRow o.keys o.ports[j].num).isSome = false) : (o.ports.any fun r => (findRow o.keys r.num).isSome) = false := by
  rw [List.any_eq_false]
  intro x hx
  obtain ⟨j, hj, rfl⟩ := List.getElem_of_mem hx
  rw [h j hj]
  exact Bool.false_ne_true
set_option maxHeartbeats 8000000 in
theorem thingsF (o : Off) (ho : o.sized) : Fn1 Tryz.prog GT0 42 [.agg (encOff o)] (.raw (.int .i64 (thingsE o))) [] := by
  have ck := rowsCheck o.keys ho.kl ho.ks
  have cp := rowsCheck o.ports ho.ol ho.ps
  have cs := safesCheckF o.safes ho.sl ho.ss
  have hol := ho.ol
  unfold thingsE
  by_cases h1 : rowsChk o.keys = 0
  · rw [if_neg (by simp [h1])]
    rw [h1] at ck
    by_cases h2 : rowsChk o.ports = 0
    · rw [if_neg (by simp [h2])]
      rw [h2] at cp
      simp only [encOff]
      refine holds_of Tryz.func42 rfl rfl ?_
      refine J_run 200 ?_
      delta Tryz.f42
      repeat' (first
        | (simp (maxSteps := 1000000) (disch := omega) only [go_sem])
        | ((with_reducible refine CallA.pure ck ?_ ?_); (· simp (disch := omega) only [go_sem]); rintro _ _ ⟨rfl, rfl⟩)
        | ((with_reducible refine CallA.pure cp ?_ ?_); (· simp (disch := omega) only [go_sem]); rintro _ _ ⟨rfl, rfl⟩)
        | ((with_reducible first | refine gDt ?_ ?_ | refine gDf ?_ ?_ | refine gNt ?_ ?_ | refine gNf ?_ ?_ | refine cD ?_ ?_ | refine cN ?_ ?_ | refine cB ?_ ?_ | refine gB ?_ ?_) <;> intro h)
        | with_reducible first | refine And.intro ?_ ?_ | refine J_seq ?_ | refine J_block ?_ | refine J_inBlock ?_ | refine rC ?_ | refine rR ?_ | refine rE ?_ | refine rG ?_ | refine FinQ.now ?_ | refine FinQ.end ?_)
      refine J_for (upto 6 8 ++ upto 25 37) (fun i : Nat => [(24, .raw (.int .i64 i))]) (fun i => [.box (encOff o)]) (fun i => i ≤ (o.ports).length ∧ (∀ j (hj : j < o.ports.length), j < i → (findRow o.keys o.ports[j].num).isSome = false)) (fun i => (o.ports).length - i) 0 ⟨by omega, fun j hj h => by omega⟩ (.le (by simp [go_sem, encOff]) (by simp)) ?_
      rintro i ⟨hi, hpre⟩
      simp only [encOff]
      by_cases hlt : i < o.ports.length
      · have hg := getD_Row hlt
        have cf := findF o.keys ho.kl ho.ks o.ports[i].num
        have hyes := things_any hlt
        obtain ⟨x, hx⟩ : ∃ x, findRow o.keys o.ports[i].num = x := ⟨_, rfl⟩
        rw [hx] at cf hyes
        simp only [encRow] at hg
        cases x with
        | none =>
          simp only [encHold, Option.isSome] at cf
          refine J_run 200 ?_
          repeat' (first
            | (simp (maxSteps := 1000000) (disch := omega) only [go_sem, hg])
            | ((with_reducible refine CallA.pure cf ?_ ?_); (· simp (disch := omega) only [go_sem, hg]); rintro _ _ ⟨rfl, rfl⟩)
            | ((with_reducible first | refine gDt ?_ ?_ | refine gDf ?_ ?_ | refine gNt ?_ ?_ | refine gNf ?_ ?_ | refine cD ?_ ?_ | refine cN ?_ ?_ | refine cB ?_ ?_ | refine gB ?_ ?_) <;> intro h)
            | with_reducible first | refine And.intro ?_ ?_ | refine J_seq ?_ | refine J_block ?_ | refine J_inBlock ?_ | refine rC ?_ | refine rR ?_ | refine rE ?_ | refine rG ?_ | refine FinQ.now ?_ | refine FinQ.end ?_)
          refine .mk (i + 1) ⟨hlt, fun j hj hji => ?_⟩ (by omega) (by simp [go_sem, encOff]) (by simp)
          rcases Nat.lt_succ_iff_lt_or_eq.1 hji with h3 | rfl
          · exact hpre j hj h3
          · rw [hx]; rfl
        | some r =>
          simp only [encHold, Option.isSome] at cf
          rw [if_pos (hyes rfl)]
          refine J_run 200 ?_
          repeat' (first
            | (simp (maxSteps := 1000000) (disch := omega) only [go_sem, hg])
            | ((with_reducible refine CallA.pure cf ?_ ?_); (· simp (disch := omega) only [go_sem, hg]); rintro _ _ ⟨rfl, rfl⟩)
            | ((with_reducible first | refine gDt ?_ ?_ | refine gDf ?_ ?_ | refine gNt ?_ ?_ | refine gNf ?_ ?_ | refine cD ?_ ?_ | refine cN ?_ ?_ | refine cB ?_ ?_ | refine gB ?_ ?_) <;> intro h)
            | with_reducible first | refine And.intro ?_ ?_ | refine J_seq ?_ | refine J_block ?_ | refine J_inBlock ?_ | refine rC ?_ | refine rR ?_ | refine rE ?_ | refine rG ?_ | refine FinQ.now ?_ | refine FinQ.end ?_)
      · rw [if_neg (by rw [things_none fun j hj => hpre j hj (by omega)]; exact Bool.false_ne_true)]
        refine J_run 200 ?_
        repeat' (first
          | (simp (maxSteps := 1000000) (disch := omega) only [go_sem])
          | ((with_reducible refine CallA.pure cs ?_ ?_); (· simp (disch := omega) only [go_sem]); rintro _ _ ⟨rfl, rfl⟩)
          | ((with_reducible first | refine gDt ?_ ?_ | refine gDf ?_ ?_ | refine gNt ?_ ?_ | refine gNf ?_ ?_ | refine cD ?_ ?_ | refine cN ?_ ?_ | refine cB ?_ ?_ | refine gB ?_ ?_) <;> intro h)
          | with_reducible first | refine And.intro ?_ ?_ | refine J_seq ?_ | refine J_block ?_ | refine J_inBlock ?_ | refine rC ?_ | refine rR ?_ | refine rE ?_ | refine rG ?_ | refine FinQ.now ?_ | refine FinQ.end ?_)
    · rw [if_pos h2]
      simp only [encOff]
      refine holds_of Tryz.func42 rfl rfl ?_
      refine J_run 200 ?_
      delta Tryz.f42
      repeat' (first
        | (simp (maxSteps := 1000000) (disch := omega) only [go_sem, h2])
        | ((with_reducible refine CallA.pure ck ?_ ?_); (· simp (disch := omega) only [go_sem, h2]); rintro _ _ ⟨rfl, rfl⟩)
        | ((with_reducible refine CallA.pure cp ?_ ?_); (· simp (disch := omega) only [go_sem, h2]); rintro _ _ ⟨rfl, rfl⟩)
        | ((with_reducible first | refine gDt ?_ ?_ | refine gDf ?_ ?_ | refine gNt ?_ ?_ | refine gNf ?_ ?_ | refine cD ?_ ?_ | refine cN ?_ ?_ | refine cB ?_ ?_ | refine gB ?_ ?_) <;> intro h)
        | with_reducible first | refine And.intro ?_ ?_ | refine J_seq ?_ | refine J_block ?_ | refine J_inBlock ?_ | refine rC ?_ | refine rR ?_ | refine rE ?_ | refine rG ?_ | refine FinQ.now ?_ | refine FinQ.end ?_)
  · rw [if_pos h1]
    simp only [encOff]
    refine holds_of Tryz.func42 rfl rfl ?_
    refine J_run 200 ?_
    delta Tryz.f42
    repeat' (first
      | (simp (maxSteps := 1000000) (disch := omega) only [go_sem, h1])
      | ((with_reducible refine CallA.pure ck ?_ ?_); (· simp (disch := omega) only [go_sem, h1]); rintro _ _ ⟨rfl, rfl⟩)
      | ((with_reducible first | refine gDt ?_ ?_ | refine gDf ?_ ?_ | refine gNt ?_ ?_ | refine gNf ?_ ?_ | refine cD ?_ ?_ | refine cN ?_ ?_ | refine cB ?_ ?_ | refine gB ?_ ?_) <;> intro h)
      | with_reducible first | refine And.intro ?_ ?_ | refine J_seq ?_ | refine J_block ?_ | refine J_inBlock ?_ | refine rC ?_ | refine rR ?_ | refine rE ?_ | refine rG ?_ | refine FinQ.now ?_ | refine FinQ.end ?_)
set_option maxHeartbeats 8000000 in
theorem condCheck (n : Net) (hs : n.sized) (o : Off) (ho : o.sized) : Fn1 Tryz.prog GT0 11 [.agg (encNet n), .agg (encOff o)] (.raw (.int .i64 (offChk n o))) [] := by
  have c0 := netCheck n hs
  have cc := cCompany o.comp
  have ce := evidenceF n hs o ho
  have ct := thingsF o ho
  have cd := docAll n hs o.docs ho.dl ho.ds
  have cs := certificatesF n hs o.certs ho.cl ho.cs
  have cr := ordersF o.ords ho.rl
  have cn := countedCF o ho
  unfold offChk
  by_cases h0 : n.chk = 0
  · rw [if_neg (by simp [h0])]
    rw [h0] at c0
    by_cases h1 : o.comp < 0 ∨ 7 < o.comp ∨ o.time < 0 ∨ 16777216 < o.time ∨ o.last < 0 ∨ 65536 < o.last
    · rw [if_pos h1]
      simp only [encNet, encOff] at c0 ⊢
      by_cases hc : 0 ≤ o.comp ∧ o.comp ≤ 7
      · rw [decide_eq_true hc] at cc
        refine holds_of Tryz.func11 rfl rfl ?_
        refine J_run 200 ?_
        delta Tryz.f11
        repeat' (first
          | (simp (maxSteps := 1000000) (disch := omega) only [go_sem])
          | ((with_reducible refine CallA.pure c0 ?_ ?_); (· simp (disch := omega) only [go_sem]); rintro _ _ ⟨rfl, rfl⟩)
          | ((with_reducible refine CallA.pure cc ?_ ?_); (· simp (disch := omega) only [go_sem]); rintro _ _ ⟨rfl, rfl⟩)
          | ((with_reducible first | refine gDt ?_ ?_ | refine gDf ?_ ?_ | refine gNt ?_ ?_ | refine gNf ?_ ?_ | refine cD ?_ ?_ | refine cN ?_ ?_ | refine cB ?_ ?_ | refine gB ?_ ?_) <;> intro h)
          | with_reducible first | refine And.intro ?_ ?_ | refine J_seq ?_ | refine J_block ?_ | refine J_inBlock ?_ | refine rC ?_ | refine rR ?_ | refine rE ?_ | refine rG ?_ | refine FinQ.now ?_ | refine FinQ.end ?_)
        all_goals (exfalso; omega)
      · rw [decide_eq_false hc] at cc
        refine holds_of Tryz.func11 rfl rfl ?_
        refine J_run 200 ?_
        delta Tryz.f11
        repeat' (first
          | (simp (maxSteps := 1000000) (disch := omega) only [go_sem])
          | ((with_reducible refine CallA.pure c0 ?_ ?_); (· simp (disch := omega) only [go_sem]); rintro _ _ ⟨rfl, rfl⟩)
          | ((with_reducible refine CallA.pure cc ?_ ?_); (· simp (disch := omega) only [go_sem]); rintro _ _ ⟨rfl, rfl⟩)
          | ((with_reducible first | refine gDt ?_ ?_ | refine gDf ?_ ?_ | refine gNt ?_ ?_ | refine gNf ?_ ?_ | refine cD ?_ ?_ | refine cN ?_ ?_ | refine cB ?_ ?_ | refine gB ?_ ?_) <;> intro h)
          | with_reducible first | refine And.intro ?_ ?_ | refine J_seq ?_ | refine J_block ?_ | refine J_inBlock ?_ | refine rC ?_ | refine rR ?_ | refine rE ?_ | refine rG ?_ | refine FinQ.now ?_ | refine FinQ.end ?_)
    · rw [if_neg h1]
      rw [decide_eq_true (by omega)] at cc
      have n1 : ¬ o.time < 0 := by omega
      have n2 : ¬ 16777216 < o.time := by omega
      have n3 : ¬ o.last < 0 := by omega
      have n4 : ¬ 65536 < o.last := by omega
      have d1 := decide_eq_false n1
      have d2 := decide_eq_false n2
      have d3 := decide_eq_false n3
      have d4 := decide_eq_false n4
      clear h1
      generalize evidE n o = e1 at ce ⊢
      generalize thingsE o = e2 at ct ⊢
      generalize allChk n o.docs = e3 at cd ⊢
      generalize certsB n o.certs = b1 at cs ⊢
      generalize ordsB o.ords = b2 at cr ⊢
      generalize countedB o = b3 at cn ⊢
      simp only [encNet, encOff] at c0 ce ct cd cs cn ⊢
      by_cases g1 : e1 = 0
      · subst g1
        rw [if_neg (by simp)]
        by_cases g2 : e2 = 0
        · subst g2
          rw [if_neg (by simp)]
          by_cases g3 : e3 = 0
          · subst g3
            rw [if_neg (by simp)]
            cases b1 <;> cases b2 <;> cases b3
            all_goals
              simp only [Bool.false_eq_true, Bool.true_eq_false, if_true, if_false]
              refine holds_of Tryz.func11 rfl rfl ?_
              refine J_run 200 ?_
              delta Tryz.f11
              repeat' (first
                | (simp (maxSteps := 1000000) (disch := omega) only [go_sem, d1, d2, d3, d4])
                | ((with_reducible refine CallA.pure c0 ?_ ?_); (· simp (disch := omega) only [go_sem, d1, d2, d3, d4]); rintro _ _ ⟨rfl, rfl⟩)
                | ((with_reducible refine CallA.pure cc ?_ ?_); (· simp (disch := omega) only [go_sem, d1, d2, d3, d4]); rintro _ _ ⟨rfl, rfl⟩)
                | ((with_reducible refine CallA.pure ce ?_ ?_); (· simp (disch := omega) only [go_sem, d1, d2, d3, d4]); rintro _ _ ⟨rfl, rfl⟩)
                | ((with_reducible refine CallA.pure ct ?_ ?_); (· simp (disch := omega) only [go_sem, d1, d2, d3, d4]); rintro _ _ ⟨rfl, rfl⟩)
                | ((with_reducible refine CallA.pure cd ?_ ?_); (· simp (disch := omega) only [go_sem, d1, d2, d3, d4]); rintro _ _ ⟨rfl, rfl⟩)
                | ((with_reducible refine CallA.pure cs ?_ ?_); (· simp (disch := omega) only [go_sem, d1, d2, d3, d4]); rintro _ _ ⟨rfl, rfl⟩)
                | ((with_reducible refine CallA.pure cr ?_ ?_); (· simp (disch := omega) only [go_sem, d1, d2, d3, d4]); rintro _ _ ⟨rfl, rfl⟩)
                | ((with_reducible refine CallA.pure cn ?_ ?_); (· simp (disch := omega) only [go_sem, d1, d2, d3, d4]); rintro _ _ ⟨rfl, rfl⟩)
                | ((with_reducible first | refine gDt ?_ ?_ | refine gDf ?_ ?_ | refine gNt ?_ ?_ | refine gNf ?_ ?_ | refine cD ?_ ?_ | refine cN ?_ ?_ | refine cB ?_ ?_ | refine gB ?_ ?_) <;> intro h)
                | with_reducible first | refine And.intro ?_ ?_ | refine J_seq ?_ | refine J_block ?_ | refine J_inBlock ?_ | refine rC ?_ | refine rR ?_ | refine rE ?_ | refine rG ?_ | refine FinQ.now ?_ | refine FinQ.end ?_)
          · rw [if_pos g3]
            refine holds_of Tryz.func11 rfl rfl ?_
            refine J_run 200 ?_
            delta Tryz.f11
            repeat' (first
              | (simp (maxSteps := 1000000) (disch := omega) only [go_sem, g3, d1, d2, d3, d4])
              | ((with_reducible refine CallA.pure c0 ?_ ?_); (· simp (disch := omega) only [go_sem, g3, d1, d2, d3, d4]); rintro _ _ ⟨rfl, rfl⟩)
              | ((with_reducible refine CallA.pure cc ?_ ?_); (· simp (disch := omega) only [go_sem, g3, d1, d2, d3, d4]); rintro _ _ ⟨rfl, rfl⟩)
              | ((with_reducible refine CallA.pure ce ?_ ?_); (· simp (disch := omega) only [go_sem, g3, d1, d2, d3, d4]); rintro _ _ ⟨rfl, rfl⟩)
              | ((with_reducible refine CallA.pure ct ?_ ?_); (· simp (disch := omega) only [go_sem, g3, d1, d2, d3, d4]); rintro _ _ ⟨rfl, rfl⟩)
              | ((with_reducible refine CallA.pure cd ?_ ?_); (· simp (disch := omega) only [go_sem, g3, d1, d2, d3, d4]); rintro _ _ ⟨rfl, rfl⟩)
              | ((with_reducible first | refine gDt ?_ ?_ | refine gDf ?_ ?_ | refine gNt ?_ ?_ | refine gNf ?_ ?_ | refine cD ?_ ?_ | refine cN ?_ ?_ | refine cB ?_ ?_ | refine gB ?_ ?_) <;> intro h)
              | with_reducible first | refine And.intro ?_ ?_ | refine J_seq ?_ | refine J_block ?_ | refine J_inBlock ?_ | refine rC ?_ | refine rR ?_ | refine rE ?_ | refine rG ?_ | refine FinQ.now ?_ | refine FinQ.end ?_)
        · rw [if_pos g2]
          refine holds_of Tryz.func11 rfl rfl ?_
          refine J_run 200 ?_
          delta Tryz.f11
          repeat' (first
            | (simp (maxSteps := 1000000) (disch := omega) only [go_sem, g2, d1, d2, d3, d4])
            | ((with_reducible refine CallA.pure c0 ?_ ?_); (· simp (disch := omega) only [go_sem, g2, d1, d2, d3, d4]); rintro _ _ ⟨rfl, rfl⟩)
            | ((with_reducible refine CallA.pure cc ?_ ?_); (· simp (disch := omega) only [go_sem, g2, d1, d2, d3, d4]); rintro _ _ ⟨rfl, rfl⟩)
            | ((with_reducible refine CallA.pure ce ?_ ?_); (· simp (disch := omega) only [go_sem, g2, d1, d2, d3, d4]); rintro _ _ ⟨rfl, rfl⟩)
            | ((with_reducible refine CallA.pure ct ?_ ?_); (· simp (disch := omega) only [go_sem, g2, d1, d2, d3, d4]); rintro _ _ ⟨rfl, rfl⟩)
            | ((with_reducible first | refine gDt ?_ ?_ | refine gDf ?_ ?_ | refine gNt ?_ ?_ | refine gNf ?_ ?_ | refine cD ?_ ?_ | refine cN ?_ ?_ | refine cB ?_ ?_ | refine gB ?_ ?_) <;> intro h)
            | with_reducible first | refine And.intro ?_ ?_ | refine J_seq ?_ | refine J_block ?_ | refine J_inBlock ?_ | refine rC ?_ | refine rR ?_ | refine rE ?_ | refine rG ?_ | refine FinQ.now ?_ | refine FinQ.end ?_)
      · rw [if_pos g1]
        refine holds_of Tryz.func11 rfl rfl ?_
        refine J_run 200 ?_
        delta Tryz.f11
        repeat' (first
          | (simp (maxSteps := 1000000) (disch := omega) only [go_sem, g1, d1, d2, d3, d4])
          | ((with_reducible refine CallA.pure c0 ?_ ?_); (· simp (disch := omega) only [go_sem, g1, d1, d2, d3, d4]); rintro _ _ ⟨rfl, rfl⟩)
          | ((with_reducible refine CallA.pure cc ?_ ?_); (· simp (disch := omega) only [go_sem, g1, d1, d2, d3, d4]); rintro _ _ ⟨rfl, rfl⟩)
          | ((with_reducible refine CallA.pure ce ?_ ?_); (· simp (disch := omega) only [go_sem, g1, d1, d2, d3, d4]); rintro _ _ ⟨rfl, rfl⟩)
          | ((with_reducible first | refine gDt ?_ ?_ | refine gDf ?_ ?_ | refine gNt ?_ ?_ | refine gNf ?_ ?_ | refine cD ?_ ?_ | refine cN ?_ ?_ | refine cB ?_ ?_ | refine gB ?_ ?_) <;> intro h)
          | with_reducible first | refine And.intro ?_ ?_ | refine J_seq ?_ | refine J_block ?_ | refine J_inBlock ?_ | refine rC ?_ | refine rR ?_ | refine rE ?_ | refine rG ?_ | refine FinQ.now ?_ | refine FinQ.end ?_)
  · rw [if_pos h0]
    simp only [encNet] at c0 ⊢
    refine holds_of Tryz.func11 rfl rfl ?_
    refine J_run 200 ?_
    delta Tryz.f11
    repeat' (first
      | (simp (maxSteps := 1000000) (disch := omega) only [go_sem, h0])
      | ((with_reducible refine CallA.pure c0 ?_ ?_); (· simp (disch := omega) only [go_sem, h0]); rintro _ _ ⟨rfl, rfl⟩)
      | ((with_reducible first | refine gDt ?_ ?_ | refine gDf ?_ ?_ | refine gNt ?_ ?_ | refine gNf ?_ ?_ | refine cD ?_ ?_ | refine cN ?_ ?_ | refine cB ?_ ?_ | refine gB ?_ ?_) <;> intro h)
      | with_reducible first | refine And.intro ?_ ?_ | refine J_seq ?_ | refine J_block ?_ | refine J_inBlock ?_ | refine rC ?_ | refine rR ?_ | refine rE ?_ | refine rG ?_ | refine FinQ.now ?_ | refine FinQ.end ?_)
theorem ownL_next {n : Net} {c : Int} {l : List Lk} {i : Nat} (hi : i < l.length) : ownL n c (l.take (i + 1)) = ownL n c (l.take i) ++ (if compOf n l[i] = c then [l[i]] else []) := by
  unfold ownL
  rw [List.take_succ_eq_append_getElem hi, List.filter_append]
  congr 1
  simp only [List.filter_cons, List.filter_nil, decide_eq_true_eq]
theorem ownL_len {n : Net} {c : Int} {l : List Lk} {i : Nat} : (ownL n c (l.take i)).length ≤ i := by
  unfold ownL
  exact Nat.le_trans (List.length_filter_le _ _) (by rw [List.length_take]; omega)
set_option maxHeartbeats 8000000 in
theorem condOwn (n : Net) (hs : n.sized) (c : Int) (l : List Lk) (hl : l.length ≤ 1000000) : Fn1 Tryz.prog GT0 9 [.agg (encNet n), .raw (.int .i64 c), .lst 3 (l.map encLk)] (.tup [.lst 3 ((ownR n c l).1.map encLk), .raw (.int .i64 (ownR n c l).2)]) [] := by
  have cl := lockCheck n hs l hl
  have cc := cCompany c
  by_cases h0 : lockChk n l = 0
  · rw [h0] at cl
    by_cases h1 : c < 0 ∨ 7 < c
    · have e : ownE n c l = 5 := by unfold ownE; rw [if_neg (by simp [h0]), if_pos h1]
      have e2 : ownR n c l = ([], 5) := by unfold ownR; rw [e]; rfl
      rw [e2]
      rw [decide_eq_false (by omega)] at cc
      simp only [encNet] at cl ⊢
      refine holds_ofV Tryz.func9 rfl rfl ?_
      refine J_run 200 ?_
      delta Tryz.f9
      repeat' (first
        | (simp (maxSteps := 1000000) (disch := omega) only [go_sem])
        | ((with_reducible refine CallA.pure cl ?_ ?_); (· simp (disch := omega) only [go_sem]); rintro _ _ ⟨rfl, rfl⟩)
        | ((with_reducible refine CallA.pure cc ?_ ?_); (· simp (disch := omega) only [go_sem]); rintro _ _ ⟨rfl, rfl⟩)
        | ((with_reducible first | refine gDt ?_ ?_ | refine gDf ?_ ?_ | refine gNt ?_ ?_ | refine gNf ?_ ?_ | refine cD ?_ ?_ | refine cN ?_ ?_ | refine cB ?_ ?_ | refine gB ?_ ?_) <;> intro h)
        | with_reducible first | refine And.intro ?_ ?_ | refine J_seq ?_ | refine J_block ?_ | refine J_inBlock ?_ | refine rC ?_ | refine rR ?_ | refine rE ?_ | refine rG ?_ | refine FinQ.now ?_ | refine FinQ.end ?_)
      all_goals exact ⟨_, .tup (.cons (.nilLst 3) (VLes.refl _)), rfl, rfl⟩
    · have e : ownE n c l = 0 := by unfold ownE; rw [if_neg (by simp [h0]), if_neg h1]
      have e2 : ownR n c l = (ownL n c l, 0) := by unfold ownR; rw [e]; rfl
      rw [e2]
      show Fn1 _ _ _ _ (.tup [.lst 3 ((ownL n c l).map encLk), .raw (.int .i64 0)]) []
      rw [decide_eq_true (by omega)] at cc
      have hd := lockChk_dev h0
      simp only [encNet] at cl ⊢
      refine holds_of Tryz.func9 rfl rfl ?_
      refine J_run 200 ?_
      delta Tryz.f9
      repeat' (first
        | (simp (maxSteps := 1000000) (disch := omega) only [go_sem])
        | ((with_reducible refine CallA.pure cl ?_ ?_); (· simp (disch := omega) only [go_sem]); rintro _ _ ⟨rfl, rfl⟩)
        | ((with_reducible refine CallA.pure cc ?_ ?_); (· simp (disch := omega) only [go_sem]); rintro _ _ ⟨rfl, rfl⟩)
        | ((with_reducible first | refine gDt ?_ ?_ | refine gDf ?_ ?_ | refine gNt ?_ ?_ | refine gNf ?_ ?_ | refine cD ?_ ?_ | refine cN ?_ ?_ | refine cB ?_ ?_ | refine gB ?_ ?_) <;> intro h)
        | with_reducible first | refine And.intro ?_ ?_ | refine J_seq ?_ | refine J_block ?_ | refine J_inBlock ?_ | refine rC ?_ | refine rR ?_ | refine rE ?_ | refine rG ?_ | refine FinQ.now ?_ | refine FinQ.end ?_)
      refine J_nilName 9 3 (by simp only [go_sem]) ?_
      simp only [go_sem]
      refine J_for ([9] ++ [11] ++ upto 24 40) (fun i : Nat => [(23, .raw (.int .i64 i)), (9, .own 1 3 0 (ownL n c (l.take i)).length)]) (fun i => [.box [.lst 3 (n.nodes.map encNd), .lst 5 (n.devs.map encDv)], .arr 3 ((ownL n c (l.take i)).map encLk)]) (fun i => i ≤ (l).length ∧ (True)) (fun i => (l).length - i) 0 ⟨by omega, trivial⟩ (.le (by simp [go_sem, ownL]) (by simp)) ?_
      rintro i ⟨hi, hpre⟩
      have hcl := ownL_len (n := n) (c := c) (l := l) (i := i)
      by_cases hlt : i < l.length
      · have ⟨k0, k1⟩ := hd _ (List.getElem_mem hlt)
        have hkl : l[i].dev.toNat < n.devs.length := by omega
        have hg := getD_Lk hlt
        have hg2 := getD_Dv hkl
        have ht := ownL_next (n := n) (c := c) hlt
        have hco : compOf n l[i] = n.devs[l[i].dev.toNat].comp := by unfold compOf; rw [getD_get hkl]
        rw [hco] at ht
        by_cases he : n.devs[l[i].dev.toNat].comp = c
        · have hed := decide_eq_true he
          rw [if_pos he] at ht
          refine J_run 200 ?_
          repeat' (first
            | (simp (maxSteps := 1000000) (disch := omega) only [go_sem, hg, hg2, hed, Nat.reduceLT])
            | ((with_reducible first | refine gDt ?_ ?_ | refine gDf ?_ ?_ | refine gNt ?_ ?_ | refine gNf ?_ ?_ | refine cD ?_ ?_ | refine cN ?_ ?_ | refine cB ?_ ?_ | refine gB ?_ ?_) <;> intro h)
            | with_reducible first | refine And.intro ?_ ?_ | refine J_seq ?_ | refine J_block ?_ | refine J_inBlock ?_ | refine rC ?_ | refine rR ?_ | refine rE ?_ | refine rG ?_ | refine FinQ.now ?_ | refine FinQ.end ?_)
          refine .mk (i + 1) (by first | exact hlt | exact ⟨hlt, trivial⟩) (by omega) (by rw [ht]; simp [go_sem, encLk]) (by simp)
        · have hed := decide_eq_false he
          rw [if_neg he, List.append_nil] at ht
          refine J_run 200 ?_
          repeat' (first
            | (simp (maxSteps := 1000000) (disch := omega) only [go_sem, hg, hg2, hed, Nat.reduceLT])
            | ((with_reducible first | refine gDt ?_ ?_ | refine gDf ?_ ?_ | refine gNt ?_ ?_ | refine gNf ?_ ?_ | refine cD ?_ ?_ | refine cN ?_ ?_ | refine cB ?_ ?_ | refine gB ?_ ?_) <;> intro h)
            | with_reducible first | refine And.intro ?_ ?_ | refine J_seq ?_ | refine J_block ?_ | refine J_inBlock ?_ | refine rC ?_ | refine rR ?_ | refine rE ?_ | refine rG ?_ | refine FinQ.now ?_ | refine FinQ.end ?_)
          refine .mk (i + 1) (by first | exact hlt | exact ⟨hlt, trivial⟩) (by omega) (by rw [ht]; simp [go_sem, encLk]) (by simp)
      · have hie : i = l.length := by omega
        subst hie
        rw [List.take_length]
        refine J_run 200 ?_
        repeat' (first
          | (simp (maxSteps := 1000000) (disch := omega) only [go_sem])
          | ((with_reducible first | refine gDt ?_ ?_ | refine gDf ?_ ?_ | refine gNt ?_ ?_ | refine gNf ?_ ?_ | refine cD ?_ ?_ | refine cN ?_ ?_ | refine cB ?_ ?_ | refine gB ?_ ?_) <;> intro h)
          | with_reducible first | refine And.intro ?_ ?_ | refine J_seq ?_ | refine J_block ?_ | refine J_inBlock ?_ | refine rC ?_ | refine rR ?_ | refine rE ?_ | refine rG ?_)
        refine .frz [1] (.now ?_)
        simp only [go_sem, take_lm]
  · have e : ownE n c l = lockChk n l := if_pos h0
    have e2 : ownR n c l = ([], lockChk n l) := by unfold ownR; rw [e, if_pos h0]
    rw [e2]
    simp only [encNet] at cl ⊢
    refine holds_ofV Tryz.func9 rfl rfl ?_
    refine J_run 200 ?_
    delta Tryz.f9
    repeat' (first
      | (simp (maxSteps := 1000000) (disch := omega) only [go_sem, h0])
      | ((with_reducible refine CallA.pure cl ?_ ?_); (· simp (disch := omega) only [go_sem, h0]); rintro _ _ ⟨rfl, rfl⟩)
      | ((with_reducible first | refine gDt ?_ ?_ | refine gDf ?_ ?_ | refine gNt ?_ ?_ | refine gNf ?_ ?_ | refine cD ?_ ?_ | refine cN ?_ ?_ | refine cB ?_ ?_ | refine gB ?_ ?_) <;> intro h)
      | with_reducible first | refine And.intro ?_ ?_ | refine J_seq ?_ | refine J_block ?_ | refine J_inBlock ?_ | refine rC ?_ | refine rR ?_ | refine rE ?_ | refine rG ?_ | refine FinQ.now ?_ | refine FinQ.end ?_)
    all_goals exact ⟨_, .tup (.cons (.nilLst 3) (VLes.refl _)), rfl, rfl⟩
end Go.Proofs.YtmfgaefefgnhbaaGreatDoor.Abs
