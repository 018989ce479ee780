/- Lists of numbers, names, decks: what the functions compute. -/
import Derived.Test.YtangkndckghblaaDoorZC
import Derived.Test.YtangkndckghblaaDoorAbsP
namespace Go.Proofs.YtangkndckghblaaDoor.Abs
set_option linter.unusedSimpArgs false
set_option linter.unusedVariables false
set_option maxRecDepth 100000
open Go Go.RowKit

theorem refGap (k : Int) : Fn1 Tryd.prog GT0 18 [.raw (.int .i64 k)] (.raw (.bool (gapK k))) [] := by
  refine holds_of Tryd.func18 rfl rfl ?_
  refine J_run 200 ?_
  delta Tryd.f18
  repeat' (first
    | (simp (maxSteps := 1000000) (disch := omega) only [go_sem])
    | ((with_reducible first | refine gDt ?_ ?_ | refine gDf ?_ ?_ | refine gNt ?_ ?_ | refine gNf ?_ ?_ | refine cD ?_ ?_ | refine cN ?_ ?_ | refine cB ?_ ?_ | refine gB ?_ ?_) <;> intro h)
    | with_reducible first | refine And.intro ?_ ?_ | refine J_seq ?_ | refine J_block ?_ | refine J_inBlock ?_ | refine rC ?_ | refine rR ?_ | refine rE ?_ | refine rG ?_ | refine FinQ.now ?_ | refine FinQ.end ?_)
  all_goals first | (simp_all [gapK]; done) | (simp_all [gapK]; omega) | omega
theorem has (l : List Int) (x : Int) (hl : l.length ≤ 1000000) : Fn1 Tryd.prog GT0 20 [.lst 1 (l.map encN), .raw (.int .i64 x)] (.raw (.bool (decide (x ∈ l)))) [] := by
  refine holds_of Tryd.func20 rfl rfl ?_
  refine J_run 200 ?_
  delta Tryd.f20
  repeat' (first
    | (simp (maxSteps := 1000000) (disch := omega) only [go_sem])
    | ((with_reducible first | refine gDt ?_ ?_ | refine gDf ?_ ?_ | refine gNt ?_ ?_ | refine gNf ?_ ?_ | refine cD ?_ ?_ | refine cN ?_ ?_ | refine cB ?_ ?_ | refine gB ?_ ?_) <;> intro h)
    | with_reducible first | refine And.intro ?_ ?_ | refine J_seq ?_ | refine J_block ?_ | refine J_inBlock ?_ | refine rC ?_ | refine rR ?_ | refine rE ?_ | refine rG ?_ | refine FinQ.now ?_ | refine FinQ.end ?_)
  refine J_for (upto 6 17) (fun i : Nat => [(5, .raw (.int .i64 i))]) (fun _ => []) (fun i => i ≤ l.length ∧ ∀ j (hj : j < i) (h : j < l.length), l[j] ≠ x) (fun i => l.length - i) 0 ⟨by omega, by omega⟩ (.le (by simp [go_sem]) (by simp)) ?_
  rintro i ⟨hi, hpre⟩
  by_cases hlt : i < l.length
  · refine J_run 200 ?_
    repeat' (first
      | (simp (maxSteps := 1000000) (disch := omega) only [go_sem, getD_N])
      | ((with_reducible first | refine gDt ?_ ?_ | refine gDf ?_ ?_ | refine gNt ?_ ?_ | refine gNf ?_ ?_ | refine cD ?_ ?_ | refine cN ?_ ?_ | refine cB ?_ ?_ | refine gB ?_ ?_) <;> intro h)
      | with_reducible first | refine And.intro ?_ ?_ | refine J_seq ?_ | refine J_block ?_ | refine J_inBlock ?_ | refine rC ?_ | refine rR ?_ | refine rE ?_ | refine rG ?_ | refine FinQ.now ?_ | refine FinQ.end ?_)
    · have hm : x ∈ l := by rw [← h]; exact List.getElem_mem hlt
      simp [hm]
    · exact .mk (i + 1) ⟨hlt, fun j hj hx => by
        rcases Nat.lt_succ_iff_lt_or_eq.1 hj with h1 | rfl
        · exact hpre j h1 hx
        · exact h⟩ (by omega) (by simp [go_sem]) (by simp)
  · refine J_run 200 ?_
    repeat' (first
      | (simp (maxSteps := 1000000) (disch := omega) only [go_sem])
      | ((with_reducible first | refine gDt ?_ ?_ | refine gDf ?_ ?_ | refine gNt ?_ ?_ | refine gNf ?_ ?_ | refine cD ?_ ?_ | refine cN ?_ ?_ | refine cB ?_ ?_ | refine gB ?_ ?_) <;> intro h)
      | with_reducible first | refine And.intro ?_ ?_ | refine J_seq ?_ | refine J_block ?_ | refine J_inBlock ?_ | refine rC ?_ | refine rR ?_ | refine rE ?_ | refine rG ?_ | refine FinQ.now ?_ | refine FinQ.end ?_)
    have hm : ¬ x ∈ l := by
      intro hm
      obtain ⟨j, hj, rfl⟩ := List.mem_iff_getElem.1 hm
      exact hpre j (by omega) hj rfl
    simp [hm]
theorem ints (a b : List Int) (ha : a.length ≤ 1000000) (hb : b.length ≤ 1000000) : Fn1 Tryd.prog GT0 17 [.lst 1 (a.map encN), .lst 1 (b.map encN)] (.raw (.bool (decide (a = b)))) [] := by
  refine holds_of Tryd.func17 rfl rfl ?_
  refine J_run 200 ?_
  delta Tryd.f17
  repeat' (first
    | (simp (maxSteps := 1000000) (disch := omega) only [go_sem])
    | ((with_reducible first | refine gDt ?_ ?_ | refine gDf ?_ ?_ | refine gNt ?_ ?_ | refine gNf ?_ ?_ | refine cD ?_ ?_ | refine cN ?_ ?_ | refine cB ?_ ?_ | refine gB ?_ ?_) <;> intro h)
    | with_reducible first | refine And.intro ?_ ?_ | refine J_seq ?_ | refine J_block ?_ | refine J_inBlock ?_ | refine rC ?_ | refine rR ?_ | refine rE ?_ | refine rG ?_ | refine FinQ.now ?_ | refine FinQ.end ?_)
  · have : ¬ a = b := fun e => h (by rw [e])
    simp [this]
  have hl : a.length = b.length := by omega
  refine J_for (upto 11 25) (fun i : Nat => [(5, .raw (.int .i64 i))]) (fun _ => []) (fun i => i ≤ a.length ∧ ∀ j (hj : j < i) (h1 : j < a.length) (h2 : j < b.length), a[j] = b[j]) (fun i => a.length - i) 0 ⟨by omega, by omega⟩ (.le (by simp [go_sem]) (by simp)) ?_
  rintro i ⟨hi, hpre⟩
  by_cases hlt : i < a.length
  · have hlt' : i < b.length := by omega
    refine J_run 200 ?_
    repeat' (first
      | ((with_reducible refine J_draw (id := 6) 200 [] plan17_6 (by kernel_rfl) (by kernel_rfl) ?_); delta plan17_6)
      | (simp (maxSteps := 1000000) (disch := omega) only [go_sem, getD_N])
      | ((with_reducible first | refine gDt ?_ ?_ | refine gDf ?_ ?_ | refine gNt ?_ ?_ | refine gNf ?_ ?_ | refine cD ?_ ?_ | refine cN ?_ ?_ | refine cB ?_ ?_ | refine gB ?_ ?_) <;> intro h)
      | with_reducible first | refine And.intro ?_ ?_ | refine J_seq ?_ | refine J_block ?_ | refine J_inBlock ?_ | refine rC ?_ | refine rR ?_ | refine rE ?_ | refine rG ?_ | refine FinQ.now ?_ | refine FinQ.end ?_)
    · have : ¬ a = b := fun e => by subst e; simp_all
      simp [this]
    · refine .mk (i + 1) ⟨hlt, fun j hj h1 h2 => ?_⟩ (by omega) (by simp [go_sem]) (by simp)
      rcases Nat.lt_succ_iff_lt_or_eq.1 hj with h3 | rfl
      · exact hpre j h3 h1 h2
      · assumption
  · refine J_run 200 ?_
    repeat' (first
      | (simp (maxSteps := 1000000) (disch := omega) only [go_sem])
      | ((with_reducible first | refine gDt ?_ ?_ | refine gDf ?_ ?_ | refine gNt ?_ ?_ | refine gNf ?_ ?_ | refine cD ?_ ?_ | refine cN ?_ ?_ | refine cB ?_ ?_ | refine gB ?_ ?_) <;> intro h)
      | with_reducible first | refine And.intro ?_ ?_ | refine J_seq ?_ | refine J_block ?_ | refine J_inBlock ?_ | refine rC ?_ | refine rR ?_ | refine rE ?_ | refine rG ?_ | refine FinQ.now ?_ | refine FinQ.end ?_)
    have : a = b := List.ext_getElem hl fun j h1 h2 => hpre j (by omega) h1 h2
    simp [this]
theorem risingFrom_drop {u : Int} {l : List Int} {last : Int} {i : Nat} (hi : i < l.length) : risingFrom u last (l.drop i) = (decide (last < l[i] ∧ l[i] < u) && risingFrom u l[i] (l.drop (i + 1))) := by
  rw [List.drop_eq_getElem_cons hi]
  rfl
set_option maxHeartbeats 1000000 in
theorem risingF (l : List Int) (u : Int) (hl : l.length ≤ 1000000) : Fn1 Tryd.prog GT0 59 [.lst 1 (l.map encN), .raw (.int .i64 u)] (.raw (.bool (rising l u))) [] := by
  refine holds_of Tryd.func59 rfl rfl ?_
  refine J_run 200 ?_
  delta Tryd.f59
  repeat' (first
    | (simp (maxSteps := 1000000) (disch := omega) only [go_sem])
    | ((with_reducible first | refine gDt ?_ ?_ | refine gDf ?_ ?_ | refine gNt ?_ ?_ | refine gNf ?_ ?_ | refine cD ?_ ?_ | refine cN ?_ ?_ | refine cB ?_ ?_ | refine gB ?_ ?_) <;> intro h)
    | with_reducible first | refine And.intro ?_ ?_ | refine J_seq ?_ | refine J_block ?_ | refine J_inBlock ?_ | refine rC ?_ | refine rR ?_ | refine rE ?_ | refine rG ?_ | refine FinQ.now ?_ | refine FinQ.end ?_)
  refine J_for (upto 12 24 ++ [7]) (fun x : Nat × Int => [(11, .raw (.int .i64 x.1)), (5, .raw (.int .i64 x.2))]) (fun _ => []) (fun x => x.1 ≤ l.length ∧ rising l u = risingFrom u x.2 (l.drop x.1)) (fun x => l.length - x.1) (0, -1) ⟨by omega, by simp [rising]⟩ (.le (by simp [go_sem]) (by simp)) ?_
  rintro ⟨i, last⟩ ⟨hi, hpre⟩
  simp only at hi hpre
  by_cases hlt : i < l.length
  · rw [risingFrom_drop hlt] at hpre
    refine J_run 200 ?_
    repeat' (first
      | (simp (maxSteps := 1000000) (disch := omega) only [go_sem, getD_N])
      | ((with_reducible first | refine gDt ?_ ?_ | refine gDf ?_ ?_ | refine gNt ?_ ?_ | refine gNf ?_ ?_ | refine cD ?_ ?_ | refine cN ?_ ?_ | refine cB ?_ ?_ | refine gB ?_ ?_) <;> intro h)
      | with_reducible first | refine And.intro ?_ ?_ | refine J_seq ?_ | refine J_block ?_ | refine J_inBlock ?_ | refine rC ?_ | refine rR ?_ | refine rE ?_ | refine rG ?_ | refine FinQ.now ?_ | refine FinQ.end ?_)
    all_goals first
      | (exact .mk (i + 1, l[i]) ⟨hlt, by rw [hpre]; simp only; rw [decide_eq_true (by omega)]; simp⟩ (by simp only; omega) (by simp [go_sem]) (by simp))
      | (rw [hpre]; symm; rw [Bool.and_eq_false_iff]; left; simp; omega)
      | trace_state
  · have hil : i = l.length := by omega
    subst hil
    refine J_run 200 ?_
    repeat' (first
      | (simp (maxSteps := 1000000) (disch := omega) only [go_sem])
      | ((with_reducible first | refine gDt ?_ ?_ | refine gDf ?_ ?_ | refine gNt ?_ ?_ | refine gNf ?_ ?_ | refine cD ?_ ?_ | refine cN ?_ ?_ | refine cB ?_ ?_ | refine gB ?_ ?_) <;> intro h)
      | with_reducible first | refine And.intro ?_ ?_ | refine J_seq ?_ | refine J_block ?_ | refine J_inBlock ?_ | refine rC ?_ | refine rR ?_ | refine rE ?_ | refine rG ?_ | refine FinQ.now ?_ | refine FinQ.end ?_)
    rw [hpre]
    simp [risingFrom]
theorem cloneN (xs : List (List AV)) (hl : xs.length ≤ 1000000) : Fn1 Tryd.prog GT0 81 [.lst 1 xs] (.own 0 1 0 xs.length) [.arr 1 xs] := by
  refine holds_of Tryd.func81 rfl rfl ?_
  refine J_run 200 ?_
  delta Tryd.f81
  simp (maxSteps := 1000000) (disch := omega) only [go_sem]
  intro b hb
  refine condW_by (fun ht => ?_) (fun ht => ?_)
  · obtain rfl := hb ht
    simp (maxSteps := 1000000) (disch := omega) only [go_sem]
    refine .nilName 2 1 rfl (.now ?_)
    simp only [go_sem]
  · simp (maxSteps := 1000000) (disch := omega) only [go_sem]
    refine .now ?_
    simp only [go_sem]
end Go.Proofs.YtangkndckghblaaDoor.Abs
