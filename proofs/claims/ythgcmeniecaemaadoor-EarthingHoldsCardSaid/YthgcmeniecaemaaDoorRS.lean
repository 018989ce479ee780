/- References: positions of all devices; states that agree with masks. -/
import Derived.Test.YthgcmeniecaemaaDoorR1
import Derived.Test.YthgcmeniecaemaaDoorZ2
namespace Go.Proofs.YthgcmeniecaemaaDoor.Abs
set_option linter.unusedSimpArgs false
set_option linter.unusedVariables false
set_option maxRecDepth 100000
open Go Go.RowKit

def pErr (l : List Int) (most : Int) (i : Nat) : Int := if l.getD i 0 < 1 ∨ most < l.getD i 0 then 10 else 0
def posChk (n : Net) (l : List Int) (most : Int) : Int := if n.chk ≠ 0 then n.chk else if l.length ≠ n.devs.length then 9 else firstE (pErr l most) l.length
theorem posChk_ok {n : Net} (hn : n.ok) {l : List Int} {most : Int} (hl : l.length = n.devs.length) (h : ∀ x, x ∈ l → 1 ≤ x ∧ x ≤ most) : posChk n l most = 0 := by
  unfold posChk
  rw [if_neg (by simp [Net.chk_ok.2 hn]), if_neg (by simp [hl])]
  refine firstE_none fun i hi => ?_
  have := h _ (List.getElem_mem hi)
  unfold pErr
  rw [getD_get hi, if_neg (by omega)]
set_option maxHeartbeats 4000000 in
theorem positions (n : Net) (hs : n.sized) (l : List Int) (hl : l.length ≤ 1000000) (most : Int) : Fn1 Tryd.prog GT0 69 [.agg (encNet n), .lst 1 (l.map encN), .raw (.int .i64 most)] (.raw (.int .i64 (posChk n l most))) [] := by
  have cc := refCheck n hs
  have hdl := hs.dl
  by_cases h0 : n.chk = 0
  · rw [h0] at cc
    by_cases hll : l.length = n.devs.length
    · have e : posChk n l most = firstE (pErr l most) l.length := by unfold posChk; rw [if_neg (by simp [h0]), if_neg (by simp [hll])]
      rw [e]
      refine holds_of Tryd.func69 rfl rfl ?_
      refine J_run 200 ?_
      delta Tryd.f69
      simp only [encNet] at cc ⊢
      iterate 10 (all_goals (try (first
        | (exfalso; omega)
        | (simp (maxSteps := 1000000) (disch := omega) only [go_sem])
        | ((with_reducible refine CallA.pure cc ?_ ?_); (· simp (disch := omega) only [go_sem]); rintro _ _ ⟨rfl, rfl⟩)
        | ((with_reducible first | refine gDt ?_ ?_ | refine gDf ?_ ?_ | refine gNt ?_ ?_ | refine gNf ?_ ?_ | refine cD ?_ ?_ | refine cN ?_ ?_ | refine cB ?_ ?_ | refine gB ?_ ?_) <;> intro h)
        | with_reducible first | refine And.intro ?_ ?_ | refine J_seq ?_ | refine J_block ?_ | refine J_inBlock ?_ | refine rC ?_ | refine rR ?_ | refine rE ?_ | refine rG ?_ | refine FinQ.now ?_ | refine FinQ.end ?_)))
      refine J_for (upto 20 38) (fun i : Nat => [(8, .raw (.int .i64 i))]) (fun i => [.box (encNet n)]) (fun i => i ≤ l.length ∧ ∀ j, j < i → pErr l most j = 0) (fun i => l.length - i) 0 ⟨by omega, by omega⟩ (.le (by simp [go_sem, encNet]) (by simp)) ?_
      rintro i ⟨hi, hpre⟩
      simp only [encNet]
      by_cases hlt : i < l.length
      · have hg := getD_N hlt
        have hp : pErr l most i = if l[i] < 1 ∨ most < l[i] then 10 else 0 := by unfold pErr; rw [getD_get hlt]
        refine J_run 200 ?_
        iterate 14 (all_goals (try (first
          | (simp (maxSteps := 1000000) (disch := omega) only [go_sem, hg])
          | ((with_reducible first | refine gDt ?_ ?_ | refine gDf ?_ ?_ | refine gNt ?_ ?_ | refine gNf ?_ ?_ | refine cD ?_ ?_ | refine cN ?_ ?_ | refine cB ?_ ?_ | refine gB ?_ ?_) <;> intro h)
          | with_reducible first | refine And.intro ?_ ?_ | refine J_seq ?_ | refine J_block ?_ | refine J_inBlock ?_ | refine rC ?_ | refine rR ?_ | refine rE ?_ | refine rG ?_ | refine FinQ.now ?_ | refine FinQ.end ?_)))
        all_goals first
          | (rw [firstE_hit hlt hpre (by rw [hp, if_pos (by omega)]; decide), hp, if_pos (by omega)]; done)
          | (refine LoopEnd.mk (i + 1) ⟨hlt, fun j hj => ?_⟩ (by omega) ?_ ?_; (· rcases Nat.lt_succ_iff_lt_or_eq.1 hj with h3 | rfl; (· exact hpre j h3); (· rw [hp, if_neg (by omega)])); (· simp [go_sem, encNet]); (· simp))
      · refine J_run 200 ?_
        rw [firstE_none (n := l.length) fun j hj => hpre j (by omega)]
        iterate 10 (all_goals (try (first
          | (simp (maxSteps := 1000000) (disch := omega) only [go_sem])
          | ((with_reducible first | refine gDt ?_ ?_ | refine gDf ?_ ?_ | refine gNt ?_ ?_ | refine gNf ?_ ?_ | refine cD ?_ ?_ | refine cN ?_ ?_ | refine cB ?_ ?_ | refine gB ?_ ?_) <;> intro h)
          | with_reducible first | refine And.intro ?_ ?_ | refine J_seq ?_ | refine J_block ?_ | refine J_inBlock ?_ | refine rC ?_ | refine rR ?_ | refine rE ?_ | refine rG ?_ | refine FinQ.now ?_ | refine FinQ.end ?_)))
    · have e : posChk n l most = 9 := by unfold posChk; rw [if_neg (by simp [h0]), if_pos hll]
      rw [e]
      refine holds_of Tryd.func69 rfl rfl ?_
      refine J_run 200 ?_
      delta Tryd.f69
      simp only [encNet] at cc ⊢
      iterate 10 (all_goals (try (first
        | (exfalso; omega)
        | (simp (maxSteps := 1000000) (disch := omega) only [go_sem])
        | ((with_reducible refine CallA.pure cc ?_ ?_); (· simp (disch := omega) only [go_sem]); rintro _ _ ⟨rfl, rfl⟩)
        | ((with_reducible first | refine gDt ?_ ?_ | refine gDf ?_ ?_ | refine gNt ?_ ?_ | refine gNf ?_ ?_ | refine cD ?_ ?_ | refine cN ?_ ?_ | refine cB ?_ ?_ | refine gB ?_ ?_) <;> intro h)
        | with_reducible first | refine And.intro ?_ ?_ | refine J_seq ?_ | refine J_block ?_ | refine J_inBlock ?_ | refine rC ?_ | refine rR ?_ | refine rE ?_ | refine rG ?_ | refine FinQ.now ?_ | refine FinQ.end ?_)))
  · have e : posChk n l most = n.chk := by unfold posChk; rw [if_pos h0]
    rw [e]
    refine holds_of Tryd.func69 rfl rfl ?_
    refine J_run 200 ?_
    delta Tryd.f69
    simp only [encNet] at cc ⊢
    iterate 10 (all_goals (try (first
      | (simp (maxSteps := 1000000) (disch := omega) only [go_sem, h0])
      | ((with_reducible refine CallA.pure cc ?_ ?_); (· simp (disch := omega) only [go_sem, h0]); rintro _ _ ⟨rfl, rfl⟩)
      | ((with_reducible first | refine gDt ?_ ?_ | refine gDf ?_ ?_ | refine gNt ?_ ?_ | refine gNf ?_ ?_ | refine cD ?_ ?_ | refine cN ?_ ?_ | refine cB ?_ ?_ | refine gB ?_ ?_) <;> intro h)
      | with_reducible first | refine And.intro ?_ ?_ | refine J_seq ?_ | refine J_block ?_ | refine J_inBlock ?_ | refine rC ?_ | refine rR ?_ | refine rE ?_ | refine rG ?_ | refine FinQ.now ?_ | refine FinQ.end ?_)))
theorem stateChk (n : Net) (hs : n.sized) (l : List Int) (hl : l.length ≤ 1000000) : Fn1 Tryd.prog GT0 50 [.agg (encNet n), .lst 1 (l.map encN)] (.raw (.int .i64 (posChk n l 2))) [] := by
  have c := positions n hs l hl 2
  refine holds_of Tryd.func50 rfl rfl ?_
  refine J_run 200 ?_
  delta Tryd.f50
  simp only [encNet] at c ⊢
  repeat' (first
    | (simp (maxSteps := 1000000) (disch := omega) only [go_sem])
    | ((with_reducible refine CallA.pure c ?_ ?_); (· simp (disch := omega) only [go_sem]); rintro _ _ ⟨rfl, rfl⟩)
    | ((with_reducible first | refine gDt ?_ ?_ | refine gDf ?_ ?_ | refine gNt ?_ ?_ | refine gNf ?_ ?_ | refine cD ?_ ?_ | refine cN ?_ ?_ | refine cB ?_ ?_ | refine gB ?_ ?_) <;> intro h)
    | with_reducible first | refine And.intro ?_ ?_ | refine J_seq ?_ | refine J_block ?_ | refine J_inBlock ?_ | refine rC ?_ | refine rR ?_ | refine rE ?_ | refine rG ?_ | refine FinQ.now ?_ | refine FinQ.end ?_)
/-- A state within masks, so far. -/
def WithinTo (m s : List Int) : Prop := ∀ i (hi : i < s.length), (s[i] = 1 ∨ s[i] = 2) ∧ (m.getD i 0 = 1 ∨ m.getD i 0 = 2 → s[i] = m.getD i 0)
theorem WithinTo.push {m s : List Int} (h : WithinTo m s) {x : Int} (hx : x = 1 ∨ x = 2) (hm : m.getD s.length 0 = 1 ∨ m.getD s.length 0 = 2 → x = m.getD s.length 0) : WithinTo m (s ++ [x]) := by
  intro i hi
  rw [List.getElem_append]
  split
  · exact h i (by assumption)
  · have hie : i = s.length := by simp at hi; omega
    subst hie
    simpa using ⟨hx, hm⟩
def DrawnWithin (m : List Int) (r : AV) (os : List Obj) : Prop := ∃ (s : List Int) (d : Dk), d.ok ∧ s.length = m.length ∧ WithinTo m s ∧ r = .own 1 1 0 s.length ∧ os = [.box (encDk d), .arr 1 (s.map encN)]
set_option maxHeartbeats 4000000 in
theorem withinD (d : Dk) (hd : d.ok) (m : List Int) (hml : m.length ≤ 1000000) : Holds Tryd.prog GT0 21 [.ref 0 0, .lst 1 (m.map encN)] [.box (encDk d)] (DrawnWithin m) := by
  have x2 := fun (d : Dk) (hd : d.ok) => next d hd 2 (by decide)
  refine holds_of Tryd.func21 rfl rfl ?_
  refine J_run 200 ?_
  delta Tryd.f21
  iterate 4 (all_goals (try (first
    | (simp (maxSteps := 1000000) (disch := omega) only [go_sem])
    | ((with_reducible first | refine gDt ?_ ?_ | refine gDf ?_ ?_ | refine gNt ?_ ?_ | refine gNf ?_ ?_ | refine cD ?_ ?_ | refine cN ?_ ?_ | refine cB ?_ ?_ | refine gB ?_ ?_) <;> intro h)
    | with_reducible first | refine And.intro ?_ ?_ | refine J_seq ?_ | refine J_block ?_ | refine J_inBlock ?_ | refine rC ?_ | refine rR ?_ | refine rE ?_ | refine rG ?_ | refine FinQ.now ?_ | refine FinQ.end ?_)))
  refine J_nilName 5 1 (by simp only [go_sem]) ?_
  simp only [go_sem]
  refine J_for ([7] ++ upto 8 30) (fun x : List Int × Dk => [(6, .raw (.int .i64 x.1.length)), (5, .own 1 1 0 x.1.length)]) (fun x => [.box (encDk x.2), .arr 1 (x.1.map encN)]) (fun x => x.1.length ≤ m.length ∧ WithinTo m x.1 ∧ x.2.ok) (fun x => m.length - x.1.length) ([], d) ⟨by simp, fun i hi => absurd hi (by simp), hd⟩ (.le (by simp [go_sem]) (by simp)) ?_
  rintro ⟨s, d1⟩ ⟨hsl, hs, hd1⟩
  simp only at hsl hs hd1 ⊢
  by_cases hlt : s.length < m.length
  · have hg := getD_N hlt
    have hgd : m.getD s.length 0 = m[s.length] := getD_get hlt
    refine J_run 200 ?_
    iterate 20 (all_goals (try (first
      | (simp (maxSteps := 1000000) (disch := omega) only [go_sem, hg, Nat.reduceLT])
      | ((with_reducible refine CallA.mut [0] ?_ ?_ ?_ ?_ (x2 _ (by assumption)) ?_); (· simp (disch := omega) only [go_sem, hg, Nat.reduceLT]); (· simp (disch := omega) only [go_sem, hg, Nat.reduceLT]); (· simp (disch := omega) only [go_sem, hg, Nat.reduceLT]); (· simp (disch := omega) only [go_sem, hg, Nat.reduceLT]); rintro _ _ ⟨y, d2, hd2, hy0, hy1, rfl, rfl⟩)
      | ((with_reducible first | refine gDt ?_ ?_ | refine gDf ?_ ?_ | refine gNt ?_ ?_ | refine gNf ?_ ?_ | refine cD ?_ ?_ | refine cN ?_ ?_ | refine cB ?_ ?_ | refine gB ?_ ?_) <;> intro h)
      | with_reducible first | refine And.intro ?_ ?_ | refine J_seq ?_ | refine J_block ?_ | refine J_inBlock ?_ | refine rC ?_ | refine rR ?_ | refine rE ?_ | refine rG ?_ | refine FinQ.now ?_ | refine FinQ.end ?_)))
    all_goals first
      | (refine LoopEnd.mk (s ++ [1 + y], d2) ⟨by simp; omega, hs.push (by omega) (by rw [hgd]; omega), hd2⟩ (by simp; omega) ?_ ?_; (· simp [go_sem, encN]; done); (· simp))
      | (refine LoopEnd.mk (s ++ [m[s.length]], d1) ⟨by simp; omega, hs.push (by omega) (fun _ => hgd.symm), hd1⟩ (by simp; omega) ?_ ?_; (· simp [go_sem, encN]; done); (· simp))
  · have hie : s.length = m.length := by omega
    refine J_run 200 ?_
    iterate 8 (all_goals (try (first
      | (simp (maxSteps := 1000000) (disch := omega) only [go_sem])
      | ((with_reducible first | refine gDt ?_ ?_ | refine gDf ?_ ?_ | refine gNt ?_ ?_ | refine gNf ?_ ?_ | refine cD ?_ ?_ | refine cN ?_ ?_ | refine cB ?_ ?_ | refine gB ?_ ?_) <;> intro h)
      | with_reducible first | refine And.intro ?_ ?_ | refine J_seq ?_ | refine J_block ?_ | refine J_inBlock ?_ | refine rC ?_ | refine rR ?_ | refine rE ?_ | refine rG ?_ | refine FinQ.now ?_ | refine FinQ.end ?_)))
    exact ⟨s, d1, hd1, hie, hs, rfl, rfl⟩
end Go.Proofs.YthgcmeniecaemaaDoor.Abs
