/- Locks in the program: parts of their check. Locks in the program: their check. Locks in the program: the gaps that are locked open; zones that locks isolate. -/
import Derived.Test.YtmfgaefefgnhbaaGreatDoorR1
import Derived.Test.YtmfgaefefgnhbaaGreatDoorZ3
import Derived.Test.YtmfgaefefgnhbaaGreatDoorT3
import Derived.Test.YtmfgaefefgnhbaaGreatDoorR2
import Derived.Test.YtmfgaefefgnhbaaGreatDoorZ4
namespace Go.Proofs.YtmfgaefefgnhbaaGreatDoor.Abs
set_option linter.unusedSimpArgs false
set_option linter.unusedVariables false
set_option maxRecDepth 100000
open Go Go.RowKit

def cmpI (a b : Int) : Int := if a < b then -1 else if b < a then 1 else 0
theorem isNaN (a : Int) : Fn1 Tryz.prog GT0 119 [.raw (.int .i64 a)] (.raw (.bool false)) [] := by
  refine holds_of Tryz.func119 rfl rfl ?_
  refine J_run 200 ?_
  delta Tryz.f119
  repeat' (first
    | (simp (maxSteps := 1000000) (disch := omega) only [go_sem, ne_eq, not_true_eq_false, decide_false])
    | ((with_reducible first | refine gDt ?_ ?_ | refine gDf ?_ ?_ | refine gNt ?_ ?_ | refine gNf ?_ ?_ | refine cD ?_ ?_ | refine cN ?_ ?_ | refine cB ?_ ?_ | refine gB ?_ ?_) <;> intro h)
    | with_reducible first | refine And.intro ?_ ?_ | refine J_seq ?_ | refine J_block ?_ | refine J_inBlock ?_ | refine rC ?_ | refine rR ?_ | refine rE ?_ | refine rG ?_ | refine FinQ.now ?_ | refine FinQ.end ?_)
theorem compare (a b : Int) : Fn1 Tryz.prog GT0 92 [.raw (.int .i64 a), .raw (.int .i64 b)] (.raw (.int .i64 (cmpI a b))) [] := by
  have c1 := isNaN a
  have c2 := isNaN b
  refine holds_of Tryz.func92 rfl rfl ?_
  refine J_run 200 ?_
  delta Tryz.f92
  repeat' (first
    | (simp (maxSteps := 1000000) (disch := omega) only [go_sem])
    | ((with_reducible refine CallA.pure c1 ?_ ?_); (· simp (disch := omega) only [go_sem]); rintro _ _ ⟨rfl, rfl⟩)
    | ((with_reducible refine CallA.pure c2 ?_ ?_); (· simp (disch := omega) only [go_sem]); rintro _ _ ⟨rfl, rfl⟩)
    | ((with_reducible first | refine gDt ?_ ?_ | refine gDf ?_ ?_ | refine gNt ?_ ?_ | refine gNf ?_ ?_ | refine cD ?_ ?_ | refine cN ?_ ?_ | refine cB ?_ ?_ | refine gB ?_ ?_) <;> intro h)
    | with_reducible first | refine And.intro ?_ ?_ | refine J_seq ?_ | refine J_block ?_ | refine J_inBlock ?_ | refine rC ?_ | refine rR ?_ | refine rE ?_ | refine rG ?_ | refine FinQ.now ?_ | refine FinQ.end ?_)
  all_goals first
    | (unfold cmpI; rw [if_pos (by omega)]; done)
    | (unfold cmpI; rw [if_neg (by omega), if_pos (by omega)]; done)
    | (unfold cmpI; rw [if_neg (by omega), if_neg (by omega)]; done)
theorem cmpOr2 (a b : Int) : Fn1 Tryz.prog GT0 91 [.lst 1 [encN a, encN b]] (.raw (.int .i64 (if a ≠ 0 then a else b))) [] := by
  refine holds_of Tryz.func91 rfl rfl ?_
  refine J_run 200 ?_
  delta Tryz.f91
  simp only [encN]
  iterate 4 (all_goals (try (first
    | (simp (maxSteps := 1000000) (disch := omega) only [go_sem])
    | ((with_reducible first | refine gDt ?_ ?_ | refine gDf ?_ ?_ | refine gNt ?_ ?_ | refine gNf ?_ ?_ | refine cD ?_ ?_ | refine cN ?_ ?_ | refine cB ?_ ?_ | refine gB ?_ ?_) <;> intro h)
    | with_reducible first | refine And.intro ?_ ?_ | refine J_seq ?_ | refine J_block ?_ | refine J_inBlock ?_ | refine rC ?_ | refine rR ?_ | refine rE ?_ | refine rG ?_ | refine FinQ.now ?_ | refine FinQ.end ?_)))
  refine J_for ([5] ++ upto 9 16) (fun i : Nat => [(8, .raw (.int .i64 i))]) (fun _ => []) (fun i => i ≤ 2 ∧ (0 < i → a = 0) ∧ (1 < i → b = 0)) (fun i => 2 - i) 0 ⟨by omega, by omega, by omega⟩ (.le (by simp [go_sem]) (by simp)) ?_
  rintro i ⟨hi, h1, h2⟩
  rcases i with _ | _ | i
  · refine J_run 200 ?_
    repeat' (first
      | (simp (maxSteps := 1000000) (disch := omega) only [go_sem])
      | ((with_reducible first | refine gDt ?_ ?_ | refine gDf ?_ ?_ | refine gNt ?_ ?_ | refine gNf ?_ ?_ | refine cD ?_ ?_ | refine cN ?_ ?_ | refine cB ?_ ?_ | refine gB ?_ ?_) <;> intro h)
      | with_reducible first | refine And.intro ?_ ?_ | refine J_seq ?_ | refine J_block ?_ | refine J_inBlock ?_ | refine rC ?_ | refine rR ?_ | refine rE ?_ | refine rG ?_ | refine FinQ.now ?_ | refine FinQ.end ?_)
    · rw [if_pos h]
    · refine .mk 1 ⟨by omega, fun _ => by simpa using h, by omega⟩ (by omega) ?_ ?_
      · simp [go_sem]
      · simp
  · refine J_run 200 ?_
    repeat' (first
      | (simp (maxSteps := 1000000) (disch := omega) only [go_sem])
      | ((with_reducible first | refine gDt ?_ ?_ | refine gDf ?_ ?_ | refine gNt ?_ ?_ | refine gNf ?_ ?_ | refine cD ?_ ?_ | refine cN ?_ ?_ | refine cB ?_ ?_ | refine gB ?_ ?_) <;> intro h)
      | with_reducible first | refine And.intro ?_ ?_ | refine J_seq ?_ | refine J_block ?_ | refine J_inBlock ?_ | refine rC ?_ | refine rR ?_ | refine rE ?_ | refine rG ?_ | refine FinQ.now ?_ | refine FinQ.end ?_)
    · rw [if_neg (by simp [h1])]
    · refine .mk 2 ⟨by omega, fun _ => h1 (by omega), fun _ => by simpa using h⟩ (by omega) ?_ ?_
      · simp [go_sem]
      · simp
  · have : i = 0 := by omega
    subst this
    refine J_run 200 ?_
    repeat' (first
      | (simp (maxSteps := 1000000) (disch := omega) only [go_sem])
      | ((with_reducible first | refine gDt ?_ ?_ | refine gDf ?_ ?_ | refine gNt ?_ ?_ | refine gNf ?_ ?_ | refine cD ?_ ?_ | refine cN ?_ ?_ | refine cB ?_ ?_ | refine gB ?_ ?_) <;> intro h)
      | with_reducible first | refine And.intro ?_ ?_ | refine J_seq ?_ | refine J_block ?_ | refine J_inBlock ?_ | refine rC ?_ | refine rR ?_ | refine rE ?_ | refine rG ?_ | refine FinQ.now ?_ | refine FinQ.end ?_)
    rw [if_neg (by simp [h1]), h2 (by omega)]
def ordI (a b : Lk) : Int := if cmpI a.dev b.dev ≠ 0 then cmpI a.dev b.dev else cmpI a.key b.key
theorem ordI_neg {a b : Lk} : decide (0 ≤ ordI a b) = !lkBefore a b := by
  rw [Bool.eq_iff_iff]
  simp only [ordI, cmpI, lkBefore, decide_eq_true_eq, Bool.not_eq_true', decide_eq_false_iff_not]
  by_cases h1 : a.dev < b.dev
  · simp [h1]
  by_cases h2 : b.dev < a.dev
  · simp [h1, h2]; omega
  by_cases h3 : a.key < b.key
  · simp [h1, h2, h3]; omega
  by_cases h4 : b.key < a.key
  · simp [h1, h2, h3, h4]
  · simp [h1, h2, h3, h4]
set_option maxHeartbeats 4000000 in
theorem order (a b : Lk) : Fn1 Tryz.prog GT0 52 [.agg (encLk a), .agg (encLk b)] (.raw (.int .i64 (ordI a b))) [] := by
  have c1 := compare a.dev b.dev
  have c2 := compare a.key b.key
  have c3 := cmpOr2 (cmpI a.dev b.dev) (cmpI a.key b.key)
  simp only [encN] at c3
  refine holds_of Tryz.func52 rfl rfl ?_
  refine J_run 200 ?_
  delta Tryz.f52
  simp only [encLk]
  repeat' (first
    | ((with_reducible refine J_draw (id := 1) 200 [] plan52_1 (by kernel_rfl) (by kernel_rfl) ?_); delta plan52_1)
    | (simp (maxSteps := 1000000) (disch := omega) only [go_sem])
    | ((with_reducible refine CallA.pure c1 ?_ ?_); (· simp (disch := omega) only [go_sem]); rintro _ _ ⟨rfl, rfl⟩)
    | ((with_reducible refine CallA.pure c2 ?_ ?_); (· simp (disch := omega) only [go_sem]); rintro _ _ ⟨rfl, rfl⟩)
    | ((with_reducible refine CallA.give [2] ?_ ?_ c3 ?_); (· simp (disch := omega) only [go_sem]); (· simp (disch := omega) only [go_sem]); rintro _ _ ⟨rfl, rfl⟩)
    | ((with_reducible first | refine gDt ?_ ?_ | refine gDf ?_ ?_ | refine gNt ?_ ?_ | refine gNf ?_ ?_ | refine cD ?_ ?_ | refine cN ?_ ?_ | refine cB ?_ ?_ | refine gB ?_ ?_ | refine stepGuard_dect ?_ ?_ | refine stepGuard_decf ?_ ?_ | refine stepGuard_ndect ?_ ?_ | refine stepGuard_ndecf ?_ ?_ | refine stepGuard_by ?_ ?_) <;> intro h)
    | with_reducible first | refine And.intro ?_ ?_ | refine J_seq ?_ | refine J_block ?_ | refine J_inBlock ?_ | refine rC ?_ | refine rR ?_ | refine rE ?_ | refine rG ?_ | refine FinQ.now ?_ | refine FinQ.end ?_)
  all_goals rfl
set_option maxHeartbeats 1000000 in
theorem indexFuncL (ys : List Lk) (fn : FuncId) (cap : List AV) (hcap : AV.immL cap = true) (pr : Lk → Bool) (hl : ys.length ≤ 9223372036854775807)
    (hp : ∀ y, y ∈ ys → Fn1 Tryz.prog GT0 fn (.agg (encLk y) :: cap) (.raw (.bool (pr y))) []) :
    Fn1 Tryz.prog GT0 62 [.lst 3 (ys.map encLk), .clo (.func fn) [] cap] (.raw (.int .i64 (firstAt pr ys))) [] := by
  have hcapk := fun s => AV.keepsL_imm s cap hcap
  refine holds_of Tryz.func62 rfl rfl ?_
  refine J_run 200 ?_
  delta Tryz.f62
  repeat' (first
    | (simp (maxSteps := 1000000) (disch := omega) only [go_sem])
    | ((with_reducible first | refine gDt ?_ ?_ | refine gDf ?_ ?_ | refine gNt ?_ ?_ | refine gNf ?_ ?_ | refine cD ?_ ?_ | refine cN ?_ ?_ | refine cB ?_ ?_ | refine gB ?_ ?_) <;> intro h)
    | with_reducible first | refine And.intro ?_ ?_ | refine J_seq ?_ | refine J_block ?_ | refine J_inBlock ?_ | refine rC ?_ | refine rR ?_ | refine rE ?_ | refine rG ?_ | refine FinQ.now ?_ | refine FinQ.end ?_)
  refine J_for (5 :: upto 9 18) (fun i : Nat => [(8, .raw (.int .i64 i))]) (fun _ => []) (fun i => i ≤ ys.length ∧ ∀ j (hj : j < i) (hx : j < ys.length), pr ys[j] = false) (fun i => ys.length - i) 0 ⟨by omega, by omega⟩ (.le (by simp [go_sem, hcapk]) (by simp)) ?_
  rintro i ⟨hi, hpre⟩
  by_cases hlt : i < ys.length
  · have hpx := hp _ (List.getElem_mem hlt)
    simp only [encLk] at hpx
    refine J_run 200 ?_
    simp (disch := omega) only [go_sem, getD_Lk]
    refine CallA.pure hpx (by simp [go_sem, hcap]) ?_
    rintro _ _ ⟨rfl, rfl⟩
    repeat' (first
      | (simp (maxSteps := 1000000) (disch := omega) only [go_sem])
      | ((with_reducible first | refine gDt ?_ ?_ | refine gDf ?_ ?_ | refine gNt ?_ ?_ | refine gNf ?_ ?_ | refine cD ?_ ?_ | refine cN ?_ ?_ | refine cB ?_ ?_ | refine gB ?_ ?_) <;> intro h)
      | with_reducible first | refine And.intro ?_ ?_ | refine J_seq ?_ | refine J_block ?_ | refine J_inBlock ?_ | refine rC ?_ | refine rR ?_ | refine rE ?_ | refine rG ?_ | refine FinQ.now ?_ | refine FinQ.end ?_)
    · rw [firstAt_some hlt h fun j hj => hpre j hj (by omega)]
    · refine .mk (i + 1) ⟨hlt, fun j hj hx => ?_⟩ (by omega) (by simp [go_sem, hcapk]) (by simp)
      rcases Nat.lt_succ_iff_lt_or_eq.1 hj with h3 | rfl
      · exact hpre j h3 hx
      · exact h
  · refine J_run 200 ?_
    repeat' (first
      | (simp (maxSteps := 1000000) (disch := omega) only [go_sem])
      | ((with_reducible first | refine gDt ?_ ?_ | refine gDf ?_ ?_ | refine gNt ?_ ?_ | refine gNf ?_ ?_ | refine cD ?_ ?_ | refine cN ?_ ?_ | refine cB ?_ ?_ | refine gB ?_ ?_) <;> intro h)
      | with_reducible first | refine And.intro ?_ ?_ | refine J_seq ?_ | refine J_block ?_ | refine J_inBlock ?_ | refine rC ?_ | refine rR ?_ | refine rE ?_ | refine rG ?_ | refine FinQ.now ?_ | refine FinQ.end ?_)
    rw [firstAt_none fun y hy => ?_]
    obtain ⟨j, hj, rfl⟩ := List.getElem_of_mem hy
    exact hpre j (by omega) hj
theorem containsFuncL (ys : List Lk) (fn : FuncId) (cap : List AV) (hcap : AV.immL cap = true) (pr : Lk → Bool) (hl : ys.length ≤ 9223372036854775807)
    (hp : ∀ y, y ∈ ys → Fn1 Tryz.prog GT0 fn (.agg (encLk y) :: cap) (.raw (.bool (pr y))) []) :
    Fn1 Tryz.prog GT0 26 [.lst 3 (ys.map encLk), .clo (.func fn) [] cap] (.raw (.bool (ys.any pr))) [] := by
  have hcapk := fun s => AV.keepsL_imm s cap hcap
  have c := indexFuncL ys fn cap hcap pr hl hp
  refine holds_of Tryz.func26 rfl rfl ?_
  refine J_run 200 ?_
  delta Tryz.f26
  repeat' (first
    | (simp (maxSteps := 1000000) (disch := omega) only [go_sem, hcap])
    | ((with_reducible refine CallA.pure c ?_ ?_); (· simp (disch := omega) only [go_sem, hcap]); rintro _ _ ⟨rfl, rfl⟩)
    | ((with_reducible first | refine gDt ?_ ?_ | refine gDf ?_ ?_ | refine gNt ?_ ?_ | refine gNf ?_ ?_ | refine cD ?_ ?_ | refine cN ?_ ?_ | refine cB ?_ ?_ | refine gB ?_ ?_) <;> intro h)
    | with_reducible first | refine And.intro ?_ ?_ | refine J_seq ?_ | refine J_block ?_ | refine J_inBlock ?_ | refine rC ?_ | refine rR ?_ | refine rE ?_ | refine rG ?_ | refine FinQ.now ?_ | refine FinQ.end ?_)
  rw [firstAt_ge]
theorem other1 (x k : Lk) : Fn1 Tryz.prog GT0 93 [.agg (encLk x), .cptr (encLk k)] (.raw (.bool (decide (x.dev = k.dev ∧ x.pos ≠ k.pos)))) [] := by
  refine holds_of Tryz.func93 rfl rfl ?_
  refine J_run 200 ?_
  delta Tryz.f93
  simp only [encLk]
  repeat' (first
    | (simp (maxSteps := 1000000) (disch := omega) only [go_sem])
    | ((with_reducible first | refine gDt ?_ ?_ | refine gDf ?_ ?_ | refine gNt ?_ ?_ | refine gNf ?_ ?_ | refine cD ?_ ?_ | refine cN ?_ ?_ | refine cB ?_ ?_ | refine gB ?_ ?_) <;> intro h)
    | with_reducible first | refine And.intro ?_ ?_ | refine J_seq ?_ | refine J_block ?_ | refine J_inBlock ?_ | refine rC ?_ | refine rR ?_ | refine rE ?_ | refine rG ?_ | refine FinQ.now ?_ | refine FinQ.end ?_)
  all_goals first | (rw [Bool.eq_iff_iff]; simp []; omega) | (simp_all []; done) | (rw [Bool.eq_iff_iff]; simp_all []; omega) | (simp_all []; omega) | omega
theorem other (l : List Lk) (hl : l.length ≤ 1000000) (k : Lk) : Fn1 Tryz.prog GT0 53 [.lst 3 (l.map encLk), .agg (encLk k)] (.raw (.bool (l.any fun x => decide (x.dev = k.dev ∧ x.pos ≠ k.pos)))) [] := by
  have c := containsFuncL l 93 [.cptr (encLk k)] rfl (fun x => decide (x.dev = k.dev ∧ x.pos ≠ k.pos)) (by omega) fun y _ => other1 y k
  refine holds_of Tryz.func53 rfl rfl ?_
  refine J_run 200 ?_
  delta Tryz.f53
  simp only [encLk] at c ⊢
  repeat' (first
    | (simp (maxSteps := 1000000) (disch := omega) only [go_sem])
    | ((with_reducible refine CallA.give [0] ?_ ?_ c ?_); (· simp (disch := omega) only [go_sem]); (· simp (disch := omega) only [go_sem]); rintro _ _ ⟨rfl, rfl⟩)
    | ((with_reducible first | refine gDt ?_ ?_ | refine gDf ?_ ?_ | refine gNt ?_ ?_ | refine gNf ?_ ?_ | refine cD ?_ ?_ | refine cN ?_ ?_ | refine cB ?_ ?_ | refine gB ?_ ?_) <;> intro h)
    | with_reducible first | refine And.intro ?_ ?_ | refine J_seq ?_ | refine J_block ?_ | refine J_inBlock ?_ | refine rC ?_ | refine rR ?_ | refine rE ?_ | refine rG ?_ | refine FinQ.now ?_ | refine FinQ.end ?_)
theorem used1 (x : Lk) (key : Int) : Fn1 Tryz.prog GT0 94 [.agg (encLk x), .cptr [.raw (.int .i64 key)]] (.raw (.bool (decide (x.key = key)))) [] := by
  refine holds_of Tryz.func94 rfl rfl ?_
  refine J_run 200 ?_
  delta Tryz.f94
  simp only [encLk]
  repeat' (first
    | (simp (maxSteps := 1000000) (disch := omega) only [go_sem])
    | ((with_reducible first | refine gDt ?_ ?_ | refine gDf ?_ ?_ | refine gNt ?_ ?_ | refine gNf ?_ ?_ | refine cD ?_ ?_ | refine cN ?_ ?_ | refine cB ?_ ?_ | refine gB ?_ ?_) <;> intro h)
    | with_reducible first | refine And.intro ?_ ?_ | refine J_seq ?_ | refine J_block ?_ | refine J_inBlock ?_ | refine rC ?_ | refine rR ?_ | refine rE ?_ | refine rG ?_ | refine FinQ.now ?_ | refine FinQ.end ?_)
theorem used (l : List Lk) (hl : l.length ≤ 1000000) (key : Int) : Fn1 Tryz.prog GT0 54 [.lst 3 (l.map encLk), .raw (.int .i64 key)] (.raw (.bool (l.any fun x => decide (x.key = key)))) [] := by
  have c := containsFuncL l 94 [.cptr [.raw (.int .i64 key)]] rfl (fun x => decide (x.key = key)) (by omega) fun y _ => used1 y key
  refine holds_of Tryz.func54 rfl rfl ?_
  refine J_run 200 ?_
  delta Tryz.f54
  repeat' (first
    | (simp (maxSteps := 1000000) (disch := omega) only [go_sem])
    | ((with_reducible refine CallA.give [0] ?_ ?_ c ?_); (· simp (disch := omega) only [go_sem]); (· simp (disch := omega) only [go_sem]); rintro _ _ ⟨rfl, rfl⟩)
    | ((with_reducible first | refine gDt ?_ ?_ | refine gDf ?_ ?_ | refine gNt ?_ ?_ | refine gNf ?_ ?_ | refine cD ?_ ?_ | refine cN ?_ ?_ | refine cB ?_ ?_ | refine gB ?_ ?_) <;> intro h)
    | with_reducible first | refine And.intro ?_ ?_ | refine J_seq ?_ | refine J_block ?_ | refine J_inBlock ?_ | refine rC ?_ | refine rR ?_ | refine rE ?_ | refine rG ?_ | refine FinQ.now ?_ | refine FinQ.end ?_)
theorem validF (n : Net) (hs : n.sized) (k : Lk) : Fn1 Tryz.prog GT0 51 [.agg (encNet n), .agg (encLk k)] (.raw (.int .i64 (lErr n k))) [] := by
  have hdl := hs.dl
  refine holds_of Tryz.func51 rfl rfl ?_
  refine J_run 200 ?_
  delta Tryz.f51
  simp only [encNet, encLk]
  by_cases hd : k.dev < 0 ∨ (n.devs.length : Int) ≤ k.dev
  · have e : lErr n k = 8 := by unfold lErr; rw [if_pos hd]
    rw [e]
    repeat' (first
      | (exfalso; omega)
      | (simp (maxSteps := 1000000) (disch := omega) only [go_sem])
      | ((with_reducible first | refine gDt ?_ ?_ | refine gDf ?_ ?_ | refine gNt ?_ ?_ | refine gNf ?_ ?_ | refine cD ?_ ?_ | refine cN ?_ ?_ | refine cB ?_ ?_ | refine gB ?_ ?_) <;> intro h)
      | with_reducible first | refine And.intro ?_ ?_ | refine J_seq ?_ | refine J_block ?_ | refine J_inBlock ?_ | refine rC ?_ | refine rR ?_ | refine rE ?_ | refine rG ?_ | refine FinQ.now ?_ | refine FinQ.end ?_)
  · have hg := getD_Dv (l := n.devs) (i := k.dev.toNat) (by omega)
    have e1 : n.devs.getD k.dev.toNat ⟨⟨#[]⟩, 0, 0, 0, 0⟩ = n.devs[k.dev.toNat]'(by omega) := getD_get (by omega)
    have e : lErr n k = if (n.devs[k.dev.toNat]'(by omega)).kind = 5 then 6 else if k.pos ≠ 1 ∧ k.pos ≠ 2 then 10 else if k.key < 0 ∨ 65536 < k.key then 5 else 0 := by unfold lErr; rw [if_neg hd, e1]
    rw [e]
    repeat' (first
      | (exfalso; omega)
      | (simp (maxSteps := 1000000) (disch := omega) only [go_sem, hg])
      | ((with_reducible first | refine gDt ?_ ?_ | refine gDf ?_ ?_ | refine gNt ?_ ?_ | refine gNf ?_ ?_ | refine cD ?_ ?_ | refine cN ?_ ?_ | refine cB ?_ ?_ | refine gB ?_ ?_) <;> intro h)
      | with_reducible first | refine And.intro ?_ ?_ | refine J_seq ?_ | refine J_block ?_ | refine J_inBlock ?_ | refine rC ?_ | refine rR ?_ | refine rE ?_ | refine rG ?_ | refine FinQ.now ?_ | refine FinQ.end ?_)
    all_goals first
      | (rw [if_pos (by omega)]; done)
      | (rw [if_neg (by omega), if_pos (by omega)]; done)
      | (rw [if_neg (by omega), if_neg (by omega), if_pos (by omega)]; done)
      | (rw [if_neg (by omega), if_neg (by omega), if_neg (by omega)]; done)
set_option maxHeartbeats 1000000 in
theorem lockedF (l : List Lk) (hl : l.length ≤ 1000000) (d : Int) : Fn1 Tryz.prog GT0 142 [.lst 3 (l.map encLk), .raw (.int .i64 d)] (.tup [.raw (.int .i64 ((lockedAt l d).getD 0)), .raw (.bool (lockedAt l d).isSome)]) [] := by
  refine holds_of Tryz.func142 rfl rfl ?_
  refine J_run 200 ?_
  delta Tryz.f142
  repeat' (first
    | (simp (maxSteps := 1000000) (disch := omega) only [go_sem])
    | ((with_reducible first | refine gDt ?_ ?_ | refine gDf ?_ ?_ | refine gNt ?_ ?_ | refine gNf ?_ ?_ | refine cD ?_ ?_ | refine cN ?_ ?_ | refine cB ?_ ?_ | refine gB ?_ ?_) <;> intro h)
    | with_reducible first | refine And.intro ?_ ?_ | refine J_seq ?_ | refine J_block ?_ | refine J_inBlock ?_ | refine rC ?_ | refine rR ?_ | refine rE ?_ | refine rG ?_ | refine FinQ.now ?_ | refine FinQ.end ?_)
  refine J_for ([7] ++ upto 11 20) (fun i : Nat => [(10, .raw (.int .i64 i))]) (fun _ => []) (fun i => i ≤ l.length ∧ lockedAt l d = lockedAt (l.drop i) d) (fun i => l.length - i) 0 ⟨by omega, rfl⟩ (.le (by simp [go_sem]) (by simp)) ?_
  rintro i ⟨hi, hpre⟩
  by_cases hlt : i < l.length
  · have hg := getD_Lk hlt
    rw [List.drop_eq_getElem_cons hlt, lockedAt] at hpre
    rw [hpre]
    refine J_run 200 ?_
    repeat' (first
      | (simp (maxSteps := 1000000) (disch := omega) only [go_sem, hg])
      | ((with_reducible first | refine gDt ?_ ?_ | refine gDf ?_ ?_ | refine gNt ?_ ?_ | refine gNf ?_ ?_ | refine cD ?_ ?_ | refine cN ?_ ?_ | refine cB ?_ ?_ | refine gB ?_ ?_) <;> intro h)
      | with_reducible first | refine And.intro ?_ ?_ | refine J_seq ?_ | refine J_block ?_ | refine J_inBlock ?_ | refine rC ?_ | refine rR ?_ | refine rE ?_ | refine rG ?_ | refine FinQ.now ?_ | refine FinQ.end ?_)
    · rw [if_pos h]; rfl
    · refine .mk (i + 1) ⟨hlt, ?_⟩ (by omega) ?_ ?_
      · exact if_neg h
      · simp [go_sem]
      · simp
  · rw [List.drop_eq_nil_of_le (by omega)] at hpre
    rw [hpre]
    refine J_run 200 ?_
    repeat' (first
      | (simp (maxSteps := 1000000) (disch := omega) only [go_sem])
      | ((with_reducible first | refine gDt ?_ ?_ | refine gDf ?_ ?_ | refine gNt ?_ ?_ | refine gNf ?_ ?_ | refine cD ?_ ?_ | refine cN ?_ ?_ | refine cB ?_ ?_ | refine gB ?_ ?_) <;> intro h)
      | with_reducible first | refine And.intro ?_ ?_ | refine J_seq ?_ | refine J_block ?_ | refine J_inBlock ?_ | refine rC ?_ | refine rR ?_ | refine rE ?_ | refine rG ?_ | refine FinQ.now ?_ | refine FinQ.end ?_)
    rfl
end Go.Proofs.YtmfgaefefgnhbaaGreatDoor.Abs
namespace Go.Proofs.YtmfgaefefgnhbaaGreatDoor.Abs
set_option linter.unusedSimpArgs false
set_option linter.unusedVariables false
set_option maxRecDepth 100000
open Go Go.RowKit

set_option maxHeartbeats 8000000 in
theorem lockCheck (n : Net) (hs : n.sized) (l : List Lk) (hl : l.length ≤ 1000000) : Fn1 Tryz.prog GT0 15 [.agg (encNet n), .lst 3 (l.map encLk)] (.raw (.int .i64 (lockChk n l))) [] := by
  have cc := netCheck n hs
  refine holds_of Tryz.func15 rfl rfl ?_
  refine J_run 200 ?_
  delta Tryz.f15
  simp only [encNet] at cc ⊢
  by_cases h0 : n.chk = 0
  · rw [h0] at cc
    by_cases h128 : 128 < l.length
    · have e : lockChk n l = 1 := by unfold lockChk; rw [if_neg (by simp [h0]), if_pos h128]
      rw [e]
      repeat' (first
        | (exfalso; omega)
        | (simp (maxSteps := 1000000) (disch := omega) only [go_sem])
        | ((with_reducible refine CallA.pure cc ?_ ?_); (· simp (disch := omega) only [go_sem]); rintro _ _ ⟨rfl, rfl⟩)
        | ((with_reducible first | refine gDt ?_ ?_ | refine gDf ?_ ?_ | refine gNt ?_ ?_ | refine gNf ?_ ?_ | refine cD ?_ ?_ | refine cN ?_ ?_ | refine cB ?_ ?_ | refine gB ?_ ?_) <;> intro h)
        | with_reducible first | refine And.intro ?_ ?_ | refine J_seq ?_ | refine J_block ?_ | refine J_inBlock ?_ | refine rC ?_ | refine rR ?_ | refine rE ?_ | refine rG ?_ | refine FinQ.now ?_ | refine FinQ.end ?_)
    iterate 10 (all_goals (try (first
      | (exfalso; omega)
      | (simp (maxSteps := 1000000) (disch := omega) only [go_sem])
      | ((with_reducible refine CallA.pure cc ?_ ?_); (· simp (disch := omega) only [go_sem]); rintro _ _ ⟨rfl, rfl⟩)
      | ((with_reducible first | refine gDt ?_ ?_ | refine gDf ?_ ?_ | refine gNt ?_ ?_ | refine gNf ?_ ?_ | refine cD ?_ ?_ | refine cN ?_ ?_ | refine cB ?_ ?_ | refine gB ?_ ?_) <;> intro h)
      | with_reducible first | refine And.intro ?_ ?_ | refine J_seq ?_ | refine J_block ?_ | refine J_inBlock ?_ | refine rC ?_ | refine rR ?_ | refine rE ?_ | refine rG ?_ | refine FinQ.now ?_ | refine FinQ.end ?_)))
    refine J_for ([6, 7, 8] ++ upto 20 57) (fun i : Nat => [(19, .raw (.int .i64 i))]) (fun i => [.box (encNet n)]) (fun i => i ≤ l.length ∧ ∀ j, j < i → kErr n l j = 0) (fun i => l.length - i) 0 ⟨by omega, by omega⟩ (.le (by simp [go_sem, encNet]) (by simp)) ?_
    rintro i ⟨hi, hpre⟩
    simp only [encNet]
    by_cases hlt : i < l.length
    · have hne := fun e => lockChk_hit (e := e) h0 h128 hlt hpre
      simp only [kErr, getD_get hlt] at hne
      have cf := validF n hs l[i]
      simp only [encNet, encLk] at cf
      have hg := getD_Lk hlt
      have htk : (l.map encLk).take i = (l.take i).map encLk := by rw [List.map_take]
      have co := other (l.take i) (by simp; omega) l[i]
      have cu := used (l.take i) (by simp; omega) l[i].key
      simp only [encLk, List.map_take] at co cu
      by_cases hf : lErr n l[i] = 0
      · rw [hf] at cf
        have hne2 := fun e he => hne e (by rw [if_neg (by simp [hf])]; exact he)
        by_cases hi0 : i = 0
        · have hnb : ¬ (0 < i ∧ lkBefore (l.getD (i - 1) .zero) l[i] = false) := by omega
          have hne3 := fun e he => hne2 e (by rw [if_neg hnb]; exact he)
          obtain ⟨o1, ho1⟩ : ∃ o, (l.take i).any (fun x => decide (x.dev = l[i].dev ∧ x.pos ≠ l[i].pos)) = o := ⟨_, rfl⟩
          obtain ⟨o2, ho2⟩ : ∃ o, (l.take i).any (fun x => decide (x.key = l[i].key)) = o := ⟨_, rfl⟩
          rw [ho1, ho2] at hne3
          rw [ho1] at co
          rw [ho2] at cu
          cases o1 with
          | true =>
            have e := hne3 18 (by simp) (by decide)
            rw [e]
            refine J_run 200 ?_
            iterate 22 (all_goals (try (first
              | ((with_reducible refine J_draw (id := 12) 200 [] plan15_12 (by kernel_rfl) (by kernel_rfl) ?_); delta plan15_12)
              | ((with_reducible refine J_draw (id := 14) 200 [] plan15_14 (by kernel_rfl) (by kernel_rfl) ?_); delta plan15_14)
              | (simp (maxSteps := 1000000) (disch := omega) only [go_sem, hg])
              | ((with_reducible refine CallA.pure cf ?_ ?_); (· simp (disch := omega) only [go_sem, hg]); rintro _ _ ⟨rfl, rfl⟩)
              | ((with_reducible refine CallA.pure co ?_ ?_); (· simp (disch := omega) only [go_sem, hg]); rintro _ _ ⟨rfl, rfl⟩)
              | ((with_reducible first | refine gDt ?_ ?_ | refine gDf ?_ ?_ | refine gNt ?_ ?_ | refine gNf ?_ ?_ | refine cD ?_ ?_ | refine cN ?_ ?_ | refine cB ?_ ?_ | refine gB ?_ ?_ | refine stepGuard_dect ?_ ?_ | refine stepGuard_decf ?_ ?_ | refine stepGuard_ndect ?_ ?_ | refine stepGuard_ndecf ?_ ?_ | refine stepGuard_by ?_ ?_) <;> intro h)
              | with_reducible first | refine And.intro ?_ ?_ | refine J_seq ?_ | refine J_block ?_ | refine J_inBlock ?_ | refine rC ?_ | refine rR ?_ | refine rE ?_ | refine rG ?_ | refine FinQ.now ?_ | refine FinQ.end ?_)))
          | false =>
            cases o2 with
            | true =>
              have e := hne3 4 (by simp) (by decide)
              rw [e]
              refine J_run 200 ?_
              iterate 22 (all_goals (try (first
                | ((with_reducible refine J_draw (id := 12) 200 [] plan15_12 (by kernel_rfl) (by kernel_rfl) ?_); delta plan15_12)
                | ((with_reducible refine J_draw (id := 14) 200 [] plan15_14 (by kernel_rfl) (by kernel_rfl) ?_); delta plan15_14)
                | ((with_reducible refine J_draw (id := 16) 200 [] plan15_16 (by kernel_rfl) (by kernel_rfl) ?_); delta plan15_16)
                | (simp (maxSteps := 1000000) (disch := omega) only [go_sem, hg])
                | ((with_reducible refine CallA.pure cf ?_ ?_); (· simp (disch := omega) only [go_sem, hg]); rintro _ _ ⟨rfl, rfl⟩)
                | ((with_reducible refine CallA.pure co ?_ ?_); (· simp (disch := omega) only [go_sem, hg]); rintro _ _ ⟨rfl, rfl⟩)
                | ((with_reducible refine CallA.pure cu ?_ ?_); (· simp (disch := omega) only [go_sem, hg]); rintro _ _ ⟨rfl, rfl⟩)
                | ((with_reducible first | refine gDt ?_ ?_ | refine gDf ?_ ?_ | refine gNt ?_ ?_ | refine gNf ?_ ?_ | refine cD ?_ ?_ | refine cN ?_ ?_ | refine cB ?_ ?_ | refine gB ?_ ?_ | refine stepGuard_dect ?_ ?_ | refine stepGuard_decf ?_ ?_ | refine stepGuard_ndect ?_ ?_ | refine stepGuard_ndecf ?_ ?_ | refine stepGuard_by ?_ ?_) <;> intro h)
                | with_reducible first | refine And.intro ?_ ?_ | refine J_seq ?_ | refine J_block ?_ | refine J_inBlock ?_ | refine rC ?_ | refine rR ?_ | refine rE ?_ | refine rG ?_ | refine FinQ.now ?_ | refine FinQ.end ?_)))
            | false =>
              refine J_run 200 ?_
              iterate 22 (all_goals (try (first
                | ((with_reducible refine J_draw (id := 12) 200 [] plan15_12 (by kernel_rfl) (by kernel_rfl) ?_); delta plan15_12)
                | ((with_reducible refine J_draw (id := 14) 200 [] plan15_14 (by kernel_rfl) (by kernel_rfl) ?_); delta plan15_14)
                | ((with_reducible refine J_draw (id := 16) 200 [] plan15_16 (by kernel_rfl) (by kernel_rfl) ?_); delta plan15_16)
                | (simp (maxSteps := 1000000) (disch := omega) only [go_sem, hg])
                | ((with_reducible refine CallA.pure cf ?_ ?_); (· simp (disch := omega) only [go_sem, hg]); rintro _ _ ⟨rfl, rfl⟩)
                | ((with_reducible refine CallA.pure co ?_ ?_); (· simp (disch := omega) only [go_sem, hg]); rintro _ _ ⟨rfl, rfl⟩)
                | ((with_reducible refine CallA.pure cu ?_ ?_); (· simp (disch := omega) only [go_sem, hg]); rintro _ _ ⟨rfl, rfl⟩)
                | ((with_reducible first | refine gDt ?_ ?_ | refine gDf ?_ ?_ | refine gNt ?_ ?_ | refine gNf ?_ ?_ | refine cD ?_ ?_ | refine cN ?_ ?_ | refine cB ?_ ?_ | refine gB ?_ ?_ | refine stepGuard_dect ?_ ?_ | refine stepGuard_decf ?_ ?_ | refine stepGuard_ndect ?_ ?_ | refine stepGuard_ndecf ?_ ?_ | refine stepGuard_by ?_ ?_) <;> intro h)
                | with_reducible first | refine And.intro ?_ ?_ | refine J_seq ?_ | refine J_block ?_ | refine J_inBlock ?_ | refine rC ?_ | refine rR ?_ | refine rE ?_ | refine rG ?_ | refine FinQ.now ?_ | refine FinQ.end ?_)))
              refine .mk (i + 1) ⟨hlt, fun j hji => ?_⟩ (by omega) ?_ ?_
              · rcases Nat.lt_succ_iff_lt_or_eq.1 hji with h3 | rfl
                · exact hpre j h3
                · simp only [kErr, getD_get hlt]
                  simp only [hf, ne_eq, not_true_eq_false, if_false]
                  rw [ho1, ho2]
                  first | (rw [if_neg hnb]; rfl) | (rw [e2, if_neg hnb]; rfl)
              · simp [go_sem, encNet]
              · simp
        · have hg' := getD_Lk (l := l) (i := i - 1) (by omega)
          have e1 : ((i : Int) - 1).toNat = i - 1 := by omega
          have e2 : l.getD (i - 1) .zero = l[i - 1]'(by omega) := getD_get (by omega)
          have cb := order (l[i - 1]'(by omega)) l[i]
          have hb2 := ordI_neg (a := l[i - 1]'(by omega)) (b := l[i])
          rw [e2] at hne2
          simp only [encLk] at cb
          cases hb : lkBefore (l[i - 1]'(by omega)) l[i] with
          | false =>
            have e := hne2 14 (by rw [if_pos ⟨by omega, hb⟩]) (by decide)
            rw [e]
            rw [hb] at hb2
            have hb3 : decide (0 ≤ ordI (l[i - 1]'(by omega)) l[i]) = true := by simpa using hb2
            refine J_run 200 ?_
            iterate 22 (all_goals (try (first
              | ((with_reducible refine J_draw (id := 12) 200 [] plan15_12 (by kernel_rfl) (by kernel_rfl) ?_); delta plan15_12)
              | (simp (maxSteps := 1000000) (disch := omega) only [go_sem, hg, hg', e1, hb3])
              | ((with_reducible refine CallA.pure cf ?_ ?_); (· simp (disch := omega) only [go_sem, hg, hg', e1, hb3]); rintro _ _ ⟨rfl, rfl⟩)
              | ((with_reducible refine CallA.pure cb ?_ ?_); (· simp (disch := omega) only [go_sem, hg, hg', e1, hb3]); rintro _ _ ⟨rfl, rfl⟩)
              | ((with_reducible first | refine gDt ?_ ?_ | refine gDf ?_ ?_ | refine gNt ?_ ?_ | refine gNf ?_ ?_ | refine cD ?_ ?_ | refine cN ?_ ?_ | refine cB ?_ ?_ | refine gB ?_ ?_ | refine stepGuard_dect ?_ ?_ | refine stepGuard_decf ?_ ?_ | refine stepGuard_ndect ?_ ?_ | refine stepGuard_ndecf ?_ ?_ | refine stepGuard_by ?_ ?_) <;> intro h)
              | with_reducible first | refine And.intro ?_ ?_ | refine J_seq ?_ | refine J_block ?_ | refine J_inBlock ?_ | refine rC ?_ | refine rR ?_ | refine rE ?_ | refine rG ?_ | refine FinQ.now ?_ | refine FinQ.end ?_)))
          | true =>
            rw [hb] at hb2
            have hb3 : decide (0 ≤ ordI (l[i - 1]'(by omega)) l[i]) = false := by simpa using hb2
            have hnb : ¬ (0 < i ∧ lkBefore (l[i - 1]'(by omega)) l[i] = false) := by simp [hb]
            have hne3 := fun e he => hne2 e (by rw [if_neg hnb]; exact he)
            obtain ⟨o1, ho1⟩ : ∃ o, (l.take i).any (fun x => decide (x.dev = l[i].dev ∧ x.pos ≠ l[i].pos)) = o := ⟨_, rfl⟩
            obtain ⟨o2, ho2⟩ : ∃ o, (l.take i).any (fun x => decide (x.key = l[i].key)) = o := ⟨_, rfl⟩
            rw [ho1, ho2] at hne3
            rw [ho1] at co
            rw [ho2] at cu
            cases o1 with
            | true =>
              have e := hne3 18 (by simp) (by decide)
              rw [e]
              refine J_run 200 ?_
              iterate 22 (all_goals (try (first
                | ((with_reducible refine J_draw (id := 12) 200 [] plan15_12 (by kernel_rfl) (by kernel_rfl) ?_); delta plan15_12)
                | ((with_reducible refine J_draw (id := 14) 200 [] plan15_14 (by kernel_rfl) (by kernel_rfl) ?_); delta plan15_14)
                | (simp (maxSteps := 1000000) (disch := omega) only [go_sem, hg, hg', e1, hb3])
                | ((with_reducible refine CallA.pure cf ?_ ?_); (· simp (disch := omega) only [go_sem, hg, hg', e1, hb3]); rintro _ _ ⟨rfl, rfl⟩)
                | ((with_reducible refine CallA.pure co ?_ ?_); (· simp (disch := omega) only [go_sem, hg, hg', e1, hb3]); rintro _ _ ⟨rfl, rfl⟩)
                | ((with_reducible refine CallA.pure cb ?_ ?_); (· simp (disch := omega) only [go_sem, hg, hg', e1, hb3]); rintro _ _ ⟨rfl, rfl⟩)
                | ((with_reducible first | refine gDt ?_ ?_ | refine gDf ?_ ?_ | refine gNt ?_ ?_ | refine gNf ?_ ?_ | refine cD ?_ ?_ | refine cN ?_ ?_ | refine cB ?_ ?_ | refine gB ?_ ?_ | refine stepGuard_dect ?_ ?_ | refine stepGuard_decf ?_ ?_ | refine stepGuard_ndect ?_ ?_ | refine stepGuard_ndecf ?_ ?_ | refine stepGuard_by ?_ ?_) <;> intro h)
                | with_reducible first | refine And.intro ?_ ?_ | refine J_seq ?_ | refine J_block ?_ | refine J_inBlock ?_ | refine rC ?_ | refine rR ?_ | refine rE ?_ | refine rG ?_ | refine FinQ.now ?_ | refine FinQ.end ?_)))
            | false =>
              cases o2 with
              | true =>
                have e := hne3 4 (by simp) (by decide)
                rw [e]
                refine J_run 200 ?_
                iterate 22 (all_goals (try (first
                  | ((with_reducible refine J_draw (id := 12) 200 [] plan15_12 (by kernel_rfl) (by kernel_rfl) ?_); delta plan15_12)
                  | ((with_reducible refine J_draw (id := 14) 200 [] plan15_14 (by kernel_rfl) (by kernel_rfl) ?_); delta plan15_14)
                  | ((with_reducible refine J_draw (id := 16) 200 [] plan15_16 (by kernel_rfl) (by kernel_rfl) ?_); delta plan15_16)
                  | (simp (maxSteps := 1000000) (disch := omega) only [go_sem, hg, hg', e1, hb3])
                  | ((with_reducible refine CallA.pure cf ?_ ?_); (· simp (disch := omega) only [go_sem, hg, hg', e1, hb3]); rintro _ _ ⟨rfl, rfl⟩)
                  | ((with_reducible refine CallA.pure co ?_ ?_); (· simp (disch := omega) only [go_sem, hg, hg', e1, hb3]); rintro _ _ ⟨rfl, rfl⟩)
                  | ((with_reducible refine CallA.pure cu ?_ ?_); (· simp (disch := omega) only [go_sem, hg, hg', e1, hb3]); rintro _ _ ⟨rfl, rfl⟩)
                  | ((with_reducible refine CallA.pure cb ?_ ?_); (· simp (disch := omega) only [go_sem, hg, hg', e1, hb3]); rintro _ _ ⟨rfl, rfl⟩)
                  | ((with_reducible first | refine gDt ?_ ?_ | refine gDf ?_ ?_ | refine gNt ?_ ?_ | refine gNf ?_ ?_ | refine cD ?_ ?_ | refine cN ?_ ?_ | refine cB ?_ ?_ | refine gB ?_ ?_ | refine stepGuard_dect ?_ ?_ | refine stepGuard_decf ?_ ?_ | refine stepGuard_ndect ?_ ?_ | refine stepGuard_ndecf ?_ ?_ | refine stepGuard_by ?_ ?_) <;> intro h)
                  | with_reducible first | refine And.intro ?_ ?_ | refine J_seq ?_ | refine J_block ?_ | refine J_inBlock ?_ | refine rC ?_ | refine rR ?_ | refine rE ?_ | refine rG ?_ | refine FinQ.now ?_ | refine FinQ.end ?_)))
              | false =>
                refine J_run 200 ?_
                iterate 22 (all_goals (try (first
                  | ((with_reducible refine J_draw (id := 12) 200 [] plan15_12 (by kernel_rfl) (by kernel_rfl) ?_); delta plan15_12)
                  | ((with_reducible refine J_draw (id := 14) 200 [] plan15_14 (by kernel_rfl) (by kernel_rfl) ?_); delta plan15_14)
                  | ((with_reducible refine J_draw (id := 16) 200 [] plan15_16 (by kernel_rfl) (by kernel_rfl) ?_); delta plan15_16)
                  | (simp (maxSteps := 1000000) (disch := omega) only [go_sem, hg, hg', e1, hb3])
                  | ((with_reducible refine CallA.pure cf ?_ ?_); (· simp (disch := omega) only [go_sem, hg, hg', e1, hb3]); rintro _ _ ⟨rfl, rfl⟩)
                  | ((with_reducible refine CallA.pure co ?_ ?_); (· simp (disch := omega) only [go_sem, hg, hg', e1, hb3]); rintro _ _ ⟨rfl, rfl⟩)
                  | ((with_reducible refine CallA.pure cu ?_ ?_); (· simp (disch := omega) only [go_sem, hg, hg', e1, hb3]); rintro _ _ ⟨rfl, rfl⟩)
                  | ((with_reducible refine CallA.pure cb ?_ ?_); (· simp (disch := omega) only [go_sem, hg, hg', e1, hb3]); rintro _ _ ⟨rfl, rfl⟩)
                  | ((with_reducible first | refine gDt ?_ ?_ | refine gDf ?_ ?_ | refine gNt ?_ ?_ | refine gNf ?_ ?_ | refine cD ?_ ?_ | refine cN ?_ ?_ | refine cB ?_ ?_ | refine gB ?_ ?_ | refine stepGuard_dect ?_ ?_ | refine stepGuard_decf ?_ ?_ | refine stepGuard_ndect ?_ ?_ | refine stepGuard_ndecf ?_ ?_ | refine stepGuard_by ?_ ?_) <;> intro h)
                  | with_reducible first | refine And.intro ?_ ?_ | refine J_seq ?_ | refine J_block ?_ | refine J_inBlock ?_ | refine rC ?_ | refine rR ?_ | refine rE ?_ | refine rG ?_ | refine FinQ.now ?_ | refine FinQ.end ?_)))
                refine .mk (i + 1) ⟨hlt, fun j hji => ?_⟩ (by omega) ?_ ?_
                · rcases Nat.lt_succ_iff_lt_or_eq.1 hji with h3 | rfl
                  · exact hpre j h3
                  · simp only [kErr, getD_get hlt]
                    simp only [hf, ne_eq, not_true_eq_false, if_false]
                    rw [ho1, ho2]
                    first | (rw [if_neg hnb]; rfl) | (rw [e2, if_neg hnb]; rfl)
                · simp [go_sem, encNet]
                · simp
      · have e := hne _ (if_pos hf) hf
        rw [e]
        refine J_run 200 ?_
        iterate 22 (all_goals (try (first
          | (simp (maxSteps := 1000000) (disch := omega) only [go_sem, hg])
          | ((with_reducible refine CallA.pure cf ?_ ?_); (· simp (disch := omega) only [go_sem, hg]); rintro _ _ ⟨rfl, rfl⟩)
          | ((with_reducible first | refine gDt ?_ ?_ | refine gDf ?_ ?_ | refine gNt ?_ ?_ | refine gNf ?_ ?_ | refine cD ?_ ?_ | refine cN ?_ ?_ | refine cB ?_ ?_ | refine gB ?_ ?_) <;> intro h)
          | with_reducible first | refine And.intro ?_ ?_ | refine J_seq ?_ | refine J_block ?_ | refine J_inBlock ?_ | refine rC ?_ | refine rR ?_ | refine rE ?_ | refine rG ?_ | refine FinQ.now ?_ | refine FinQ.end ?_)))
    · refine J_run 200 ?_
      have e : lockChk n l = 0 := by
        unfold lockChk
        rw [if_neg (by simp [h0]), if_neg h128]
        exact firstE_none fun j hj => hpre j (by omega)
      rw [e]
      repeat' (first
        | (simp (maxSteps := 1000000) (disch := omega) only [go_sem])
        | ((with_reducible first | refine gDt ?_ ?_ | refine gDf ?_ ?_ | refine gNt ?_ ?_ | refine gNf ?_ ?_ | refine cD ?_ ?_ | refine cN ?_ ?_ | refine cB ?_ ?_ | refine gB ?_ ?_) <;> intro h)
        | with_reducible first | refine And.intro ?_ ?_ | refine J_seq ?_ | refine J_block ?_ | refine J_inBlock ?_ | refine rC ?_ | refine rR ?_ | refine rE ?_ | refine rG ?_ | refine FinQ.now ?_ | refine FinQ.end ?_)
  · have e : lockChk n l = n.chk := by unfold lockChk; rw [if_pos h0]
    rw [e]
    iterate 12 (all_goals (try (first
      | (exfalso; omega)
      | (simp (maxSteps := 1000000) (disch := omega) only [go_sem])
      | ((with_reducible refine CallA.pure cc ?_ ?_); (· simp (disch := omega) only [go_sem]); rintro _ _ ⟨rfl, rfl⟩)
      | ((with_reducible first | refine gDt ?_ ?_ | refine gDf ?_ ?_ | refine gNt ?_ ?_ | refine gNf ?_ ?_ | refine cD ?_ ?_ | refine cN ?_ ?_ | refine cB ?_ ?_ | refine gB ?_ ?_) <;> intro h)
      | with_reducible first | refine And.intro ?_ ?_ | refine J_seq ?_ | refine J_block ?_ | refine J_inBlock ?_ | refine rC ?_ | refine rR ?_ | refine rE ?_ | refine rG ?_ | refine FinQ.now ?_ | refine FinQ.end ?_)))
end Go.Proofs.YtmfgaefefgnhbaaGreatDoor.Abs
namespace Go.Proofs.YtmfgaefefgnhbaaGreatDoor.Abs
set_option linter.unusedSimpArgs false
set_option linter.unusedVariables false
set_option maxRecDepth 100000
open Go Go.RowKit

theorem lockChk_ok' {n : Net} {l : List Lk} (h : lockChk n l = 0) : n.ok := by
  unfold lockChk at h
  split at h
  · rename_i h1; exact absurd h h1
  · rename_i h1; exact Net.chk_ok.1 (by simpa using h1)
def isThat (n : Net) (l : List Lk) (pos : Int) (pr : Int → Bool) (i : Nat) : Bool := decide (lockedAt l (i : Int) = some pos) && pr (n.devs.getD i ⟨⟨#[]⟩, 0, 0, 0, 0⟩).kind
def thoseTo (n : Net) (l : List Lk) (pos : Int) (pr : Int → Bool) (i : Nat) : List Int := ((List.range i).filter (isThat n l pos pr)).map Int.ofNat
theorem thoseTo_next {n : Net} {l : List Lk} {pos : Int} {pr : Int → Bool} {i : Nat} : thoseTo n l pos pr (i + 1) = thoseTo n l pos pr i ++ (if isThat n l pos pr i then [(i : Int)] else []) := by
  unfold thoseTo
  rw [List.range_succ, List.filter_append, List.map_append]
  congr 1
  simp only [List.filter_cons, List.filter_nil]
  cases isThat n l pos pr i <;> rfl
theorem thoseTo_len {n : Net} {l : List Lk} {pos : Int} {pr : Int → Bool} {i : Nat} : (thoseTo n l pos pr i).length ≤ i := by
  unfold thoseTo
  rw [List.length_map]
  exact Nat.le_trans (List.length_filter_le _ _) (by simp)
theorem gapsOf_those {n : Net} {l : List Lk} : gapsOf n l = thoseTo n l 1 gapK n.devs.length := rfl
theorem earthsOf_those {n : Net} {l : List Lk} : earthsOf n l = thoseTo n l 2 (fun k => decide (k = 4)) n.devs.length := rfl
noncomputable def thoseR (n : Net) (l : List Lk) (pos : Int) (pr : Int → Bool) : List Int × Int := if lockChk n l ≠ 0 then ([], lockChk n l) else (thoseTo n l pos pr n.devs.length, 0)
set_option maxHeartbeats 4000000 in
theorem thoseF (n : Net) (hs : n.sized) (l : List Lk) (hl : l.length ≤ 1000000) (pos : Int) (fn : FuncId) (pr : Int → Bool) (hp : ∀ k, Fn1 Tryz.prog GT0 fn [.raw (.int .i64 k)] (.raw (.bool (pr k))) []) :
    Fn1 Tryz.prog GT0 126 [.agg (encNet n), .lst 3 (l.map encLk), .raw (.int .i64 pos), .clo (.func fn) [] []]
      (.tup [.own 0 1 0 (thoseR n l pos pr).1.length, .raw (.int .i64 (thoseR n l pos pr).2)]) [.arr 1 ((thoseR n l pos pr).1.map encN)] := by
  have c := lockCheck n hs l hl
  by_cases h0 : lockChk n l = 0
  · have hr : thoseR n l pos pr = (thoseTo n l pos pr n.devs.length, 0) := by unfold thoseR; rw [if_neg (by simp [h0])]
    have hdl := (lockChk_ok' h0).dl
    rw [h0] at c
    rw [hr]
    refine holds_of Tryz.func126 rfl rfl ?_
    refine J_run 200 ?_
    delta Tryz.f126
    simp only [encNet] at c ⊢
    iterate 10 (all_goals (try (first
      | (simp (maxSteps := 1000000) (disch := omega) only [go_sem])
      | ((with_reducible refine CallA.pure c ?_ ?_); (· simp (disch := omega) only [go_sem]); rintro _ _ ⟨rfl, rfl⟩)
      | ((with_reducible first | refine gDt ?_ ?_ | refine gDf ?_ ?_ | refine gNt ?_ ?_ | refine gNf ?_ ?_ | refine cD ?_ ?_ | refine cN ?_ ?_ | refine cB ?_ ?_ | refine gB ?_ ?_) <;> intro h)
      | with_reducible first | refine And.intro ?_ ?_ | refine J_seq ?_ | refine J_block ?_ | refine J_inBlock ?_ | refine rC ?_ | refine rR ?_ | refine rE ?_ | refine rG ?_ | refine FinQ.now ?_ | refine FinQ.end ?_)))
    refine J_nilName 11 1 (by simp only [go_sem]) ?_
    simp only [go_sem]
    refine J_for ([12, 13, 14, 15] ++ upto 26 52) (fun i : Nat => [(25, .raw (.int .i64 i)), (11, .own 1 1 0 (thoseTo n l pos pr i).length)]) (fun i => [.box (encNet n), .arr 1 ((thoseTo n l pos pr i).map encN)]) (fun i => i ≤ n.devs.length) (fun i => n.devs.length - i) 0 (by omega) (.le (by simp [go_sem, encNet, thoseTo]) (by simp)) ?_
    intro i hi
    simp only [encNet]
    have htl := thoseTo_len (n := n) (l := l) (pos := pos) (pr := pr) (i := i)
    by_cases hlt : i < n.devs.length
    · have hg := getD_Dv hlt
      have ht := thoseTo_next (n := n) (l := l) (pos := pos) (pr := pr) (i := i)
      have ck := lockedF l hl i
      have cg := hp n.devs[i].kind
      have hsm : isThat n l pos pr i = (decide (lockedAt l (i : Int) = some pos) && pr n.devs[i].kind) := by unfold isThat; rw [getD_get hlt]
      obtain ⟨o, ho⟩ : ∃ o, lockedAt l (i : Int) = o := ⟨_, rfl⟩
      obtain ⟨g, hgk⟩ : ∃ o, pr n.devs[i].kind = o := ⟨_, rfl⟩
      rw [ho] at ck hsm
      rw [hgk] at cg hsm
      cases o with
      | none =>
        simp only [Option.getD_none, Option.isSome_none] at ck
        rw [hsm] at ht
        simp only [reduceCtorEq, decide_false, Bool.false_and, Bool.false_eq_true, if_false, List.append_nil] at ht
        refine J_run 200 ?_
        iterate 14 (all_goals (try (first
          | (simp (maxSteps := 1000000) (disch := omega) only [go_sem, hg])
          | ((with_reducible refine CallA.pure ck ?_ ?_); (· simp (disch := omega) only [go_sem, hg]); rintro _ _ ⟨rfl, rfl⟩)
          | ((with_reducible first | refine gDt ?_ ?_ | refine gDf ?_ ?_ | refine gNt ?_ ?_ | refine gNf ?_ ?_ | refine cD ?_ ?_ | refine cN ?_ ?_ | refine cB ?_ ?_ | refine gB ?_ ?_) <;> intro h)
          | with_reducible first | refine And.intro ?_ ?_ | refine J_seq ?_ | refine J_block ?_ | refine J_inBlock ?_ | refine rC ?_ | refine rR ?_ | refine rE ?_ | refine rG ?_ | refine FinQ.now ?_ | refine FinQ.end ?_)))
        refine .mk (i + 1) hlt (by omega) ?_ ?_
        · rw [ht]; simp [go_sem, encNet]
        · simp
      | some p =>
        simp only [Option.getD_some, Option.isSome_some] at ck
        cases g
        all_goals
          refine J_run 200 ?_
          iterate 16 (all_goals (try (first
            | (simp (maxSteps := 1000000) (disch := omega) only [go_sem, hg])
            | ((with_reducible refine CallA.pure ck ?_ ?_); (· simp (disch := omega) only [go_sem, hg]); rintro _ _ ⟨rfl, rfl⟩)
            | ((with_reducible refine CallA.pure cg ?_ ?_); (· simp (disch := omega) only [go_sem, hg]); rintro _ _ ⟨rfl, rfl⟩)
            | ((with_reducible first | refine gDt ?_ ?_ | refine gDf ?_ ?_ | refine gNt ?_ ?_ | refine gNf ?_ ?_ | refine cD ?_ ?_ | refine cN ?_ ?_ | refine cB ?_ ?_ | refine gB ?_ ?_) <;> intro h)
            | with_reducible first | refine And.intro ?_ ?_ | refine J_seq ?_ | refine J_block ?_ | refine J_inBlock ?_ | refine rC ?_ | refine rR ?_ | refine rE ?_ | refine rG ?_ | refine FinQ.now ?_ | refine FinQ.end ?_)))
          all_goals
            refine .mk (i + 1) hlt (by omega) ?_ ?_
            · rw [hsm] at ht
              rw [ht]
              simp_all [go_sem, encNet, encN]
            · simp
    · have hie : i = n.devs.length := by omega
      subst hie
      refine J_run 200 ?_
      iterate 6 (all_goals (try (first
        | (simp (maxSteps := 1000000) (disch := omega) only [go_sem])
        | ((with_reducible first | refine gDt ?_ ?_ | refine gDf ?_ ?_ | refine gNt ?_ ?_ | refine gNf ?_ ?_ | refine cD ?_ ?_ | refine cN ?_ ?_ | refine cB ?_ ?_ | refine gB ?_ ?_) <;> intro h)
        | with_reducible first | refine And.intro ?_ ?_ | refine J_seq ?_ | refine J_block ?_ | refine J_inBlock ?_ | refine rC ?_ | refine rR ?_ | refine rE ?_ | refine rG ?_ | refine FinQ.now ?_ | refine FinQ.end ?_)))
  · have hr : thoseR n l pos pr = ([], lockChk n l) := by unfold thoseR; rw [if_pos h0]
    rw [hr]
    refine holds_of Tryz.func126 rfl rfl ?_
    refine J_run 200 ?_
    delta Tryz.f126
    simp only [encNet] at c ⊢
    iterate 10 (all_goals (try (first
      | (exfalso; omega)
      | (simp (maxSteps := 1000000) (disch := omega) only [go_sem])
      | ((with_reducible refine CallA.pure c ?_ ?_); (· simp (disch := omega) only [go_sem]); rintro _ _ ⟨rfl, rfl⟩)
      | ((with_reducible first | refine gDt ?_ ?_ | refine gDf ?_ ?_ | refine gNt ?_ ?_ | refine gNf ?_ ?_ | refine cD ?_ ?_ | refine cN ?_ ?_ | refine cB ?_ ?_ | refine gB ?_ ?_) <;> intro h)
      | with_reducible first | refine And.intro ?_ ?_ | refine J_seq ?_ | refine J_block ?_ | refine J_inBlock ?_ | refine rC ?_ | refine rR ?_ | refine rE ?_ | refine rG ?_)))
    refine .nilName 8 1 (by simp only [go_sem]) (.now ?_)
    simp only [go_sem]
theorem gapsF (n : Net) (hs : n.sized) (l : List Lk) (hl : l.length ≤ 1000000) :
    Fn1 Tryz.prog GT0 102 [.agg (encNet n), .lst 3 (l.map encLk)] (.tup [.own 0 1 0 (thoseR n l 1 gapK).1.length, .raw (.int .i64 (thoseR n l 1 gapK).2)]) [.arr 1 ((thoseR n l 1 gapK).1.map encN)] := by
  have c := thoseF n hs l hl 1 127 gapK gap
  refine holds_of Tryz.func102 rfl rfl ?_
  refine J_run 200 ?_
  delta Tryz.f102
  simp only [encNet] at c ⊢
  repeat' (first
    | (simp (maxSteps := 1000000) (disch := omega) only [go_sem])
    | ((with_reducible refine CallA.pure c ?_ ?_); (· simp (disch := omega) only [go_sem]); rintro _ _ ⟨rfl, rfl⟩)
    | ((with_reducible first | refine gDt ?_ ?_ | refine gDf ?_ ?_ | refine gNt ?_ ?_ | refine gNf ?_ ?_ | refine cD ?_ ?_ | refine cN ?_ ?_ | refine cB ?_ ?_ | refine gB ?_ ?_) <;> intro h)
    | with_reducible first | refine And.intro ?_ ?_ | refine J_seq ?_ | refine J_block ?_ | refine J_inBlock ?_ | refine rC ?_ | refine rR ?_ | refine rE ?_ | refine rG ?_ | refine FinQ.now ?_ | refine FinQ.end ?_)
noncomputable def lockedE (n : Net) (l : List Lk) (z : List Int) : Int := if lockChk n l ≠ 0 then lockChk n l else zoneChk n z
theorem lockedE_zero {n : Net} {l : List Lk} {z : List Int} (h : lockedE n l z = 0) : lockChk n l = 0 ∧ zoneChk n z = 0 := by
  unfold lockedE at h
  split at h
  · rename_i h1; exact absurd h h1
  · rename_i h1; exact ⟨by simpa using h1, h⟩
theorem thoseR_ok {n : Net} {l : List Lk} (h : lockChk n l = 0) : thoseR n l 1 gapK = (gapsOf n l, 0) := by unfold thoseR; rw [if_neg (by simp [h]), gapsOf_those]
theorem lockedZ (n : Net) (hs : n.sized) (l : List Lk) (hl : l.length ≤ 1000000) (z : List Int) (hz : z.length ≤ 1000000) :
    Fn1 Tryz.prog GT0 67 [.agg (encNet n), .lst 3 (l.map encLk), .lst 1 (z.map encN)] (.tup [.own 0 1 0 (thoseR n l 1 gapK).1.length, .raw (.int .i64 (lockedE n l z))]) [.arr 1 ((thoseR n l 1 gapK).1.map encN)] := by
  have c := gapsF n hs l hl
  have cz := checkZ n hs z hz
  by_cases h0 : lockChk n l = 0
  · have e : lockedE n l z = zoneChk n z := by unfold lockedE; rw [if_neg (by simp [h0])]
    rw [thoseR_ok h0] at c ⊢
    rw [e]
    refine holds_of Tryz.func67 rfl rfl ?_
    refine J_run 200 ?_
    delta Tryz.f67
    simp only [encNet] at c cz ⊢
    repeat' (first
      | (simp (maxSteps := 1000000) (disch := omega) only [go_sem])
      | ((with_reducible refine CallA.pure c ?_ ?_); (· simp (disch := omega) only [go_sem]); rintro _ _ ⟨rfl, rfl⟩)
      | ((with_reducible refine CallA.pure cz ?_ ?_); (· simp (disch := omega) only [go_sem]); rintro _ _ ⟨rfl, rfl⟩)
      | ((with_reducible first | refine gDt ?_ ?_ | refine gDf ?_ ?_ | refine gNt ?_ ?_ | refine gNf ?_ ?_ | refine cD ?_ ?_ | refine cN ?_ ?_ | refine cB ?_ ?_ | refine gB ?_ ?_) <;> intro h)
      | with_reducible first | refine And.intro ?_ ?_ | refine J_seq ?_ | refine J_block ?_ | refine J_inBlock ?_ | refine rC ?_ | refine rR ?_ | refine rE ?_ | refine rG ?_ | refine FinQ.now ?_ | refine FinQ.end ?_)
  · have e : lockedE n l z = lockChk n l := by unfold lockedE; rw [if_pos h0]
    have er : thoseR n l 1 gapK = ([], lockChk n l) := by unfold thoseR; rw [if_pos h0]
    rw [er] at c ⊢
    rw [e]
    refine holds_of Tryz.func67 rfl rfl ?_
    refine J_run 200 ?_
    delta Tryz.f67
    simp only [encNet] at c cz ⊢
    iterate 14 (all_goals (try (first
      | (exfalso; omega)
      | (simp (maxSteps := 1000000) (disch := omega) only [go_sem, h0])
      | ((with_reducible refine CallA.pure c ?_ ?_); (· simp (disch := omega) only [go_sem, h0]); rintro _ _ ⟨rfl, rfl⟩)
      | ((with_reducible refine CallA.pure cz ?_ ?_); (· simp (disch := omega) only [go_sem, h0]); rintro _ _ ⟨rfl, rfl⟩)
      | ((with_reducible first | refine gDt ?_ ?_ | refine gDf ?_ ?_ | refine gNt ?_ ?_ | refine gNf ?_ ?_ | refine cD ?_ ?_ | refine cN ?_ ?_ | refine cB ?_ ?_ | refine gB ?_ ?_) <;> intro h)
      | with_reducible first | refine And.intro ?_ ?_ | refine J_seq ?_ | refine J_block ?_ | refine J_inBlock ?_ | refine rC ?_ | refine rR ?_ | refine rE ?_ | refine rG ?_ | refine FinQ.now ?_ | refine FinQ.end ?_)))
noncomputable def isolatedR (n : Net) (l : List Lk) (z : List Int) : Bool × Int := if lockedE n l z ≠ 0 then (false, lockedE n l z) else (enoughB n z (gapsOf n l), 0)
theorem gapsOf_len {n : Net} {l : List Lk} : (gapsOf n l).length ≤ n.devs.length := by rw [gapsOf_those]; exact thoseTo_len
theorem isolatedF (n : Net) (hs : n.sized) (l : List Lk) (hl : l.length ≤ 1000000) (z : List Int) (hz : z.length ≤ 1000000) :
    Fn1 Tryz.prog GT0 33 [.agg (encNet n), .lst 3 (l.map encLk), .lst 1 (z.map encN)] (.tup [.raw (.bool (isolatedR n l z).1), .raw (.int .i64 (isolatedR n l z).2)]) [] := by
  have c := lockedZ n hs l hl z hz
  by_cases h0 : lockedE n l z = 0
  · obtain ⟨h1, h2⟩ := lockedE_zero h0
    obtain ⟨hn, hz0, hzr⟩ := zoneChk_zero h2
    have hgl := gapsOf_len (n := n) (l := l)
    have hdl := hn.dl
    have ce := enoughF n hn z (gapsOf n l) (fun x hx => rising_mem hzr hx) hz (by omega)
    have er : isolatedR n l z = (enoughB n z (gapsOf n l), 0) := by unfold isolatedR; rw [if_neg (by simp [h0])]
    rw [thoseR_ok h1, h0] at c
    rw [er]
    refine holds_of Tryz.func33 rfl rfl ?_
    refine J_run 200 ?_
    delta Tryz.f33
    simp only [encNet] at c ce ⊢
    repeat' (first
      | (simp (maxSteps := 1000000) (disch := omega) only [go_sem, take_lm])
      | ((with_reducible refine CallA.pure c ?_ ?_); (· simp (disch := omega) only [go_sem, take_lm]); rintro _ _ ⟨rfl, rfl⟩)
      | ((with_reducible refine CallA.give [1] ?_ ?_ ce ?_); (· simp (disch := omega) only [go_sem, take_lm]); (· simp (disch := omega) only [go_sem, take_lm]); rintro _ _ ⟨rfl, rfl⟩)
      | ((with_reducible first | refine gDt ?_ ?_ | refine gDf ?_ ?_ | refine gNt ?_ ?_ | refine gNf ?_ ?_ | refine cD ?_ ?_ | refine cN ?_ ?_ | refine cB ?_ ?_ | refine gB ?_ ?_) <;> intro h)
      | with_reducible first | refine And.intro ?_ ?_ | refine J_seq ?_ | refine J_block ?_ | refine J_inBlock ?_ | refine rC ?_ | refine rR ?_ | refine rE ?_ | refine rG ?_ | refine FinQ.now ?_ | refine FinQ.end ?_)
  · have er : isolatedR n l z = (false, lockedE n l z) := by unfold isolatedR; rw [if_pos h0]
    rw [er]
    refine holds_of Tryz.func33 rfl rfl ?_
    refine J_run 200 ?_
    delta Tryz.f33
    simp only [encNet] at c ⊢
    iterate 14 (all_goals (try (first
      | (exfalso; omega)
      | (simp (maxSteps := 1000000) (disch := omega) only [go_sem, h0])
      | ((with_reducible refine CallA.pure c ?_ ?_); (· simp (disch := omega) only [go_sem, h0]); rintro _ _ ⟨rfl, rfl⟩)
      | ((with_reducible first | refine gDt ?_ ?_ | refine gDf ?_ ?_ | refine gNt ?_ ?_ | refine gNf ?_ ?_ | refine cD ?_ ?_ | refine cN ?_ ?_ | refine cB ?_ ?_ | refine gB ?_ ?_) <;> intro h)
      | with_reducible first | refine And.intro ?_ ?_ | refine J_seq ?_ | refine J_block ?_ | refine J_inBlock ?_ | refine rC ?_ | refine rR ?_ | refine rE ?_ | refine rG ?_ | refine FinQ.now ?_ | refine FinQ.end ?_)))
noncomputable def pointsR (n : Net) (l : List Lk) (z : List Int) : List Int × Int := if lockedE n l z ≠ 0 then ([], lockedE n l z) else ((gapsOf n l).filter (atB n z (gapsOf n l)), 0)
end Go.Proofs.YtmfgaefefgnhbaaGreatDoor.Abs
