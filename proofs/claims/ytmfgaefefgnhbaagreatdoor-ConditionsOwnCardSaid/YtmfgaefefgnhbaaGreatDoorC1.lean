/- Printed by cond/mkqb.py: slices.IndexFunc and ContainsFunc over structs. Beliefs, keys and portable earths: their checks in the program and in the reference. Keys and portable earths: rows, in the program and in the reference. Keys and portable earths: who has a number, in the program and in the reference. -/
import Derived.Test.YtmfgaefefgnhbaaGreatDoorQA
namespace Go.Proofs.YtmfgaefefgnhbaaGreatDoor.Abs
set_option linter.unusedSimpArgs false
set_option linter.unusedVariables false
set_option maxRecDepth 100000
open Go Go.RowKit


set_option maxHeartbeats 2000000 in
theorem indexFuncD (ys : List Doc) (fn : FuncId) (cap : List AV) (hcap : AV.immL cap = true) (pr : Doc → Bool) (hl : ys.length ≤ 1000000)
    (hp : ∀ y, y ∈ ys → Fn1 Tryz.prog GT0 fn (.agg (encDoc y) :: cap) (.raw (.bool (pr y))) []) :
    Fn1 Tryz.prog GT0 115 [.lst 12 (ys.map encDoc), .clo (.func fn) [] cap] (.raw (.int .i64 (firstAt pr ys))) [] := by
  have hcapk := fun s => AV.keepsL_imm s cap hcap
  refine holds_of Tryz.func115 rfl rfl ?_
  refine J_run 200 ?_
  delta Tryz.f115
  repeat' (first
    | (simp (maxSteps := 1000000) (disch := omega) only [go_sem])
    | ((with_reducible first | refine gDt ?_ ?_ | refine gDf ?_ ?_ | refine gNt ?_ ?_ | refine gNf ?_ ?_ | refine cD ?_ ?_ | refine cN ?_ ?_ | refine cB ?_ ?_ | refine gB ?_ ?_) <;> intro h)
    | with_reducible first | refine And.intro ?_ ?_ | refine J_seq ?_ | refine J_block ?_ | refine J_inBlock ?_ | refine rC ?_ | refine rR ?_ | refine rE ?_ | refine rG ?_ | refine FinQ.now ?_ | refine FinQ.end ?_)
  refine J_for (5 :: upto 9 18) (fun i : Nat => [(8, .raw (.int .i64 i))]) (fun _ => []) (fun i => i ≤ ys.length ∧ ∀ j (hj : j < i) (hx : j < ys.length), pr ys[j] = false) (fun i => ys.length - i) 0 ⟨by omega, by omega⟩ (.le (by simp [go_sem, hcapk]) (by simp)) ?_
  rintro i ⟨hi, hpre⟩
  by_cases hlt : i < ys.length
  · have hpx := hp _ (List.getElem_mem hlt)
    have hg : (ys.map encDoc).getD i [] = encDoc ys[i] := getD_map hlt
    simp only [encDoc] at hpx hg
    refine J_run 200 ?_
    simp (disch := omega) only [go_sem, hg]
    refine CallA.pure hpx (by simp [go_sem, hcap]) ?_
    rintro _ _ ⟨rfl, rfl⟩
    repeat' (first
      | (simp (maxSteps := 1000000) (disch := omega) only [go_sem])
      | ((with_reducible first | refine gDt ?_ ?_ | refine gDf ?_ ?_ | refine gNt ?_ ?_ | refine gNf ?_ ?_ | refine cD ?_ ?_ | refine cN ?_ ?_ | refine cB ?_ ?_ | refine gB ?_ ?_) <;> intro h)
      | with_reducible first | refine And.intro ?_ ?_ | refine J_seq ?_ | refine J_block ?_ | refine J_inBlock ?_ | refine rC ?_ | refine rR ?_ | refine rE ?_ | refine rG ?_ | refine FinQ.now ?_ | refine FinQ.end ?_)
    · rw [firstAt_some hlt h fun j hj => hpre j hj (by omega)]
    · refine .mk (i + 1) ⟨hlt, fun j hj hx => ?_⟩ (by omega) (by simp [go_sem, hcapk]) (by simp)
      rcases Nat.lt_succ_iff_lt_or_eq.1 hj with h3 | rfl
      · exact hpre j h3 hx
      · exact h
  · refine J_run 200 ?_
    repeat' (first
      | (simp (maxSteps := 1000000) (disch := omega) only [go_sem])
      | ((with_reducible first | refine gDt ?_ ?_ | refine gDf ?_ ?_ | refine gNt ?_ ?_ | refine gNf ?_ ?_ | refine cD ?_ ?_ | refine cN ?_ ?_ | refine cB ?_ ?_ | refine gB ?_ ?_) <;> intro h)
      | with_reducible first | refine And.intro ?_ ?_ | refine J_seq ?_ | refine J_block ?_ | refine J_inBlock ?_ | refine rC ?_ | refine rR ?_ | refine rE ?_ | refine rG ?_ | refine FinQ.now ?_ | refine FinQ.end ?_)
    rw [firstAt_none fun y hy => ?_]
    obtain ⟨j, hj, rfl⟩ := List.getElem_of_mem hy
    exact hpre j (by omega) hj
theorem containsFuncD (ys : List Doc) (fn : FuncId) (cap : List AV) (hcap : AV.immL cap = true) (pr : Doc → Bool) (hl : ys.length ≤ 1000000)
    (hp : ∀ y, y ∈ ys → Fn1 Tryz.prog GT0 fn (.agg (encDoc y) :: cap) (.raw (.bool (pr y))) []) :
    Fn1 Tryz.prog GT0 84 [.lst 12 (ys.map encDoc), .clo (.func fn) [] cap] (.raw (.bool (ys.any pr))) [] := by
  have hcapk := fun s => AV.keepsL_imm s cap hcap
  have c := indexFuncD ys fn cap hcap pr hl hp
  refine holds_of Tryz.func84 rfl rfl ?_
  refine J_run 200 ?_
  delta Tryz.f84
  repeat' (first
    | (simp (maxSteps := 1000000) (disch := omega) only [go_sem, hcap])
    | ((with_reducible refine CallA.pure c ?_ ?_); (· simp (disch := omega) only [go_sem, hcap]); rintro _ _ ⟨rfl, rfl⟩)
    | ((with_reducible first | refine gDt ?_ ?_ | refine gDf ?_ ?_ | refine gNt ?_ ?_ | refine gNf ?_ ?_ | refine cD ?_ ?_ | refine cN ?_ ?_ | refine cB ?_ ?_ | refine gB ?_ ?_) <;> intro h)
    | with_reducible first | refine And.intro ?_ ?_ | refine J_seq ?_ | refine J_block ?_ | refine J_inBlock ?_ | refine rC ?_ | refine rR ?_ | refine rE ?_ | refine rG ?_ | refine FinQ.now ?_ | refine FinQ.end ?_)
  rw [firstAt_ge]

set_option maxHeartbeats 2000000 in
theorem indexFuncO (ys : List Ord) (fn : FuncId) (cap : List AV) (hcap : AV.immL cap = true) (pr : Ord → Bool) (hl : ys.length ≤ 1000000)
    (hp : ∀ y, y ∈ ys → Fn1 Tryz.prog GT0 fn (.agg (encOrd y) :: cap) (.raw (.bool (pr y))) []) :
    Fn1 Tryz.prog GT0 116 [.lst 8 (ys.map encOrd), .clo (.func fn) [] cap] (.raw (.int .i64 (firstAt pr ys))) [] := by
  have hcapk := fun s => AV.keepsL_imm s cap hcap
  refine holds_of Tryz.func116 rfl rfl ?_
  refine J_run 200 ?_
  delta Tryz.f116
  repeat' (first
    | (simp (maxSteps := 1000000) (disch := omega) only [go_sem])
    | ((with_reducible first | refine gDt ?_ ?_ | refine gDf ?_ ?_ | refine gNt ?_ ?_ | refine gNf ?_ ?_ | refine cD ?_ ?_ | refine cN ?_ ?_ | refine cB ?_ ?_ | refine gB ?_ ?_) <;> intro h)
    | with_reducible first | refine And.intro ?_ ?_ | refine J_seq ?_ | refine J_block ?_ | refine J_inBlock ?_ | refine rC ?_ | refine rR ?_ | refine rE ?_ | refine rG ?_ | refine FinQ.now ?_ | refine FinQ.end ?_)
  refine J_for (5 :: upto 9 18) (fun i : Nat => [(8, .raw (.int .i64 i))]) (fun _ => []) (fun i => i ≤ ys.length ∧ ∀ j (hj : j < i) (hx : j < ys.length), pr ys[j] = false) (fun i => ys.length - i) 0 ⟨by omega, by omega⟩ (.le (by simp [go_sem, hcapk]) (by simp)) ?_
  rintro i ⟨hi, hpre⟩
  by_cases hlt : i < ys.length
  · have hpx := hp _ (List.getElem_mem hlt)
    have hg : (ys.map encOrd).getD i [] = encOrd ys[i] := getD_map hlt
    simp only [encOrd] at hpx hg
    refine J_run 200 ?_
    simp (disch := omega) only [go_sem, hg]
    refine CallA.pure hpx (by simp [go_sem, hcap]) ?_
    rintro _ _ ⟨rfl, rfl⟩
    repeat' (first
      | (simp (maxSteps := 1000000) (disch := omega) only [go_sem])
      | ((with_reducible first | refine gDt ?_ ?_ | refine gDf ?_ ?_ | refine gNt ?_ ?_ | refine gNf ?_ ?_ | refine cD ?_ ?_ | refine cN ?_ ?_ | refine cB ?_ ?_ | refine gB ?_ ?_) <;> intro h)
      | with_reducible first | refine And.intro ?_ ?_ | refine J_seq ?_ | refine J_block ?_ | refine J_inBlock ?_ | refine rC ?_ | refine rR ?_ | refine rE ?_ | refine rG ?_ | refine FinQ.now ?_ | refine FinQ.end ?_)
    · rw [firstAt_some hlt h fun j hj => hpre j hj (by omega)]
    · refine .mk (i + 1) ⟨hlt, fun j hj hx => ?_⟩ (by omega) (by simp [go_sem, hcapk]) (by simp)
      rcases Nat.lt_succ_iff_lt_or_eq.1 hj with h3 | rfl
      · exact hpre j h3 hx
      · exact h
  · refine J_run 200 ?_
    repeat' (first
      | (simp (maxSteps := 1000000) (disch := omega) only [go_sem])
      | ((with_reducible first | refine gDt ?_ ?_ | refine gDf ?_ ?_ | refine gNt ?_ ?_ | refine gNf ?_ ?_ | refine cD ?_ ?_ | refine cN ?_ ?_ | refine cB ?_ ?_ | refine gB ?_ ?_) <;> intro h)
      | with_reducible first | refine And.intro ?_ ?_ | refine J_seq ?_ | refine J_block ?_ | refine J_inBlock ?_ | refine rC ?_ | refine rR ?_ | refine rE ?_ | refine rG ?_ | refine FinQ.now ?_ | refine FinQ.end ?_)
    rw [firstAt_none fun y hy => ?_]
    obtain ⟨j, hj, rfl⟩ := List.getElem_of_mem hy
    exact hpre j (by omega) hj
theorem containsFuncO (ys : List Ord) (fn : FuncId) (cap : List AV) (hcap : AV.immL cap = true) (pr : Ord → Bool) (hl : ys.length ≤ 1000000)
    (hp : ∀ y, y ∈ ys → Fn1 Tryz.prog GT0 fn (.agg (encOrd y) :: cap) (.raw (.bool (pr y))) []) :
    Fn1 Tryz.prog GT0 86 [.lst 8 (ys.map encOrd), .clo (.func fn) [] cap] (.raw (.bool (ys.any pr))) [] := by
  have hcapk := fun s => AV.keepsL_imm s cap hcap
  have c := indexFuncO ys fn cap hcap pr hl hp
  refine holds_of Tryz.func86 rfl rfl ?_
  refine J_run 200 ?_
  delta Tryz.f86
  repeat' (first
    | (simp (maxSteps := 1000000) (disch := omega) only [go_sem, hcap])
    | ((with_reducible refine CallA.pure c ?_ ?_); (· simp (disch := omega) only [go_sem, hcap]); rintro _ _ ⟨rfl, rfl⟩)
    | ((with_reducible first | refine gDt ?_ ?_ | refine gDf ?_ ?_ | refine gNt ?_ ?_ | refine gNf ?_ ?_ | refine cD ?_ ?_ | refine cN ?_ ?_ | refine cB ?_ ?_ | refine gB ?_ ?_) <;> intro h)
    | with_reducible first | refine And.intro ?_ ?_ | refine J_seq ?_ | refine J_block ?_ | refine J_inBlock ?_ | refine rC ?_ | refine rR ?_ | refine rE ?_ | refine rG ?_ | refine FinQ.now ?_ | refine FinQ.end ?_)
  rw [firstAt_ge]

set_option maxHeartbeats 2000000 in
theorem indexFuncC (ys : List Cert) (fn : FuncId) (cap : List AV) (hcap : AV.immL cap = true) (pr : Cert → Bool) (hl : ys.length ≤ 1000000)
    (hp : ∀ y, y ∈ ys → Fn1 Tryz.prog GT0 fn (.agg (encCert y) :: cap) (.raw (.bool (pr y))) []) :
    Fn1 Tryz.prog GT0 70 [.lst 5 (ys.map encCert), .clo (.func fn) [] cap] (.raw (.int .i64 (firstAt pr ys))) [] := by
  have hcapk := fun s => AV.keepsL_imm s cap hcap
  refine holds_of Tryz.func70 rfl rfl ?_
  refine J_run 200 ?_
  delta Tryz.f70
  repeat' (first
    | (simp (maxSteps := 1000000) (disch := omega) only [go_sem])
    | ((with_reducible first | refine gDt ?_ ?_ | refine gDf ?_ ?_ | refine gNt ?_ ?_ | refine gNf ?_ ?_ | refine cD ?_ ?_ | refine cN ?_ ?_ | refine cB ?_ ?_ | refine gB ?_ ?_) <;> intro h)
    | with_reducible first | refine And.intro ?_ ?_ | refine J_seq ?_ | refine J_block ?_ | refine J_inBlock ?_ | refine rC ?_ | refine rR ?_ | refine rE ?_ | refine rG ?_ | refine FinQ.now ?_ | refine FinQ.end ?_)
  refine J_for (5 :: upto 9 18) (fun i : Nat => [(8, .raw (.int .i64 i))]) (fun _ => []) (fun i => i ≤ ys.length ∧ ∀ j (hj : j < i) (hx : j < ys.length), pr ys[j] = false) (fun i => ys.length - i) 0 ⟨by omega, by omega⟩ (.le (by simp [go_sem, hcapk]) (by simp)) ?_
  rintro i ⟨hi, hpre⟩
  by_cases hlt : i < ys.length
  · have hpx := hp _ (List.getElem_mem hlt)
    have hg : (ys.map encCert).getD i [] = encCert ys[i] := getD_map hlt
    simp only [encCert] at hpx hg
    refine J_run 200 ?_
    simp (disch := omega) only [go_sem, hg]
    refine CallA.pure hpx (by simp [go_sem, hcap]) ?_
    rintro _ _ ⟨rfl, rfl⟩
    repeat' (first
      | (simp (maxSteps := 1000000) (disch := omega) only [go_sem])
      | ((with_reducible first | refine gDt ?_ ?_ | refine gDf ?_ ?_ | refine gNt ?_ ?_ | refine gNf ?_ ?_ | refine cD ?_ ?_ | refine cN ?_ ?_ | refine cB ?_ ?_ | refine gB ?_ ?_) <;> intro h)
      | with_reducible first | refine And.intro ?_ ?_ | refine J_seq ?_ | refine J_block ?_ | refine J_inBlock ?_ | refine rC ?_ | refine rR ?_ | refine rE ?_ | refine rG ?_ | refine FinQ.now ?_ | refine FinQ.end ?_)
    · rw [firstAt_some hlt h fun j hj => hpre j hj (by omega)]
    · refine .mk (i + 1) ⟨hlt, fun j hj hx => ?_⟩ (by omega) (by simp [go_sem, hcapk]) (by simp)
      rcases Nat.lt_succ_iff_lt_or_eq.1 hj with h3 | rfl
      · exact hpre j h3 hx
      · exact h
  · refine J_run 200 ?_
    repeat' (first
      | (simp (maxSteps := 1000000) (disch := omega) only [go_sem])
      | ((with_reducible first | refine gDt ?_ ?_ | refine gDf ?_ ?_ | refine gNt ?_ ?_ | refine gNf ?_ ?_ | refine cD ?_ ?_ | refine cN ?_ ?_ | refine cB ?_ ?_ | refine gB ?_ ?_) <;> intro h)
      | with_reducible first | refine And.intro ?_ ?_ | refine J_seq ?_ | refine J_block ?_ | refine J_inBlock ?_ | refine rC ?_ | refine rR ?_ | refine rE ?_ | refine rG ?_ | refine FinQ.now ?_ | refine FinQ.end ?_)
    rw [firstAt_none fun y hy => ?_]
    obtain ⟨j, hj, rfl⟩ := List.getElem_of_mem hy
    exact hpre j (by omega) hj
theorem containsFuncC (ys : List Cert) (fn : FuncId) (cap : List AV) (hcap : AV.immL cap = true) (pr : Cert → Bool) (hl : ys.length ≤ 1000000)
    (hp : ∀ y, y ∈ ys → Fn1 Tryz.prog GT0 fn (.agg (encCert y) :: cap) (.raw (.bool (pr y))) []) :
    Fn1 Tryz.prog GT0 88 [.lst 5 (ys.map encCert), .clo (.func fn) [] cap] (.raw (.bool (ys.any pr))) [] := by
  have hcapk := fun s => AV.keepsL_imm s cap hcap
  have c := indexFuncC ys fn cap hcap pr hl hp
  refine holds_of Tryz.func88 rfl rfl ?_
  refine J_run 200 ?_
  delta Tryz.f88
  repeat' (first
    | (simp (maxSteps := 1000000) (disch := omega) only [go_sem, hcap])
    | ((with_reducible refine CallA.pure c ?_ ?_); (· simp (disch := omega) only [go_sem, hcap]); rintro _ _ ⟨rfl, rfl⟩)
    | ((with_reducible first | refine gDt ?_ ?_ | refine gDf ?_ ?_ | refine gNt ?_ ?_ | refine gNf ?_ ?_ | refine cD ?_ ?_ | refine cN ?_ ?_ | refine cB ?_ ?_ | refine gB ?_ ?_) <;> intro h)
    | with_reducible first | refine And.intro ?_ ?_ | refine J_seq ?_ | refine J_block ?_ | refine J_inBlock ?_ | refine rC ?_ | refine rR ?_ | refine rE ?_ | refine rG ?_ | refine FinQ.now ?_ | refine FinQ.end ?_)
  rw [firstAt_ge]

set_option maxHeartbeats 2000000 in
theorem indexFuncS (ys : List Safe) (fn : FuncId) (cap : List AV) (hcap : AV.immL cap = true) (pr : Safe → Bool) (hl : ys.length ≤ 1000000)
    (hp : ∀ y, y ∈ ys → Fn1 Tryz.prog GT0 fn (.agg (encSafe y) :: cap) (.raw (.bool (pr y))) []) :
    Fn1 Tryz.prog GT0 124 [.lst 3 (ys.map encSafe), .clo (.func fn) [] cap] (.raw (.int .i64 (firstAt pr ys))) [] := by
  have hcapk := fun s => AV.keepsL_imm s cap hcap
  refine holds_of Tryz.func124 rfl rfl ?_
  refine J_run 200 ?_
  delta Tryz.f124
  repeat' (first
    | (simp (maxSteps := 1000000) (disch := omega) only [go_sem])
    | ((with_reducible first | refine gDt ?_ ?_ | refine gDf ?_ ?_ | refine gNt ?_ ?_ | refine gNf ?_ ?_ | refine cD ?_ ?_ | refine cN ?_ ?_ | refine cB ?_ ?_ | refine gB ?_ ?_) <;> intro h)
    | with_reducible first | refine And.intro ?_ ?_ | refine J_seq ?_ | refine J_block ?_ | refine J_inBlock ?_ | refine rC ?_ | refine rR ?_ | refine rE ?_ | refine rG ?_ | refine FinQ.now ?_ | refine FinQ.end ?_)
  refine J_for (5 :: upto 9 18) (fun i : Nat => [(8, .raw (.int .i64 i))]) (fun _ => []) (fun i => i ≤ ys.length ∧ ∀ j (hj : j < i) (hx : j < ys.length), pr ys[j] = false) (fun i => ys.length - i) 0 ⟨by omega, by omega⟩ (.le (by simp [go_sem, hcapk]) (by simp)) ?_
  rintro i ⟨hi, hpre⟩
  by_cases hlt : i < ys.length
  · have hpx := hp _ (List.getElem_mem hlt)
    have hg : (ys.map encSafe).getD i [] = encSafe ys[i] := getD_map hlt
    simp only [encSafe] at hpx hg
    refine J_run 200 ?_
    simp (disch := omega) only [go_sem, hg]
    refine CallA.pure hpx (by simp [go_sem, hcap]) ?_
    rintro _ _ ⟨rfl, rfl⟩
    repeat' (first
      | (simp (maxSteps := 1000000) (disch := omega) only [go_sem])
      | ((with_reducible first | refine gDt ?_ ?_ | refine gDf ?_ ?_ | refine gNt ?_ ?_ | refine gNf ?_ ?_ | refine cD ?_ ?_ | refine cN ?_ ?_ | refine cB ?_ ?_ | refine gB ?_ ?_) <;> intro h)
      | with_reducible first | refine And.intro ?_ ?_ | refine J_seq ?_ | refine J_block ?_ | refine J_inBlock ?_ | refine rC ?_ | refine rR ?_ | refine rE ?_ | refine rG ?_ | refine FinQ.now ?_ | refine FinQ.end ?_)
    · rw [firstAt_some hlt h fun j hj => hpre j hj (by omega)]
    · refine .mk (i + 1) ⟨hlt, fun j hj hx => ?_⟩ (by omega) (by simp [go_sem, hcapk]) (by simp)
      rcases Nat.lt_succ_iff_lt_or_eq.1 hj with h3 | rfl
      · exact hpre j h3 hx
      · exact h
  · refine J_run 200 ?_
    repeat' (first
      | (simp (maxSteps := 1000000) (disch := omega) only [go_sem])
      | ((with_reducible first | refine gDt ?_ ?_ | refine gDf ?_ ?_ | refine gNt ?_ ?_ | refine gNf ?_ ?_ | refine cD ?_ ?_ | refine cN ?_ ?_ | refine cB ?_ ?_ | refine gB ?_ ?_) <;> intro h)
      | with_reducible first | refine And.intro ?_ ?_ | refine J_seq ?_ | refine J_block ?_ | refine J_inBlock ?_ | refine rC ?_ | refine rR ?_ | refine rE ?_ | refine rG ?_ | refine FinQ.now ?_ | refine FinQ.end ?_)
    rw [firstAt_none fun y hy => ?_]
    obtain ⟨j, hj, rfl⟩ := List.getElem_of_mem hy
    exact hpre j (by omega) hj

set_option maxHeartbeats 2000000 in
theorem indexFuncP (ys : List Pers) (fn : FuncId) (cap : List AV) (hcap : AV.immL cap = true) (pr : Pers → Bool) (hl : ys.length ≤ 1000000)
    (hp : ∀ y, y ∈ ys → Fn1 Tryz.prog GT0 fn (.agg (encPers y) :: cap) (.raw (.bool (pr y))) []) :
    Fn1 Tryz.prog GT0 120 [.lst 5 (ys.map encPers), .clo (.func fn) [] cap] (.raw (.int .i64 (firstAt pr ys))) [] := by
  have hcapk := fun s => AV.keepsL_imm s cap hcap
  refine holds_of Tryz.func120 rfl rfl ?_
  refine J_run 200 ?_
  delta Tryz.f120
  repeat' (first
    | (simp (maxSteps := 1000000) (disch := omega) only [go_sem])
    | ((with_reducible first | refine gDt ?_ ?_ | refine gDf ?_ ?_ | refine gNt ?_ ?_ | refine gNf ?_ ?_ | refine cD ?_ ?_ | refine cN ?_ ?_ | refine cB ?_ ?_ | refine gB ?_ ?_) <;> intro h)
    | with_reducible first | refine And.intro ?_ ?_ | refine J_seq ?_ | refine J_block ?_ | refine J_inBlock ?_ | refine rC ?_ | refine rR ?_ | refine rE ?_ | refine rG ?_ | refine FinQ.now ?_ | refine FinQ.end ?_)
  refine J_for (5 :: upto 9 18) (fun i : Nat => [(8, .raw (.int .i64 i))]) (fun _ => []) (fun i => i ≤ ys.length ∧ ∀ j (hj : j < i) (hx : j < ys.length), pr ys[j] = false) (fun i => ys.length - i) 0 ⟨by omega, by omega⟩ (.le (by simp [go_sem, hcapk]) (by simp)) ?_
  rintro i ⟨hi, hpre⟩
  by_cases hlt : i < ys.length
  · have hpx := hp _ (List.getElem_mem hlt)
    have hg : (ys.map encPers).getD i [] = encPers ys[i] := getD_map hlt
    simp only [encPers] at hpx hg
    refine J_run 200 ?_
    simp (disch := omega) only [go_sem, hg]
    refine CallA.pure hpx (by simp [go_sem, hcap]) ?_
    rintro _ _ ⟨rfl, rfl⟩
    repeat' (first
      | (simp (maxSteps := 1000000) (disch := omega) only [go_sem])
      | ((with_reducible first | refine gDt ?_ ?_ | refine gDf ?_ ?_ | refine gNt ?_ ?_ | refine gNf ?_ ?_ | refine cD ?_ ?_ | refine cN ?_ ?_ | refine cB ?_ ?_ | refine gB ?_ ?_) <;> intro h)
      | with_reducible first | refine And.intro ?_ ?_ | refine J_seq ?_ | refine J_block ?_ | refine J_inBlock ?_ | refine rC ?_ | refine rR ?_ | refine rE ?_ | refine rG ?_ | refine FinQ.now ?_ | refine FinQ.end ?_)
    · rw [firstAt_some hlt h fun j hj => hpre j hj (by omega)]
    · refine .mk (i + 1) ⟨hlt, fun j hj hx => ?_⟩ (by omega) (by simp [go_sem, hcapk]) (by simp)
      rcases Nat.lt_succ_iff_lt_or_eq.1 hj with h3 | rfl
      · exact hpre j h3 hx
      · exact h
  · refine J_run 200 ?_
    repeat' (first
      | (simp (maxSteps := 1000000) (disch := omega) only [go_sem])
      | ((with_reducible first | refine gDt ?_ ?_ | refine gDf ?_ ?_ | refine gNt ?_ ?_ | refine gNf ?_ ?_ | refine cD ?_ ?_ | refine cN ?_ ?_ | refine cB ?_ ?_ | refine gB ?_ ?_) <;> intro h)
      | with_reducible first | refine And.intro ?_ ?_ | refine J_seq ?_ | refine J_block ?_ | refine J_inBlock ?_ | refine rC ?_ | refine rR ?_ | refine rE ?_ | refine rG ?_ | refine FinQ.now ?_ | refine FinQ.end ?_)
    rw [firstAt_none fun y hy => ?_]
    obtain ⟨j, hj, rfl⟩ := List.getElem_of_mem hy
    exact hpre j (by omega) hj
end Go.Proofs.YtmfgaefefgnhbaaGreatDoor.Abs
namespace Go.Proofs.YtmfgaefefgnhbaaGreatDoor.Abs
set_option linter.unusedSimpArgs false
set_option linter.unusedVariables false
set_option maxRecDepth 100000
open Go Go.RowKit

theorem belTime (t : Int) : Fn1 Tryz.prog GT0 139 [.raw (.int .i64 t)] (.raw (.bool (decide (0 ≤ t ∧ t ≤ 16777216)))) [] := by
  refine holds_of Tryz.func139 rfl rfl ?_
  refine J_run 200 ?_
  delta Tryz.f139
  repeat' (first
    | (simp (maxSteps := 1000000) (disch := omega) only [go_sem])
    | ((with_reducible first | refine gDt ?_ ?_ | refine gDf ?_ ?_ | refine gNt ?_ ?_ | refine gNf ?_ ?_ | refine cD ?_ ?_ | refine cN ?_ ?_ | refine cB ?_ ?_ | refine gB ?_ ?_) <;> intro h)
    | with_reducible first | refine And.intro ?_ ?_ | refine J_seq ?_ | refine J_block ?_ | refine J_inBlock ?_ | refine rC ?_ | refine rR ?_ | refine rE ?_ | refine rG ?_ | refine FinQ.now ?_ | refine FinQ.end ?_)
  all_goals first | (simp_all []; done) | (simp_all []; omega) | omega
theorem low10 {m : Int} (h : inI m) : (IntKind.i64.wrap (BitVec.ofInt 64 m &&& ~~~ BitVec.ofInt 64 1023).toNat = 0) ↔ (0 ≤ m ∧ m ≤ 1023) := by
  have e : ∀ x : BitVec 64, IntKind.i64.wrap (x.toNat : Int) = 0 ↔ x = 0#64 := fun x => by
    have hx := x.isLt
    constructor
    · intro h0
      apply BitVec.eq_of_toNat_eq
      simp only [IntKind.wrap, IntKind.bits, IntKind.signed] at h0
      simp at h0 ⊢
      omega
    · rintro rfl; rfl
  rw [e]
  have hx := (BitVec.ofInt 64 m).isLt
  have hm : ((BitVec.ofInt 64 m).toNat : Int) = m % 18446744073709551616 := by rw [BitVec.toNat_ofInt]; simp; omega
  obtain ⟨x, hxe⟩ : ∃ x, BitVec.ofInt 64 m = x := ⟨_, rfl⟩
  rw [hxe] at hm hx ⊢
  have key : (x &&& ~~~ BitVec.ofInt 64 1023 = 0#64) ↔ x.toNat < 1024 := by
    constructor
    · intro h0
      refine Nat.lt_of_not_le fun hge => ?_
      obtain ⟨i, hi, hb⟩ := Nat.exists_ge_and_testBit_of_ge_two_pow (n := 10) (x := x.toNat) hge
      have hi64 : i < 64 := by
        refine Nat.lt_of_not_le fun h64 => ?_
        rw [Nat.testBit_lt_two_pow (Nat.lt_of_lt_of_le hx (Nat.pow_le_pow_right (by omega) h64))] at hb
        cases hb
      have h1 := congrArg (fun y : BitVec 64 => y.getLsbD i) h0
      have h2 : (BitVec.ofInt 64 1023).getLsbD i = false := by
        have : (BitVec.ofInt 64 1023).toNat = 1023 := by decide
        rw [BitVec.getLsbD, this]
        exact Nat.testBit_lt_two_pow (Nat.lt_of_lt_of_le (by decide : 1023 < 2 ^ 10) (Nat.pow_le_pow_right (by omega) hi))
      simp only [BitVec.getLsbD_and, BitVec.getLsbD_not, h2] at h1
      rw [BitVec.getLsbD, hb] at h1
      simp [hi64] at h1
    · intro hlt
      apply BitVec.eq_of_getLsbD_eq
      intro i hi
      simp only [BitVec.getLsbD_and, BitVec.getLsbD_not]
      by_cases h10 : i < 10
      · have h2 : (BitVec.ofInt 64 1023).getLsbD i = true := by
          have : ∀ j, j < 10 → (BitVec.ofInt 64 1023).getLsbD j = true := by decide
          exact this i h10
        rw [h2]
        simp
      · have : x.getLsbD i = false := by
          rw [BitVec.getLsbD]
          exact Nat.testBit_lt_two_pow (Nat.lt_of_lt_of_le (show x.toNat < 2 ^ 10 by omega) (Nat.pow_le_pow_right (by omega) (by omega)))
        rw [this]
        simp
  rw [key]
  unfold inI at h
  omega
theorem belValid (b : Bel) (hb : inI b.marks) : Fn1 Tryz.prog GT0 109 [.agg (encBel b)] (.raw (.int .i64 (belE b))) [] := by
  have ct := belTime b.time
  have hm := low10 hb
  unfold belE
  refine holds_of Tryz.func109 rfl rfl ?_
  refine J_run 200 ?_
  delta Tryz.f109
  simp only [encBel]
  repeat' (first
    | (simp (maxSteps := 1000000) (disch := omega) only [go_sem])
    | ((with_reducible refine CallA.pure ct ?_ ?_); (· simp (disch := omega) only [go_sem]); rintro _ _ ⟨rfl, rfl⟩)
    | ((with_reducible first | refine gDt ?_ ?_ | refine gDf ?_ ?_ | refine gNt ?_ ?_ | refine gNf ?_ ?_ | refine cD ?_ ?_ | refine cN ?_ ?_ | refine cB ?_ ?_ | refine gB ?_ ?_) <;> intro h)
    | with_reducible first | refine And.intro ?_ ?_ | refine J_seq ?_ | refine J_block ?_ | refine J_inBlock ?_ | refine rC ?_ | refine rR ?_ | refine rE ?_ | refine rG ?_ | refine FinQ.now ?_ | refine FinQ.end ?_)
  all_goals first
    | (have h5 := hm.1 (by assumption); clear hm; (repeat' split) <;> first | rfl | (exfalso; omega))
    | (have h5 : ¬ (0 ≤ b.marks ∧ b.marks ≤ 1023) := fun h => absurd (hm.2 h) (by assumption); clear hm; (repeat' split) <;> first | rfl | (exfalso; omega))
    | ((repeat' split) <;> first | rfl | (exfalso; omega))
theorem belCheck (l : List Bel) (hl : l.length ≤ 1000000) (hb : ∀ b, b ∈ l → inI b.marks) : Fn1 Tryz.prog GT0 77 [.lst 3 (l.map encBel)] (.raw (.int .i64 (belChk l))) [] := by
  by_cases h64 : 64 < l.length
  · have e : belChk l = 1 := if_pos h64
    rw [e]
    refine holds_of Tryz.func77 rfl rfl ?_
    refine J_run 200 ?_
    delta Tryz.f77
    repeat' (first
      | (simp (maxSteps := 1000000) (disch := omega) only [go_sem])
      | ((with_reducible first | refine gDt ?_ ?_ | refine gDf ?_ ?_ | refine gNt ?_ ?_ | refine gNf ?_ ?_ | refine cD ?_ ?_ | refine cN ?_ ?_ | refine cB ?_ ?_ | refine gB ?_ ?_) <;> intro h)
      | with_reducible first | refine And.intro ?_ ?_ | refine J_seq ?_ | refine J_block ?_ | refine J_inBlock ?_ | refine rC ?_ | refine rR ?_ | refine rE ?_ | refine rG ?_ | refine FinQ.now ?_ | refine FinQ.end ?_)
  have hhit : ∀ (i : Nat) (hi : i < l.length), (∀ j, j < i → belErr l j = 0) → ∀ e, belE l[i] = e → e ≠ 0 → belChk l = e := fun i hi hpre e he h0 => by
    unfold belChk
    have h1 : belErr l i = e := by unfold belErr; rw [getD_get hi]; exact he
    rw [if_neg h64, firstE_hit hi hpre (by omega), h1]
  refine holds_of Tryz.func77 rfl rfl ?_
  refine J_run 200 ?_
  delta Tryz.f77
  repeat' (first
    | (simp (maxSteps := 1000000) (disch := omega) only [go_sem])
    | ((with_reducible first | refine gDt ?_ ?_ | refine gDf ?_ ?_ | refine gNt ?_ ?_ | refine gNf ?_ ?_ | refine cD ?_ ?_ | refine cN ?_ ?_ | refine cB ?_ ?_ | refine gB ?_ ?_) <;> intro h)
    | with_reducible first | refine And.intro ?_ ?_ | refine J_seq ?_ | refine J_block ?_ | refine J_inBlock ?_ | refine rC ?_ | refine rR ?_ | refine rE ?_ | refine rG ?_ | refine FinQ.now ?_ | refine FinQ.end ?_)
  refine J_for ([4, 5] ++ upto 12 20) (fun i : Nat => [(11, .raw (.int .i64 i))]) (fun i => []) (fun i => i ≤ (l).length ∧ (∀ j, j < i → belErr l j = 0)) (fun i => (l).length - i) 0 ⟨by omega, by omega⟩ (.le (by simp [go_sem]) (by simp)) ?_
  rintro i ⟨hi, hpre⟩
  by_cases hlt : i < l.length
  · have hne := hhit i hlt hpre
    have cv := belValid l[i] (hb _ (List.getElem_mem hlt))
    have hg := getD_Bel hlt
    obtain ⟨e, he⟩ : ∃ e, belE l[i] = e := ⟨_, rfl⟩
    have nxt : e = 0 → ∀ j, j < i + 1 → belErr l j = 0 := fun h0 j hj => by
      rcases Nat.lt_succ_iff_lt_or_eq.1 hj with h3 | rfl
      · exact hpre j h3
      · unfold belErr; rw [getD_get hlt, he, h0]
    rw [he] at cv hne
    simp only [encBel] at cv hg
    refine J_run 200 ?_
    repeat' (first
      | (simp (maxSteps := 1000000) (disch := omega) only [go_sem, hg])
      | ((with_reducible refine CallA.pure cv ?_ ?_); (· simp (disch := omega) only [go_sem, hg]); rintro _ _ ⟨rfl, rfl⟩)
      | ((with_reducible first | refine gDt ?_ ?_ | refine gDf ?_ ?_ | refine gNt ?_ ?_ | refine gNf ?_ ?_ | refine cD ?_ ?_ | refine cN ?_ ?_ | refine cB ?_ ?_ | refine gB ?_ ?_) <;> intro h)
      | with_reducible first | refine And.intro ?_ ?_ | refine J_seq ?_ | refine J_block ?_ | refine J_inBlock ?_ | refine rC ?_ | refine rR ?_ | refine rE ?_ | refine rG ?_ | refine FinQ.now ?_ | refine FinQ.end ?_)
    · rw [hne e rfl h]
    · refine .mk (i + 1) ⟨hlt, nxt h⟩ (by omega) (by simp [go_sem]) (by simp)
  · have e : belChk l = 0 := by
      unfold belChk
      rw [if_neg h64]
      exact firstE_none fun j hj => hpre j (by omega)
    rw [e]
    refine J_run 200 ?_
    repeat' (first
      | (simp (maxSteps := 1000000) (disch := omega) only [go_sem])
      | ((with_reducible first | refine gDt ?_ ?_ | refine gDf ?_ ?_ | refine gNt ?_ ?_ | refine gNf ?_ ?_ | refine cD ?_ ?_ | refine cN ?_ ?_ | refine cB ?_ ?_ | refine gB ?_ ?_) <;> intro h)
      | with_reducible first | refine And.intro ?_ ?_ | refine J_seq ?_ | refine J_block ?_ | refine J_inBlock ?_ | refine rC ?_ | refine rR ?_ | refine rE ?_ | refine rG ?_ | refine FinQ.now ?_ | refine FinQ.end ?_)
theorem rightF (k x : Int) (s : ByteArray) (hs : s.size ≤ 9223372036854775807) : Fn1 Tryz.prog GT0 111 [.agg [.raw (.int .i64 k), .raw (.int .i64 x), .raw (.string s)]] (.raw (.bool (rightB k x s))) [] := by
  have cn := nameF s hs
  refine holds_of Tryz.func111 rfl rfl ?_
  refine J_run 200 ?_
  delta Tryz.f111
  repeat' (first
    | (simp (maxSteps := 1000000) (disch := omega) only [go_sem])
    | ((with_reducible refine CallA.pure cn ?_ ?_); (· simp (disch := omega) only [go_sem]); rintro _ _ ⟨rfl, rfl⟩)
    | ((with_reducible first | refine gDt ?_ ?_ | refine gDf ?_ ?_ | refine gNt ?_ ?_ | refine gNf ?_ ?_ | refine cD ?_ ?_ | refine cN ?_ ?_ | refine cB ?_ ?_ | refine gB ?_ ?_) <;> intro h)
    | with_reducible first | refine And.intro ?_ ?_ | refine J_seq ?_ | refine J_block ?_ | refine J_inBlock ?_ | refine rC ?_ | refine rR ?_ | refine rE ?_ | refine rG ?_ | refine FinQ.now ?_ | refine FinQ.end ?_)
  all_goals first | (simp_all [rightB, emptyS]; done) | (simp_all [rightB, emptyS]; omega) | trace_state
theorem keyNum (k : Int) : Fn1 Tryz.prog GT0 110 [.raw (.int .i64 k)] (.raw (.bool (decide (0 ≤ k ∧ k ≤ 65536)))) [] := by
  refine holds_of Tryz.func110 rfl rfl ?_
  refine J_run 200 ?_
  delta Tryz.f110
  repeat' (first
    | (simp (maxSteps := 1000000) (disch := omega) only [go_sem])
    | ((with_reducible first | refine gDt ?_ ?_ | refine gDf ?_ ?_ | refine gNt ?_ ?_ | refine gNf ?_ ?_ | refine cD ?_ ?_ | refine cN ?_ ?_ | refine cB ?_ ?_ | refine gB ?_ ?_) <;> intro h)
    | with_reducible first | refine And.intro ?_ ?_ | refine J_seq ?_ | refine J_block ?_ | refine J_inBlock ?_ | refine rC ?_ | refine rR ?_ | refine rE ?_ | refine rG ?_ | refine FinQ.now ?_ | refine FinQ.end ?_)
  all_goals first | (simp_all []; done) | (simp_all []; omega) | omega
end Go.Proofs.YtmfgaefefgnhbaaGreatDoor.Abs
namespace Go.Proofs.YtmfgaefefgnhbaaGreatDoor.Abs
set_option linter.unusedSimpArgs false
set_option linter.unusedVariables false
set_option maxRecDepth 100000
open Go Go.RowKit

theorem rowsChk_hit {l : List Row} (h128 : ¬ 128 < l.length) {i : Nat} (hi : i < l.length) (hpre : ∀ j, j < i → rowErr l j = 0) {e : Int} (he : rowErr l i = e) (h0 : e ≠ 0) : rowsChk l = e := by
  unfold rowsChk
  rw [if_neg h128, firstE_hit hi hpre (by omega), he]
theorem rowErr_at {l : List Row} {i : Nat} (hi : i < l.length) : rowErr l i = if l[i].num < 0 ∨ 65536 < l[i].num then 5 else if 0 < i ∧ l[i].num ≤ (l[i - 1]'(by omega)).num then 14 else if rightB l[i].kind l[i].idx l[i].name = false then 40 else 0 := by
  unfold rowErr
  rw [getD_get hi, getD_get (show i - 1 < l.length by omega)]
theorem rowsChk_zero {l : List Row} (h : rowsChk l = 0) : l.length ≤ 128 ∧ ∀ i, i < l.length → rowErr l i = 0 := by
  unfold rowsChk at h
  split at h
  · cases h
  · exact ⟨by omega, firstE_zero.1 h⟩
theorem rowErr_zero {l : List Row} {i : Nat} (hi : i < l.length) (h : rowErr l i = 0) : (0 ≤ l[i].num ∧ l[i].num ≤ 65536) ∧ (0 < i → (l[i - 1]'(by omega)).num < l[i].num) ∧ rightB l[i].kind l[i].idx l[i].name = true := by
  rw [rowErr_at hi] at h
  split at h
  · cases h
  split at h
  · cases h
  split at h
  · cases h
  · rename_i h1 h2 h3
    exact ⟨by omega, fun h0 => by omega, by simpa using h3⟩
theorem rowsChk_lt {l : List Row} (h : rowsChk l = 0) {i k : Nat} (hik : i < k) (hk : k < l.length) : l[i].num < l[k].num := by
  induction k with
  | zero => omega
  | succ k ih =>
    have h1 := (rowErr_zero hk ((rowsChk_zero h).2 _ hk)).2.1 (by omega)
    simp only [Nat.add_sub_cancel] at h1
    by_cases e : i = k
    · subst e; exact h1
    · have := ih (by omega) (by omega); omega
/-- How many rows stand before a number. -/
def rowAt (l : List Row) (k : Int) : Nat := l.findIdx fun r => decide (k ≤ r.num)
set_option maxHeartbeats 4000000 in
theorem rowsCheck (l : List Row) (hl : l.length ≤ 1000000) (hs : ∀ r, r ∈ l → r.name.size ≤ 9223372036854775807) : Fn1 Tryz.prog GT0 80 [.lst 4 (l.map encRow)] (.raw (.int .i64 (rowsChk l))) [] := by
  by_cases h128 : 128 < l.length
  · have e : rowsChk l = 1 := if_pos h128
    rw [e]
    refine holds_of Tryz.func80 rfl rfl ?_
    refine J_run 200 ?_
    delta Tryz.f80
    repeat' (first
      | ((with_reducible refine J_draw (id := 8) 200 [] plan80_8 (by kernel_rfl) (by kernel_rfl) ?_); delta plan80_8)
      | (simp (maxSteps := 1000000) (disch := omega) only [go_sem])
      | ((with_reducible first | refine gDt ?_ ?_ | refine gDf ?_ ?_ | refine gNt ?_ ?_ | refine gNf ?_ ?_ | refine cD ?_ ?_ | refine cN ?_ ?_ | refine cB ?_ ?_ | refine gB ?_ ?_ | refine stepGuard_dect ?_ ?_ | refine stepGuard_decf ?_ ?_ | refine stepGuard_ndect ?_ ?_ | refine stepGuard_ndecf ?_ ?_ | refine stepGuard_by ?_ ?_) <;> intro h)
      | with_reducible first | refine And.intro ?_ ?_ | refine J_seq ?_ | refine J_block ?_ | refine J_inBlock ?_ | refine rC ?_ | refine rR ?_ | refine rE ?_ | refine rG ?_ | refine FinQ.now ?_ | refine FinQ.end ?_)
  refine holds_of Tryz.func80 rfl rfl ?_
  refine J_run 200 ?_
  delta Tryz.f80
  repeat' (first
    | ((with_reducible refine J_draw (id := 8) 200 [] plan80_8 (by kernel_rfl) (by kernel_rfl) ?_); delta plan80_8)
    | (simp (maxSteps := 1000000) (disch := omega) only [go_sem])
    | ((with_reducible first | refine gDt ?_ ?_ | refine gDf ?_ ?_ | refine gNt ?_ ?_ | refine gNf ?_ ?_ | refine cD ?_ ?_ | refine cN ?_ ?_ | refine cB ?_ ?_ | refine gB ?_ ?_ | refine stepGuard_dect ?_ ?_ | refine stepGuard_decf ?_ ?_ | refine stepGuard_ndect ?_ ?_ | refine stepGuard_ndecf ?_ ?_ | refine stepGuard_by ?_ ?_) <;> intro h)
    | with_reducible first | refine And.intro ?_ ?_ | refine J_seq ?_ | refine J_block ?_ | refine J_inBlock ?_ | refine rC ?_ | refine rR ?_ | refine rE ?_ | refine rG ?_ | refine FinQ.now ?_ | refine FinQ.end ?_)
  refine J_for ([3, 4] ++ upto 11 39) (fun i : Nat => [(10, .raw (.int .i64 i))]) (fun i => []) (fun i => i ≤ (l).length ∧ (∀ j, j < i → rowErr l j = 0)) (fun i => (l).length - i) 0 ⟨by omega, by omega⟩ (.le (by simp [go_sem]) (by simp)) ?_
  rintro i ⟨hi, hpre⟩
  by_cases hlt : i < l.length
  · have hne := fun e => rowsChk_hit (e := e) h128 hlt hpre
    have ha := rowErr_at hlt
    have nxt : rowErr l i = 0 → ∀ j, j < i + 1 → rowErr l j = 0 := fun h0 j hj => by
      rcases Nat.lt_succ_iff_lt_or_eq.1 hj with h3 | rfl
      · exact hpre j h3
      · exact h0
    rw [ha] at hne nxt
    clear ha
    have hg := getD_Row hlt
    have cn := keyNum l[i].num
    have cr := rightF l[i].kind l[i].idx l[i].name (hs _ (List.getElem_mem hlt))
    obtain ⟨b, hb⟩ : ∃ b, rightB l[i].kind l[i].idx l[i].name = b := ⟨_, rfl⟩
    rw [hb] at cr hne nxt
    by_cases h0 : i = 0
    · subst h0
      simp only [encRow] at hg
      refine J_run 200 ?_
      repeat' (first
        | ((with_reducible refine J_draw (id := 8) 200 [] plan80_8 (by kernel_rfl) (by kernel_rfl) ?_); delta plan80_8)
        | (simp (maxSteps := 1000000) (disch := omega) only [go_sem, hg])
        | ((with_reducible refine CallA.pure cr ?_ ?_); (· simp (disch := omega) only [go_sem, hg]); rintro _ _ ⟨rfl, rfl⟩)
        | ((with_reducible refine CallA.pure cn ?_ ?_); (· simp (disch := omega) only [go_sem, hg]); rintro _ _ ⟨rfl, rfl⟩)
        | ((with_reducible first | refine gDt ?_ ?_ | refine gDf ?_ ?_ | refine gNt ?_ ?_ | refine gNf ?_ ?_ | refine cD ?_ ?_ | refine cN ?_ ?_ | refine cB ?_ ?_ | refine gB ?_ ?_ | refine stepGuard_dect ?_ ?_ | refine stepGuard_decf ?_ ?_ | refine stepGuard_ndect ?_ ?_ | refine stepGuard_ndecf ?_ ?_ | refine stepGuard_by ?_ ?_) <;> intro h)
        | with_reducible first | refine And.intro ?_ ?_ | refine J_seq ?_ | refine J_block ?_ | refine J_inBlock ?_ | refine rC ?_ | refine rR ?_ | refine rE ?_ | refine rG ?_ | refine FinQ.now ?_ | refine FinQ.end ?_)
      all_goals first
        | (rw [hne 5 (if_pos (by omega)) (by decide)]; done)
        | (rw [hne 40 (by rw [if_neg (by omega), if_neg (by omega), if_pos (by rename_i h; simpa using h)]) (by decide)]; done)
        | (refine .mk 1 ⟨hlt, nxt ?_⟩ (by omega) ?_ ?_; (· rw [if_neg (by omega), if_neg (by omega), if_neg (by simp_all)]); (· simp [go_sem]); (· simp))
        | trace_state
    · have hg' := getD_Row (l := l) (i := i - 1) (by omega)
      have e1 : ((i : Int) - 1).toNat = i - 1 := by omega
      simp only [encRow] at hg hg'
      refine J_run 200 ?_
      repeat' (first
        | ((with_reducible refine J_draw (id := 8) 200 [] plan80_8 (by kernel_rfl) (by kernel_rfl) ?_); delta plan80_8)
        | (simp (maxSteps := 1000000) (disch := omega) only [go_sem, hg, hg', e1])
        | ((with_reducible refine CallA.pure cr ?_ ?_); (· simp (disch := omega) only [go_sem, hg, hg', e1]); rintro _ _ ⟨rfl, rfl⟩)
        | ((with_reducible refine CallA.pure cn ?_ ?_); (· simp (disch := omega) only [go_sem, hg, hg', e1]); rintro _ _ ⟨rfl, rfl⟩)
        | ((with_reducible first | refine gDt ?_ ?_ | refine gDf ?_ ?_ | refine gNt ?_ ?_ | refine gNf ?_ ?_ | refine cD ?_ ?_ | refine cN ?_ ?_ | refine cB ?_ ?_ | refine gB ?_ ?_ | refine stepGuard_dect ?_ ?_ | refine stepGuard_decf ?_ ?_ | refine stepGuard_ndect ?_ ?_ | refine stepGuard_ndecf ?_ ?_ | refine stepGuard_by ?_ ?_) <;> intro h)
        | with_reducible first | refine And.intro ?_ ?_ | refine J_seq ?_ | refine J_block ?_ | refine J_inBlock ?_ | refine rC ?_ | refine rR ?_ | refine rE ?_ | refine rG ?_ | refine FinQ.now ?_ | refine FinQ.end ?_)
      all_goals first
        | (rw [hne 5 (if_pos (by omega)) (by decide)]; done)
        | (rw [hne 14 (by rw [if_neg (by omega), if_pos (by omega)]) (by decide)]; done)
        | (rw [hne 40 (by rw [if_neg (by omega), if_neg (by omega), if_pos (by rename_i h; simpa using h)]) (by decide)]; done)
        | (refine .mk (i + 1) ⟨hlt, nxt ?_⟩ (by omega) ?_ ?_; (· rw [if_neg (by omega), if_neg (by omega), if_neg (by simp_all)]); (· simp [go_sem]); (· simp))
        | trace_state
  · have e : rowsChk l = 0 := by
      unfold rowsChk
      rw [if_neg h128]
      exact firstE_none fun j hj => hpre j (by omega)
    rw [e]
    refine J_run 200 ?_
    repeat' (first
      | ((with_reducible refine J_draw (id := 8) 200 [] plan80_8 (by kernel_rfl) (by kernel_rfl) ?_); delta plan80_8)
      | (simp (maxSteps := 1000000) (disch := omega) only [go_sem])
      | ((with_reducible first | refine gDt ?_ ?_ | refine gDf ?_ ?_ | refine gNt ?_ ?_ | refine gNf ?_ ?_ | refine cD ?_ ?_ | refine cN ?_ ?_ | refine cB ?_ ?_ | refine gB ?_ ?_ | refine stepGuard_dect ?_ ?_ | refine stepGuard_decf ?_ ?_ | refine stepGuard_ndect ?_ ?_ | refine stepGuard_ndecf ?_ ?_ | refine stepGuard_by ?_ ?_) <;> intro h)
      | with_reducible first | refine And.intro ?_ ?_ | refine J_seq ?_ | refine J_block ?_ | refine J_inBlock ?_ | refine rC ?_ | refine rR ?_ | refine rE ?_ | refine rG ?_ | refine FinQ.now ?_ | refine FinQ.end ?_)
end Go.Proofs.YtmfgaefefgnhbaaGreatDoor.Abs
namespace Go.Proofs.YtmfgaefefgnhbaaGreatDoor.Abs
set_option linter.unusedSimpArgs false
set_option linter.unusedVariables false
set_option maxRecDepth 100000
open Go Go.RowKit

def encHold : Option Row → List AV
  | some r => [.raw (.int .i64 r.kind), .raw (.int .i64 r.idx), .raw (.string r.name)]
  | none => [.raw (.int .i64 0), .raw (.int .i64 0), .raw (.string emptyS)]
/-- Rows stand by their numbers. -/
def RowsUp (l : List Row) : Prop := ∀ (i k : Nat) (hik : i < k) (hk : k < l.length), l[i].num < l[k].num
theorem rowAt_eq {l : List Row} {k : Int} {i : Nat} (hi : i ≤ l.length) (h1 : ∀ m (hm : m < l.length), m < i → l[m].num < k) (h2 : ∀ m (hm : m < l.length), i ≤ m → k ≤ l[m].num) : rowAt l k = i := by
  unfold rowAt
  by_cases h : i = l.length
  · subst h
    rw [List.findIdx_eq_length]
    intro x hx
    obtain ⟨m, hm, rfl⟩ := List.getElem_of_mem hx
    have := h1 m hm hm
    simp; omega
  · rw [List.findIdx_eq (by omega)]
    refine ⟨by have := h2 i (by omega) (Nat.le_refl _); simp; omega, fun j hj => ?_⟩
    have := h1 j (by omega) hj
    simp; omega
theorem place1 (r : Row) (k : Int) : Fn1 Tryz.prog GT0 123 [.agg (encRow r), .raw (.int .i64 k)] (.raw (.int .i64 (cmpI r.num k))) [] := by
  have c := compare r.num k
  refine holds_of Tryz.func123 rfl rfl ?_
  refine J_run 200 ?_
  delta Tryz.f123
  simp only [encRow]
  repeat' (first
    | (simp (maxSteps := 1000000) (disch := omega) only [go_sem])
    | ((with_reducible refine CallA.pure c ?_ ?_); (· simp (disch := omega) only [go_sem]); rintro _ _ ⟨rfl, rfl⟩)
    | ((with_reducible first | refine gDt ?_ ?_ | refine gDf ?_ ?_ | refine gNt ?_ ?_ | refine gNf ?_ ?_ | refine cD ?_ ?_ | refine cN ?_ ?_ | refine cB ?_ ?_ | refine gB ?_ ?_) <;> intro h)
    | with_reducible first | refine And.intro ?_ ?_ | refine J_seq ?_ | refine J_block ?_ | refine J_inBlock ?_ | refine rC ?_ | refine rR ?_ | refine rE ?_ | refine rG ?_ | refine FinQ.now ?_ | refine FinQ.end ?_)
theorem half {i j : Nat} (h : i + j ≤ 2000000) : IntKind.i64.wrap ((IntKind.u64.wrap ((i : Int) + (j : Int))).fdiv (2 ^ min 1 64)) = (((i + j) / 2 : Nat) : Int) := by
  have e2 : IntKind.u64.wrap ((i : Int) + (j : Int)) = ((i + j : Nat) : Int) := by rw [show (i : Int) + (j : Int) = ((i + j : Nat) : Int) by omega]; exact u64_nat (by omega)
  rw [e2]
  have e3 : ((i + j : Nat) : Int).fdiv (2 ^ min 1 64) = (((i + j) / 2 : Nat) : Int) := by
    rw [Int.fdiv_eq_ediv_of_nonneg _ (by decide)]
    have : (2 : Int) ^ min 1 64 = 2 := by decide
    rw [this]; omega
  rw [e3]
  simp [IntKind.wrap, IntKind.bits, IntKind.signed]; omega
theorem cmpI_lo {a b : Int} (h : cmpI a b < 0) : a < b := by
  unfold cmpI at h
  split at h
  · assumption
  · split at h <;> omega
theorem cmpI_hi {a b : Int} (h : ¬ cmpI a b < 0) : b ≤ a := by
  unfold cmpI at h
  split at h
  · omega
  · omega
theorem cmpI_eq (a b : Int) : decide (cmpI a b = 0) = decide (a = b) := by
  unfold cmpI
  rw [decide_eq_decide]
  split
  · omega
  · split <;> omega
theorem any_num_no {l : List Row} {k : Int} (h : ∀ m (hm : m < l.length), l[m].num ≠ k) : (l.any fun r => decide (r.num = k)) = false := by
  rw [List.any_eq_false]
  intro x hx
  obtain ⟨m, hm, rfl⟩ := List.getElem_of_mem hx
  simpa using h m hm
theorem any_num_at {l : List Row} (hu : RowsUp l) {k : Int} {i : Nat} (hi : i < l.length) (h1 : ∀ m (hm : m < l.length), m < i → l[m].num < k) (h2 : ∀ m (hm : m < l.length), i ≤ m → k ≤ l[m].num) : (l.any fun r => decide (r.num = k)) = decide (l[i].num = k) := by
  by_cases he : l[i].num = k
  · rw [decide_eq_true he]
    exact List.any_eq_true.2 ⟨_, List.getElem_mem hi, decide_eq_true he⟩
  · rw [decide_eq_false he]
    refine any_num_no fun m hm => ?_
    rcases Nat.lt_trichotomy m i with h3 | rfl | h3
    · have := h1 m hm h3; omega
    · exact he
    · have := hu i m h3 hm
      have := h2 i hi (Nat.le_refl _)
      omega
set_option maxHeartbeats 4000000 in
theorem binRow (l : List Row) (hl : l.length ≤ 1000000) (k : Int) (hu : RowsUp l) : Fn1 Tryz.prog GT0 122 [.lst 4 (l.map encRow), .raw (.int .i64 k), .clo (.func 123) [] []] (.tup [.raw (.int .i64 (rowAt l k)), .raw (.bool (l.any fun r => decide (r.num = k)))]) [] := by
  refine holds_of Tryz.func122 rfl rfl ?_
  refine J_run 200 ?_
  delta Tryz.f122
  repeat' (first
    | (simp (maxSteps := 1000000) (disch := omega) only [go_sem])
    | ((with_reducible first | refine gDt ?_ ?_ | refine gDf ?_ ?_ | refine gNt ?_ ?_ | refine gNf ?_ ?_ | refine cD ?_ ?_ | refine cN ?_ ?_ | refine cB ?_ ?_ | refine gB ?_ ?_) <;> intro h)
    | with_reducible first | refine And.intro ?_ ?_ | refine J_seq ?_ | refine J_block ?_ | refine J_inBlock ?_ | refine rC ?_ | refine rR ?_ | refine rE ?_ | refine rG ?_ | refine FinQ.now ?_ | refine FinQ.end ?_)
  refine J_for (11 :: upto 15 34) (fun i : Nat × Nat => [(9, .raw (.int .i64 i.1)), (10, .raw (.int .i64 i.2))]) (fun _ => []) (fun i => i.1 ≤ i.2 ∧ i.2 ≤ l.length ∧ (∀ m (hm : m < l.length), m < i.1 → l[m].num < k) ∧ ∀ m (hm : m < l.length), i.2 ≤ m → k ≤ l[m].num) (fun i => i.2 - i.1) (0, l.length) ⟨by simp, by simp, by simp, by simp; omega⟩ (.le (by simp [go_sem]) (by simp)) ?_
  rintro ⟨i, j⟩ ⟨hij, hj, h1, h2⟩
  dsimp only at hij hj h1 h2
  by_cases hlt : i < j
  · have hm : (i + j) / 2 < l.length := by omega
    have hg := getD_Row hm
    have c := place1 (l[(i + j) / 2]) k
    have hh := half (i := i) (j := j) (by omega)
    simp only [encRow] at hg c
    refine J_run 200 ?_
    repeat' (first
      | (simp (maxSteps := 1000000) (disch := omega) only [go_sem, hg, hh])
      | ((with_reducible refine CallA.pure c ?_ ?_); (· simp (disch := omega) only [go_sem, hg, hh]); rintro _ _ ⟨rfl, rfl⟩)
      | ((with_reducible first | refine gDt ?_ ?_ | refine gDf ?_ ?_ | refine gNt ?_ ?_ | refine gNf ?_ ?_ | refine cD ?_ ?_ | refine cN ?_ ?_ | refine cB ?_ ?_ | refine gB ?_ ?_) <;> intro h)
      | with_reducible first | refine And.intro ?_ ?_ | refine J_seq ?_ | refine J_block ?_ | refine J_inBlock ?_ | refine rC ?_ | refine rR ?_ | refine rE ?_ | refine rG ?_ | refine FinQ.now ?_ | refine FinQ.end ?_)
    · have hk := cmpI_lo h
      refine .mk ((i + j) / 2 + 1, j) ⟨by dsimp only; omega, hj, fun m hm' hmi => ?_, h2⟩ (by dsimp only; omega) (by simp [go_sem]) (by simp)
      dsimp only at hmi
      rcases Nat.lt_succ_iff_lt_or_eq.1 hmi with h3 | rfl
      · have := hu m ((i + j) / 2) h3 hm; omega
      · exact hk
    · have hk := cmpI_hi h
      refine .mk (i, (i + j) / 2) ⟨by dsimp only; omega, by dsimp only; omega, h1, fun m hm' hmi => ?_⟩ (by dsimp only; omega) (by simp [go_sem]) (by simp)
      dsimp only at hmi
      by_cases he : (i + j) / 2 = m
      · subst he; exact hk
      · have := hu ((i + j) / 2) m (by omega) hm'; omega
  · have hie : i = j := by omega
    subst hie
    have hr := rowAt_eq hj h1 h2
    rw [hr]
    by_cases hil : i < l.length
    · have hg := getD_Row hil
      have c := place1 l[i] k
      simp only [encRow] at hg c
      rw [any_num_at hu hil h1 h2]
      refine J_run 200 ?_
      repeat' (first
        | (simp (maxSteps := 1000000) (disch := omega) only [go_sem, hg])
        | ((with_reducible refine CallA.pure c ?_ ?_); (· simp (disch := omega) only [go_sem, hg]); rintro _ _ ⟨rfl, rfl⟩)
        | ((with_reducible first | refine gDt ?_ ?_ | refine gDf ?_ ?_ | refine gNt ?_ ?_ | refine gNf ?_ ?_ | refine cD ?_ ?_ | refine cN ?_ ?_ | refine cB ?_ ?_ | refine gB ?_ ?_) <;> intro h)
        | with_reducible first | refine And.intro ?_ ?_ | refine J_seq ?_ | refine J_block ?_ | refine J_inBlock ?_ | refine rC ?_ | refine rR ?_ | refine rE ?_ | refine rG ?_ | refine FinQ.now ?_ | refine FinQ.end ?_)
      rw [cmpI_eq]
    · rw [any_num_no fun m hm => by have := h1 m hm (by omega); omega]
      refine J_run 200 ?_
      repeat' (first
        | (simp (maxSteps := 1000000) (disch := omega) only [go_sem])
        | ((with_reducible first | refine gDt ?_ ?_ | refine gDf ?_ ?_ | refine gNt ?_ ?_ | refine gNf ?_ ?_ | refine cD ?_ ?_ | refine cN ?_ ?_ | refine cB ?_ ?_ | refine gB ?_ ?_) <;> intro h)
        | with_reducible first | refine And.intro ?_ ?_ | refine J_seq ?_ | refine J_block ?_ | refine J_inBlock ?_ | refine rC ?_ | refine rR ?_ | refine rE ?_ | refine rG ?_ | refine FinQ.now ?_ | refine FinQ.end ?_)
theorem placeF (l : List Row) (hl : l.length ≤ 1000000) (k : Int) (hu : RowsUp l) : Fn1 Tryz.prog GT0 98 [.lst 4 (l.map encRow), .raw (.int .i64 k)] (.tup [.raw (.int .i64 (rowAt l k)), .raw (.bool (l.any fun r => decide (r.num = k)))]) [] := by
  have c := binRow l hl k hu
  refine holds_of Tryz.func98 rfl rfl ?_
  refine J_run 200 ?_
  delta Tryz.f98
  repeat' (first
    | (simp (maxSteps := 1000000) (disch := omega) only [go_sem])
    | ((with_reducible refine CallA.pure c ?_ ?_); (· simp (disch := omega) only [go_sem]); rintro _ _ ⟨rfl, rfl⟩)
    | ((with_reducible first | refine gDt ?_ ?_ | refine gDf ?_ ?_ | refine gNt ?_ ?_ | refine gNf ?_ ?_ | refine cD ?_ ?_ | refine cN ?_ ?_ | refine cB ?_ ?_ | refine gB ?_ ?_) <;> intro h)
    | with_reducible first | refine And.intro ?_ ?_ | refine J_seq ?_ | refine J_block ?_ | refine J_inBlock ?_ | refine rC ?_ | refine rR ?_ | refine rE ?_ | refine rG ?_ | refine FinQ.now ?_ | refine FinQ.end ?_)
theorem findRow_none {l : List Row} {k : Int} (h : (l.any fun r => decide (r.num = k)) = false) : findRow l k = none := by
  unfold findRow
  split
  · rfl
  · rw [List.find?_eq_none]
    rw [List.any_eq_false] at h
    exact h
theorem findRow_some {l : List Row} {k : Int} (h0 : rowsChk l = 0) (h : (l.any fun r => decide (r.num = k)) = true) : ∃ h : rowAt l k < l.length, findRow l k = some l[rowAt l k] := by
  rw [List.any_eq_true] at h
  obtain ⟨r, hr, hk⟩ := h
  have hk := of_decide_eq_true hk
  obtain ⟨i, hi, rfl⟩ := List.getElem_of_mem hr
  have e : rowAt l k = i := rowAt_eq (by omega) (fun m hm hmi => by have := rowsChk_lt h0 hmi hi; omega) fun m hm hmi => by
    by_cases e : i = m
    · subst e; omega
    · have := rowsChk_lt h0 (show i < m by omega) hm; omega
  refine ⟨by omega, ?_⟩
  unfold findRow
  rw [if_neg (by simp [h0])]
  simp only [e]
  rw [List.find?_eq_some_iff_getElem]
  refine ⟨by simp [hk], i, hi, rfl, fun j hj => ?_⟩
  have := rowsChk_lt h0 hj hi
  simp; omega
set_option maxHeartbeats 4000000 in
theorem findF (l : List Row) (hl : l.length ≤ 1000000) (hs : ∀ r, r ∈ l → r.name.size ≤ 9223372036854775807) (k : Int) : Fn1 Tryz.prog GT0 64 [.lst 4 (l.map encRow), .raw (.int .i64 k)] (.tup [.agg (encHold (findRow l k)), .raw (.bool (findRow l k).isSome)]) [] := by
  have cc := rowsCheck l hl hs
  by_cases h0 : rowsChk l = 0
  · have cp := placeF l hl k fun i k hik hk => rowsChk_lt h0 hik hk
    rw [h0] at cc
    cases h : (l.any fun r => decide (r.num = k)) with
    | true =>
      obtain ⟨hi, e⟩ := findRow_some h0 h
      rw [e]
      rw [h] at cp
      have hg := getD_Row hi
      simp only [encRow] at hg
      refine holds_of Tryz.func64 rfl rfl ?_
      refine J_run 200 ?_
      delta Tryz.f64
      repeat' (first
        | (simp (maxSteps := 1000000) (disch := omega) only [go_sem, hg])
        | ((with_reducible refine CallA.pure cc ?_ ?_); (· simp (disch := omega) only [go_sem, hg]); rintro _ _ ⟨rfl, rfl⟩)
        | ((with_reducible refine CallA.pure cp ?_ ?_); (· simp (disch := omega) only [go_sem, hg]); rintro _ _ ⟨rfl, rfl⟩)
        | ((with_reducible first | refine gDt ?_ ?_ | refine gDf ?_ ?_ | refine gNt ?_ ?_ | refine gNf ?_ ?_ | refine cD ?_ ?_ | refine cN ?_ ?_ | refine cB ?_ ?_ | refine gB ?_ ?_) <;> intro h)
        | with_reducible first | refine And.intro ?_ ?_ | refine J_seq ?_ | refine J_block ?_ | refine J_inBlock ?_ | refine rC ?_ | refine rR ?_ | refine rE ?_ | refine rG ?_ | refine FinQ.now ?_ | refine FinQ.end ?_)
      all_goals rfl
    | false =>
      rw [findRow_none h]
      rw [h] at cp
      refine holds_of Tryz.func64 rfl rfl ?_
      refine J_run 200 ?_
      delta Tryz.f64
      repeat' (first
        | (simp (maxSteps := 1000000) (disch := omega) only [go_sem])
        | ((with_reducible refine CallA.pure cc ?_ ?_); (· simp (disch := omega) only [go_sem]); rintro _ _ ⟨rfl, rfl⟩)
        | ((with_reducible refine CallA.pure cp ?_ ?_); (· simp (disch := omega) only [go_sem]); rintro _ _ ⟨rfl, rfl⟩)
        | ((with_reducible first | refine gDt ?_ ?_ | refine gDf ?_ ?_ | refine gNt ?_ ?_ | refine gNf ?_ ?_ | refine cD ?_ ?_ | refine cN ?_ ?_ | refine cB ?_ ?_ | refine gB ?_ ?_) <;> intro h)
        | with_reducible first | refine And.intro ?_ ?_ | refine J_seq ?_ | refine J_block ?_ | refine J_inBlock ?_ | refine rC ?_ | refine rR ?_ | refine rE ?_ | refine rG ?_ | refine FinQ.now ?_ | refine FinQ.end ?_)
      all_goals rfl
  · have e : findRow l k = none := if_pos h0
    rw [e]
    refine holds_of Tryz.func64 rfl rfl ?_
    refine J_run 200 ?_
    delta Tryz.f64
    repeat' (first
      | (simp (maxSteps := 1000000) (disch := omega) only [go_sem])
      | ((with_reducible refine CallA.pure cc ?_ ?_); (· simp (disch := omega) only [go_sem]); rintro _ _ ⟨rfl, rfl⟩)
      | ((with_reducible first | refine gDt ?_ ?_ | refine gDf ?_ ?_ | refine gNt ?_ ?_ | refine gNf ?_ ?_ | refine cD ?_ ?_ | refine cN ?_ ?_ | refine cB ?_ ?_ | refine gB ?_ ?_) <;> intro h)
      | with_reducible first | refine And.intro ?_ ?_ | refine J_seq ?_ | refine J_block ?_ | refine J_inBlock ?_ | refine rC ?_ | refine rR ?_ | refine rE ?_ | refine rG ?_ | refine FinQ.now ?_ | refine FinQ.end ?_)
    all_goals rfl
end Go.Proofs.YtmfgaefefgnhbaaGreatDoor.Abs
