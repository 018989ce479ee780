/- References: what locks hold. References: gaps, earths and masks of locks; one lock more. References: one lock more. Locks on plain data: when they are valid; one lock more keeps them valid. -/
import Derived.Test.YtmfgaefefgnhbaaGreatDoorR1
namespace Go.Proofs.YtmfgaefefgnhbaaGreatDoor.Abs
set_option linter.unusedSimpArgs false
set_option linter.unusedVariables false
set_option maxRecDepth 100000
open Go Go.RowKit

/-- Locked devices of a position, gaps or earths. -/
def isSome1 (n : Net) (l : List Lk) (pos : Int) (earths : Bool) (i : Nat) : Bool := decide (lockedAt l (i : Int) = some pos) && (if earths then decide ((n.devs.getD i ⟨⟨#[]⟩, 0, 0, 0, 0⟩).kind = 4) else gapK (n.devs.getD i ⟨⟨#[]⟩, 0, 0, 0, 0⟩).kind)
def someTo (n : Net) (l : List Lk) (pos : Int) (earths : Bool) (i : Nat) : List Int := ((List.range i).filter (isSome1 n l pos earths)).map Int.ofNat
theorem someTo_next {n : Net} {l : List Lk} {pos : Int} {earths : Bool} {i : Nat} : someTo n l pos earths (i + 1) = someTo n l pos earths i ++ (if isSome1 n l pos earths i then [(i : Int)] else []) := by
  unfold someTo
  rw [List.range_succ, List.filter_append, List.map_append]
  congr 1
  simp only [List.filter_cons, List.filter_nil]
  cases isSome1 n l pos earths i <;> rfl
theorem someTo_len {n : Net} {l : List Lk} {pos : Int} {earths : Bool} {i : Nat} : (someTo n l pos earths i).length ≤ i := by
  unfold someTo
  rw [List.length_map]
  exact Nat.le_trans (List.length_filter_le _ _) (by simp)
theorem gapsOf_some {n : Net} {l : List Lk} : gapsOf n l = someTo n l 1 false n.devs.length := rfl
theorem earthsOf_some {n : Net} {l : List Lk} : earthsOf n l = someTo n l 2 true n.devs.length := rfl
end Go.Proofs.YtmfgaefefgnhbaaGreatDoor.Abs
namespace Go.Proofs.YtmfgaefefgnhbaaGreatDoor.Abs
set_option linter.unusedSimpArgs false
set_option linter.unusedVariables false
set_option maxRecDepth 100000
open Go Go.RowKit

theorem lockChk_ok {n : Net} {l : List Lk} (h : lockChk n l = 0) : n.ok ∧ l.length ≤ 128 ∧ ∀ i, i < l.length → kErr n l i = 0 := by
  unfold lockChk at h
  split at h
  · rename_i h1; exact absurd h h1
  · rename_i h1
    split at h
    · cases h
    · exact ⟨Net.chk_ok.1 (by simpa using h1), by omega, firstE_zero.1 h⟩
noncomputable def gapsR (n : Net) (l : List Lk) : List Int × Int := if lockChk n l ≠ 0 then ([], lockChk n l) else (gapsOf n l, 0)
/-- What locks hold of a device. -/
def holdAt (n : Net) (l : List Lk) (i : Nat) : Int := match lockedAt l (i : Int) with
  | some p => p
  | none => if (n.devs.getD i ⟨⟨#[]⟩, 0, 0, 0, 0⟩).kind = 5 then 2 else 3
def worstTo (n : Net) (l : List Lk) (i : Nat) : List Int := (List.range i).map (holdAt n l)
theorem worstTo_next {n : Net} {l : List Lk} {i : Nat} : worstTo n l (i + 1) = worstTo n l i ++ [holdAt n l i] := by
  unfold worstTo
  rw [List.range_succ, List.map_append]; rfl
theorem worstTo_len {n : Net} {l : List Lk} {i : Nat} : (worstTo n l i).length = i := by simp [worstTo]
noncomputable def worstR (n : Net) (l : List Lk) : List Int × Int := if lockChk n l ≠ 0 then ([], lockChk n l) else (worstTo n l n.devs.length, 0)
end Go.Proofs.YtmfgaefefgnhbaaGreatDoor.Abs
namespace Go.Proofs.YtmfgaefefgnhbaaGreatDoor.Abs
set_option linter.unusedSimpArgs false
set_option linter.unusedVariables false
set_option maxRecDepth 100000
open Go Go.RowKit

def insAt (k : Lk) : List Lk → Nat
  | [] => 0
  | x :: l => if lkBefore x k then insAt k l + 1 else 0
def insL (k : Lk) (l : List Lk) : List Lk := l.take (insAt k l) ++ k :: l.drop (insAt k l)
theorem insAt_le (k : Lk) : ∀ l : List Lk, insAt k l ≤ l.length
  | [] => Nat.le_refl _
  | x :: l => by
    have := insAt_le k l
    unfold insAt
    split
    · simp; exact this
    · simp
noncomputable def addR (n : Net) (l : List Lk) (k : Lk) : List Lk × Int :=
  if lockChk n l ≠ 0 then ([], lockChk n l) else if lErr n k ≠ 0 then ([], lErr n k) else if l.any (fun x => decide (x.key = k.key)) then ([], 4)
  else if lockedAt l k.dev ≠ none ∧ lockedAt l k.dev ≠ some k.pos then ([], 18) else if 128 ≤ l.length then ([], 1) else (insL k l, 0)
theorem any_key {l : List Lk} {k : Lk} (h : ∀ j (hj : j < l.length), l[j].key ≠ k.key) : ¬ l.any (fun x => decide (x.key = k.key)) = true := by
  rw [List.any_eq_true]
  rintro ⟨x, hx, e⟩
  obtain ⟨j, hj, rfl⟩ := List.getElem_of_mem hx
  exact h j hj (of_decide_eq_true e)
theorem insL_enc (k : Lk) (l : List Lk) {i : Nat} (h : insAt k l = i) : (insL k l).map encLk = (l.map encLk).take i ++ [[.raw (.int .i64 k.dev), .raw (.int .i64 k.pos), .raw (.int .i64 k.key)]] ++ (l.map encLk).drop i := by
  unfold insL
  rw [h, List.map_append, List.map_cons, List.map_take, List.map_drop]
  simp [encLk]
set_option maxHeartbeats 8000000 in
theorem rAddOk (n : Net) (hs : n.sized) (l : List Lk) (hl : l.length ≤ 1000000) (k : Lk) (h0 : lockChk n l = 0) (hf : lErr n k = 0) (hany : ¬ l.any (fun x => decide (x.key = k.key)) = true) (hlk : lockedAt l k.dev = none ∨ lockedAt l k.dev = some k.pos) (h128 : ¬ 128 ≤ l.length) :
    Fn1 Tryz.prog GT0 14 [.agg (encNet n), .lst 3 (l.map encLk), .agg (encLk k)] (.tup [.own 0 3 0 (l.length + 1), .raw (.int .i64 0)]) [.arr 3 ((insL k l).map encLk)] := by
  have c := rLockChk n hs l hl
  have cf := rFault n hs k
  rw [h0] at c
  rw [hf] at cf
  refine holds_of Tryz.func14 rfl rfl ?_
  refine J_run 200 ?_
  delta Tryz.f14
  simp only [encNet, encLk] at c cf ⊢
  iterate 14 (all_goals (try (first
    | (simp (maxSteps := 1000000) (disch := omega) only [go_sem])
    | ((with_reducible refine CallA.pure c ?_ ?_); (· simp (disch := omega) only [go_sem]); rintro _ _ ⟨rfl, rfl⟩)
    | ((with_reducible refine CallA.pure cf ?_ ?_); (· simp (disch := omega) only [go_sem]); rintro _ _ ⟨rfl, rfl⟩)
    | ((with_reducible first | refine gDt ?_ ?_ | refine gDf ?_ ?_ | refine gNt ?_ ?_ | refine gNf ?_ ?_ | refine cD ?_ ?_ | refine cN ?_ ?_ | refine cB ?_ ?_ | refine gB ?_ ?_) <;> intro h)
    | with_reducible first | refine And.intro ?_ ?_ | refine J_seq ?_ | refine J_block ?_ | refine J_inBlock ?_ | refine rC ?_ | refine rR ?_ | refine rE ?_ | refine rG ?_ | refine FinQ.now ?_ | refine FinQ.end ?_)))
  refine J_for (upto 27 40) (fun i : Nat => [(10, .raw (.int .i64 i))]) (fun _ => [.box (encNet n), .box (encLk k)]) (fun i => i ≤ l.length ∧ ∀ j (hj : j < l.length), j < i → l[j].key ≠ k.key) (fun i => l.length - i) 0 ⟨by omega, by omega⟩ (.le (by simp [go_sem, encNet, encLk]) (by simp)) ?_
  rintro i ⟨hi, hpre⟩
  simp only [encNet, encLk]
  by_cases hlt : i < l.length
  · have hg := getD_Lk hlt
    refine J_run 200 ?_
    iterate 14 (all_goals (try (first
      | (exfalso; omega)
      | ((with_reducible refine J_draw (id := 10) 200 [] plan14_10 (by kernel_rfl) (by kernel_rfl) ?_); delta plan14_10)
      | (simp (maxSteps := 1000000) (disch := omega) only [go_sem, hg])
      | ((with_reducible first | refine gDt ?_ ?_ | refine gDf ?_ ?_ | refine gNt ?_ ?_ | refine gNf ?_ ?_ | refine cD ?_ ?_ | refine cN ?_ ?_ | refine cB ?_ ?_ | refine gB ?_ ?_ | refine stepGuard_dect ?_ ?_ | refine stepGuard_decf ?_ ?_ | refine stepGuard_ndect ?_ ?_ | refine stepGuard_ndecf ?_ ?_ | refine stepGuard_by ?_ ?_) <;> intro h)
      | with_reducible first | refine And.intro ?_ ?_ | refine J_seq ?_ | refine J_block ?_ | refine J_inBlock ?_ | refine rC ?_ | refine rR ?_ | refine rE ?_ | refine rG ?_ | refine FinQ.now ?_ | refine FinQ.end ?_)))
    · exact absurd (by rw [List.any_eq_true]; exact ⟨_, List.getElem_mem hlt, by simpa using h⟩) hany
    · refine .mk (i + 1) ⟨hlt, fun j hj hji => ?_⟩ (by omega) ?_ ?_
      · rcases Nat.lt_succ_iff_lt_or_eq.1 hji with h3 | rfl
        · exact hpre j hj h3
        · exact h
      · simp [go_sem, encNet, encLk]
      · simp
  have hie : i = l.length := by omega
  subst hie
  have ck := rLocked l hl k.dev
  rcases hlk with ho | ho
  all_goals
    rw [ho] at ck
    simp only [Option.getD_some, Option.isSome_some, Option.getD_none, Option.isSome_none] at ck
    refine J_run 200 ?_
    iterate 18 (all_goals (try (first
      | (exfalso; omega)
      | (simp (maxSteps := 1000000) (disch := omega) only [go_sem])
      | ((with_reducible refine CallA.pure ck ?_ ?_); (· simp (disch := omega) only [go_sem]); rintro _ _ ⟨rfl, rfl⟩)
      | ((with_reducible first | refine gDt ?_ ?_ | refine gDf ?_ ?_ | refine gNt ?_ ?_ | refine gNf ?_ ?_ | refine cD ?_ ?_ | refine cN ?_ ?_ | refine cB ?_ ?_ | refine gB ?_ ?_) <;> intro h)
      | with_reducible first | refine And.intro ?_ ?_ | refine J_seq ?_ | refine J_block ?_ | refine J_inBlock ?_ | refine rC ?_ | refine rR ?_ | refine rE ?_ | refine rG ?_ | refine FinQ.now ?_ | refine FinQ.end ?_)))
    refine J_for (upto 58 71) (fun i : Nat => [(13, .raw (.int .i64 i))]) (fun _ => [.box (encNet n), .box (encLk k)]) (fun i => i ≤ l.length ∧ insAt k l = i + insAt k (l.drop i)) (fun i => l.length - i) 0 ⟨by omega, by simp⟩ (.le (by simp [go_sem, encNet, encLk]) (by simp)) ?_
    rintro i ⟨hi, hin⟩
    simp only [encNet, encLk]
    by_cases hlt : i < l.length
    · have hg := getD_Lk hlt
      have cb := rBefore l[i] k
      simp only [encLk] at cb
      rw [List.drop_eq_getElem_cons hlt, insAt] at hin
      cases hb : lkBefore l[i] k with
      | true =>
        rw [hb] at cb hin
        refine J_run 200 ?_
        iterate 14 (all_goals (try (first
          | ((with_reducible refine J_draw (id := 18) 200 [] plan14_18 (by kernel_rfl) (by kernel_rfl) ?_); delta plan14_18)
          | (simp (maxSteps := 1000000) (disch := omega) only [go_sem, hg])
          | ((with_reducible refine CallA.pure cb ?_ ?_); (· simp (disch := omega) only [go_sem, hg]); rintro _ _ ⟨rfl, rfl⟩)
          | ((with_reducible first | refine gDt ?_ ?_ | refine gDf ?_ ?_ | refine gNt ?_ ?_ | refine gNf ?_ ?_ | refine cD ?_ ?_ | refine cN ?_ ?_ | refine cB ?_ ?_ | refine gB ?_ ?_ | refine stepGuard_dect ?_ ?_ | refine stepGuard_decf ?_ ?_ | refine stepGuard_ndect ?_ ?_ | refine stepGuard_ndecf ?_ ?_ | refine stepGuard_by ?_ ?_) <;> intro h)
          | with_reducible first | refine And.intro ?_ ?_ | refine J_seq ?_ | refine J_block ?_ | refine J_inBlock ?_ | refine rC ?_ | refine rR ?_ | refine rE ?_ | refine rG ?_ | refine FinQ.now ?_ | refine FinQ.end ?_)))
        refine .mk (i + 1) ⟨hlt, ?_⟩ (by omega) ?_ ?_
        · simp only [if_true] at hin; omega
        · simp [go_sem, encNet, encLk]
        · simp
      | false =>
        rw [hb] at cb hin
        simp only [Bool.false_eq_true, if_false, Nat.add_zero] at hin
        have e1 : min i l.length + 1 + (l.length - i) = l.length + 1 := by omega
        have e2 : (l.map encLk).take l.length = l.map encLk := List.take_of_length_le (by simp)
        refine J_run 200 ?_
        iterate 20 (all_goals (try (first
          | ((with_reducible refine J_draw (id := 18) 200 [] plan14_18 (by kernel_rfl) (by kernel_rfl) ?_); delta plan14_18)
          | ((with_reducible refine J_draw (id := 20) 200 [] plan14_20 (by kernel_rfl) (by kernel_rfl) ?_); delta plan14_20)
          | (simp (maxSteps := 1000000) (disch := omega) only [go_sem, hg])
          | ((with_reducible refine CallA.pure cb ?_ ?_); (· simp (disch := omega) only [go_sem, hg]); rintro _ _ ⟨rfl, rfl⟩)
          | ((with_reducible first | refine gDt ?_ ?_ | refine gDf ?_ ?_ | refine gNt ?_ ?_ | refine gNf ?_ ?_ | refine cD ?_ ?_ | refine cN ?_ ?_ | refine cB ?_ ?_ | refine gB ?_ ?_ | refine stepGuard_dect ?_ ?_ | refine stepGuard_decf ?_ ?_ | refine stepGuard_ndect ?_ ?_ | refine stepGuard_ndecf ?_ ?_ | refine stepGuard_by ?_ ?_) <;> intro h)
          | with_reducible first | refine And.intro ?_ ?_ | refine J_seq ?_ | refine J_block ?_ | refine J_inBlock ?_ | refine rC ?_ | refine rR ?_ | refine rE ?_ | refine rG ?_ | refine FinQ.now ?_ | refine FinQ.end ?_)))
        all_goals first
          | (rw [e1]; done)
          | (rw [insL_enc k l hin, e2]; done)
    · have hie : i = l.length := by omega
      subst hie
      rw [List.drop_length, insAt] at hin
      have e2 : (l.map encLk).take l.length = l.map encLk := List.take_of_length_le (by simp)
      refine J_run 200 ?_
      iterate 20 (all_goals (try (first
        | ((with_reducible refine J_draw (id := 18) 200 [] plan14_18 (by kernel_rfl) (by kernel_rfl) ?_); delta plan14_18)
        | ((with_reducible refine J_draw (id := 20) 200 [] plan14_20 (by kernel_rfl) (by kernel_rfl) ?_); delta plan14_20)
        | (simp (maxSteps := 1000000) (disch := omega) only [go_sem])
        | ((with_reducible first | refine gDt ?_ ?_ | refine gDf ?_ ?_ | refine gNt ?_ ?_ | refine gNf ?_ ?_ | refine cD ?_ ?_ | refine cN ?_ ?_ | refine cB ?_ ?_ | refine gB ?_ ?_ | refine stepGuard_dect ?_ ?_ | refine stepGuard_decf ?_ ?_ | refine stepGuard_ndect ?_ ?_ | refine stepGuard_ndecf ?_ ?_ | refine stepGuard_by ?_ ?_) <;> intro h)
        | with_reducible first | refine And.intro ?_ ?_ | refine J_seq ?_ | refine J_block ?_ | refine J_inBlock ?_ | refine rC ?_ | refine rR ?_ | refine rE ?_ | refine rG ?_ | refine FinQ.now ?_ | refine FinQ.end ?_)))
      all_goals first
        | (simp [insL_enc k l hin]; done)
        | (rw [insL_enc k l hin, e2]; simp; done)
set_option maxHeartbeats 8000000 in
theorem rAdd (n : Net) (hs : n.sized) (l : List Lk) (hl : l.length ≤ 1000000) (k : Lk) :
    Fn1 Tryz.prog GT0 14 [.agg (encNet n), .lst 3 (l.map encLk), .agg (encLk k)] (.tup [.lst 3 ((addR n l k).1.map encLk), .raw (.int .i64 (addR n l k).2)]) [] := by
  have c := rLockChk n hs l hl
  have cf := rFault n hs k
  by_cases h0 : lockChk n l = 0
  · by_cases hf : lErr n k = 0
    · by_cases hany : l.any (fun x => decide (x.key = k.key)) = true
      · have hr : addR n l k = ([], 4) := by unfold addR; rw [if_neg (by simp [h0]), if_neg (by simp [hf]), if_pos hany]
        rw [h0] at c
        rw [hf] at cf
        rw [hr]
        refine holds_ofV Tryz.func14 rfl rfl ?_
        refine J_run 200 ?_
        delta Tryz.f14
        simp only [encNet, encLk] at c cf ⊢
        iterate 14 (all_goals (try (first
          | (simp (maxSteps := 1000000) (disch := omega) only [go_sem])
          | ((with_reducible refine CallA.pure c ?_ ?_); (· simp (disch := omega) only [go_sem]); rintro _ _ ⟨rfl, rfl⟩)
          | ((with_reducible refine CallA.pure cf ?_ ?_); (· simp (disch := omega) only [go_sem]); rintro _ _ ⟨rfl, rfl⟩)
          | ((with_reducible first | refine gDt ?_ ?_ | refine gDf ?_ ?_ | refine gNt ?_ ?_ | refine gNf ?_ ?_ | refine cD ?_ ?_ | refine cN ?_ ?_ | refine cB ?_ ?_ | refine gB ?_ ?_) <;> intro h)
          | with_reducible first | refine And.intro ?_ ?_ | refine J_seq ?_ | refine J_block ?_ | refine J_inBlock ?_ | refine rC ?_ | refine rR ?_ | refine rE ?_ | refine rG ?_ | refine FinQ.now ?_ | refine FinQ.end ?_)))
        refine J_for (upto 27 40) (fun i : Nat => [(10, .raw (.int .i64 i))]) (fun _ => [.box (encNet n), .box (encLk k)]) (fun i => i ≤ l.length ∧ ∀ j (hj : j < l.length), j < i → l[j].key ≠ k.key) (fun i => l.length - i) 0 ⟨by omega, by omega⟩ (.le (by simp [go_sem, encNet, encLk]) (by simp)) ?_
        rintro i ⟨hi, hpre⟩
        simp only [encNet, encLk]
        by_cases hlt : i < l.length
        · have hg := getD_Lk hlt
          refine J_run 200 ?_
          iterate 14 (all_goals (try (first
            | (exfalso; omega)
            | ((with_reducible refine J_draw (id := 10) 200 [] plan14_10 (by kernel_rfl) (by kernel_rfl) ?_); delta plan14_10)
            | (simp (maxSteps := 1000000) (disch := omega) only [go_sem, hg])
            | ((with_reducible first | refine gDt ?_ ?_ | refine gDf ?_ ?_ | refine gNt ?_ ?_ | refine gNf ?_ ?_ | refine cD ?_ ?_ | refine cN ?_ ?_ | refine cB ?_ ?_ | refine gB ?_ ?_ | refine stepGuard_dect ?_ ?_ | refine stepGuard_decf ?_ ?_ | refine stepGuard_ndect ?_ ?_ | refine stepGuard_ndecf ?_ ?_ | refine stepGuard_by ?_ ?_) <;> intro h)
            | with_reducible first | refine And.intro ?_ ?_ | refine J_seq ?_ | refine J_block ?_ | refine J_inBlock ?_ | refine rC ?_ | refine rR ?_ | refine rE ?_ | refine rG ?_ | refine FinQ.now ?_ | refine FinQ.end ?_)))
          · exact ⟨_, .tup (.cons (.nilLst 3) (VLes.refl _)), rfl, rfl⟩
          · refine .mk (i + 1) ⟨hlt, fun j hj hji => ?_⟩ (by omega) ?_ ?_
            · rcases Nat.lt_succ_iff_lt_or_eq.1 hji with h3 | rfl
              · exact hpre j hj h3
              · exact h
            · simp [go_sem, encNet, encLk]
            · simp
        have hie : i = l.length := by omega
        subst hie
        exact absurd hany (any_key fun j hj => hpre j hj hj)
      · have go : ∀ e : Int, e ≠ 0 → ((lockedAt l k.dev ≠ none ∧ lockedAt l k.dev ≠ some k.pos ∧ e = 18) ∨ ((lockedAt l k.dev = none ∨ lockedAt l k.dev = some k.pos) ∧ 128 ≤ l.length ∧ e = 1)) →
            Fn1 Tryz.prog GT0 14 [.agg (encNet n), .lst 3 (l.map encLk), .agg (encLk k)] (.tup [.lst 3 (([] : List Lk).map encLk), .raw (.int .i64 e)]) [] := fun e he hcase => by
          rw [h0] at c
          rw [hf] at cf
          refine holds_ofV Tryz.func14 rfl rfl ?_
          refine J_run 200 ?_
          delta Tryz.f14
          simp only [encNet, encLk] at c cf ⊢
          iterate 14 (all_goals (try (first
            | (simp (maxSteps := 1000000) (disch := omega) only [go_sem])
            | ((with_reducible refine CallA.pure c ?_ ?_); (· simp (disch := omega) only [go_sem]); rintro _ _ ⟨rfl, rfl⟩)
            | ((with_reducible refine CallA.pure cf ?_ ?_); (· simp (disch := omega) only [go_sem]); rintro _ _ ⟨rfl, rfl⟩)
            | ((with_reducible first | refine gDt ?_ ?_ | refine gDf ?_ ?_ | refine gNt ?_ ?_ | refine gNf ?_ ?_ | refine cD ?_ ?_ | refine cN ?_ ?_ | refine cB ?_ ?_ | refine gB ?_ ?_) <;> intro h)
            | with_reducible first | refine And.intro ?_ ?_ | refine J_seq ?_ | refine J_block ?_ | refine J_inBlock ?_ | refine rC ?_ | refine rR ?_ | refine rE ?_ | refine rG ?_ | refine FinQ.now ?_ | refine FinQ.end ?_)))
          refine J_for (upto 27 40) (fun i : Nat => [(10, .raw (.int .i64 i))]) (fun _ => [.box (encNet n), .box (encLk k)]) (fun i => i ≤ l.length ∧ ∀ j (hj : j < l.length), j < i → l[j].key ≠ k.key) (fun i => l.length - i) 0 ⟨by omega, by omega⟩ (.le (by simp [go_sem, encNet, encLk]) (by simp)) ?_
          rintro i ⟨hi, hpre⟩
          simp only [encNet, encLk]
          by_cases hlt : i < l.length
          · have hg := getD_Lk hlt
            refine J_run 200 ?_
            iterate 14 (all_goals (try (first
              | (exfalso; omega)
              | ((with_reducible refine J_draw (id := 10) 200 [] plan14_10 (by kernel_rfl) (by kernel_rfl) ?_); delta plan14_10)
              | (simp (maxSteps := 1000000) (disch := omega) only [go_sem, hg])
              | ((with_reducible first | refine gDt ?_ ?_ | refine gDf ?_ ?_ | refine gNt ?_ ?_ | refine gNf ?_ ?_ | refine cD ?_ ?_ | refine cN ?_ ?_ | refine cB ?_ ?_ | refine gB ?_ ?_ | refine stepGuard_dect ?_ ?_ | refine stepGuard_decf ?_ ?_ | refine stepGuard_ndect ?_ ?_ | refine stepGuard_ndecf ?_ ?_ | refine stepGuard_by ?_ ?_) <;> intro h)
              | with_reducible first | refine And.intro ?_ ?_ | refine J_seq ?_ | refine J_block ?_ | refine J_inBlock ?_ | refine rC ?_ | refine rR ?_ | refine rE ?_ | refine rG ?_ | refine FinQ.now ?_ | refine FinQ.end ?_)))
            · exact absurd (by rw [List.any_eq_true]; exact ⟨_, List.getElem_mem hlt, by simpa using h⟩) hany
            · refine .mk (i + 1) ⟨hlt, fun j hj hji => ?_⟩ (by omega) ?_ ?_
              · rcases Nat.lt_succ_iff_lt_or_eq.1 hji with h3 | rfl
                · exact hpre j hj h3
                · exact h
              · simp [go_sem, encNet, encLk]
              · simp
          have hie : i = l.length := by omega
          subst hie
          have ck := rLocked l hl k.dev
          rcases hcase with ⟨h1, h2, rfl⟩ | ⟨ho | ho, h128, rfl⟩
          · obtain ⟨p, ho⟩ := Option.ne_none_iff_exists'.1 h1
            have hp : p ≠ k.pos := fun e => h2 (by rw [ho, e])
            rw [ho] at ck
            simp only [Option.getD_some, Option.isSome_some] at ck
            refine J_run 200 ?_
            iterate 14 (all_goals (try (first
              | (exfalso; omega)
              | (simp (maxSteps := 1000000) (disch := omega) only [go_sem, hp])
              | ((with_reducible refine CallA.pure ck ?_ ?_); (· simp (disch := omega) only [go_sem, hp]); rintro _ _ ⟨rfl, rfl⟩)
              | ((with_reducible first | refine gDt ?_ ?_ | refine gDf ?_ ?_ | refine gNt ?_ ?_ | refine gNf ?_ ?_ | refine cD ?_ ?_ | refine cN ?_ ?_ | refine cB ?_ ?_ | refine gB ?_ ?_) <;> intro h)
              | with_reducible first | refine And.intro ?_ ?_ | refine J_seq ?_ | refine J_block ?_ | refine J_inBlock ?_ | refine rC ?_ | refine rR ?_ | refine rE ?_ | refine rG ?_ | refine FinQ.now ?_ | refine FinQ.end ?_)))
            exact ⟨_, .tup (.cons (.nilLst 3) (VLes.refl _)), rfl, rfl⟩
          all_goals
            rw [ho] at ck
            simp only [Option.getD_some, Option.isSome_some, Option.getD_none, Option.isSome_none] at ck
            refine J_run 200 ?_
            iterate 18 (all_goals (try (first
              | (exfalso; omega)
              | (simp (maxSteps := 1000000) (disch := omega) only [go_sem])
              | ((with_reducible refine CallA.pure ck ?_ ?_); (· simp (disch := omega) only [go_sem]); rintro _ _ ⟨rfl, rfl⟩)
              | ((with_reducible first | refine gDt ?_ ?_ | refine gDf ?_ ?_ | refine gNt ?_ ?_ | refine gNf ?_ ?_ | refine cD ?_ ?_ | refine cN ?_ ?_ | refine cB ?_ ?_ | refine gB ?_ ?_) <;> intro h)
              | with_reducible first | refine And.intro ?_ ?_ | refine J_seq ?_ | refine J_block ?_ | refine J_inBlock ?_ | refine rC ?_ | refine rR ?_ | refine rE ?_ | refine rG ?_ | refine FinQ.now ?_ | refine FinQ.end ?_)))
            exact ⟨_, .tup (.cons (.nilLst 3) (VLes.refl _)), rfl, rfl⟩
        by_cases hbad : lockedAt l k.dev ≠ none ∧ lockedAt l k.dev ≠ some k.pos
        · have hr : addR n l k = ([], 18) := by unfold addR; rw [if_neg (by simp [h0]), if_neg (by simp [hf]), if_neg hany, if_pos hbad]
          rw [hr]
          exact go 18 (by decide) (.inl ⟨hbad.1, hbad.2, rfl⟩)
        have hlk : lockedAt l k.dev = none ∨ lockedAt l k.dev = some k.pos := by
          by_cases h1 : lockedAt l k.dev = none
          · exact .inl h1
          · exact .inr (Classical.byContradiction fun h2 => hbad ⟨h1, h2⟩)
        by_cases h128 : 128 ≤ l.length
        · have hr : addR n l k = ([], 1) := by unfold addR; rw [if_neg (by simp [h0]), if_neg (by simp [hf]), if_neg hany, if_neg hbad, if_pos h128]
          rw [hr]
          exact go 1 (by decide) (.inr ⟨hlk, h128, rfl⟩)
        · have hr : addR n l k = (insL k l, 0) := by unfold addR; rw [if_neg (by simp [h0]), if_neg (by simp [hf]), if_neg hany, if_neg hbad, if_neg h128]
          rw [hr]
          refine (rAddOk n hs l hl k h0 hf hany hlk h128).lst _ ?_
          simp only [AV.leafs, AV.leafsL, frzOwn, if_true, List.drop_zero]
          have hil := insAt_le k l
          rw [List.take_of_length_le (by simp [insL]; omega)]
    · have hr : addR n l k = ([], lErr n k) := by unfold addR; rw [if_neg (by simp [h0]), if_pos hf]
      rw [h0] at c
      rw [hr]
      refine holds_ofV Tryz.func14 rfl rfl ?_
      refine J_run 200 ?_
      delta Tryz.f14
      simp only [encNet, encLk] at c cf ⊢
      iterate 14 (all_goals (try (first
        | (exfalso; omega)
        | (simp (maxSteps := 1000000) (disch := omega) only [go_sem])
        | ((with_reducible refine CallA.pure c ?_ ?_); (· simp (disch := omega) only [go_sem]); rintro _ _ ⟨rfl, rfl⟩)
        | ((with_reducible refine CallA.pure cf ?_ ?_); (· simp (disch := omega) only [go_sem]); rintro _ _ ⟨rfl, rfl⟩)
        | ((with_reducible first | refine gDt ?_ ?_ | refine gDf ?_ ?_ | refine gNt ?_ ?_ | refine gNf ?_ ?_ | refine cD ?_ ?_ | refine cN ?_ ?_ | refine cB ?_ ?_ | refine gB ?_ ?_) <;> intro h)
        | with_reducible first | refine And.intro ?_ ?_ | refine J_seq ?_ | refine J_block ?_ | refine J_inBlock ?_ | refine rC ?_ | refine rR ?_ | refine rE ?_ | refine rG ?_ | refine FinQ.now ?_ | refine FinQ.end ?_)))
      exact ⟨_, .tup (.cons (.nilLst 3) (VLes.refl _)), rfl, rfl⟩
  · have hr : addR n l k = ([], lockChk n l) := by unfold addR; rw [if_pos h0]
    rw [hr]
    refine holds_ofV Tryz.func14 rfl rfl ?_
    refine J_run 200 ?_
    delta Tryz.f14
    simp only [encNet, encLk] at c ⊢
    iterate 12 (all_goals (try (first
      | (exfalso; omega)
      | (simp (maxSteps := 1000000) (disch := omega) only [go_sem])
      | ((with_reducible refine CallA.pure c ?_ ?_); (· simp (disch := omega) only [go_sem]); rintro _ _ ⟨rfl, rfl⟩)
      | ((with_reducible first | refine gDt ?_ ?_ | refine gDf ?_ ?_ | refine gNt ?_ ?_ | refine gNf ?_ ?_ | refine cD ?_ ?_ | refine cN ?_ ?_ | refine cB ?_ ?_ | refine gB ?_ ?_) <;> intro h)
      | with_reducible first | refine And.intro ?_ ?_ | refine J_seq ?_ | refine J_block ?_ | refine J_inBlock ?_ | refine rC ?_ | refine rR ?_ | refine rE ?_ | refine rG ?_ | refine FinQ.now ?_ | refine FinQ.end ?_)))
    exact ⟨_, .tup (.cons (.nilLst 3) (VLes.refl _)), rfl, rfl⟩
end Go.Proofs.YtmfgaefefgnhbaaGreatDoor.Abs
namespace Go.Proofs.YtmfgaefefgnhbaaGreatDoor.Abs
set_option linter.unusedSimpArgs false
set_option linter.unusedVariables false
open Go Go.RowKit

theorem lkBefore_trans {a b c : Lk} (h1 : lkBefore a b = true) (h2 : lkBefore b c = true) : lkBefore a c = true := by
  simp only [lkBefore, decide_eq_true_eq] at *
  omega
theorem lkBefore_tot {a b : Lk} (h : lkBefore a b = false) (hk : a.key ≠ b.key) : lkBefore b a = true := by
  simp only [lkBefore, decide_eq_true_eq, decide_eq_false_iff_not] at *
  omega
/-- Valid locks. -/
structure Locks (n : Net) (l : List Lk) : Prop where
  net : n.ok
  len : l.length ≤ 128
  each : ∀ x, x ∈ l → lErr n x = 0
  up : l.Pairwise fun a b => lkBefore a b = true
  pos : l.Pairwise fun a b => a.dev = b.dev → a.pos = b.pos
  key : l.Pairwise fun a b => a.key ≠ b.key
theorem kErr_zero {n : Net} {l : List Lk} {i : Nat} (hi : i < l.length) : kErr n l i = 0 ↔ lErr n l[i] = 0 ∧ (0 < i → lkBefore (l.getD (i - 1) .zero) l[i] = true) ∧ (∀ j (hj : j < l.length), j < i → l[j].dev = l[i].dev → l[j].pos = l[i].pos) ∧ ∀ j (hj : j < l.length), j < i → l[j].key ≠ l[i].key := by
  have a1 : (l.take i).any (fun x => decide (x.dev = l[i].dev ∧ x.pos ≠ l[i].pos)) = true ↔ ∃ j, ∃ hj : j < l.length, j < i ∧ l[j].dev = l[i].dev ∧ l[j].pos ≠ l[i].pos := by rw [any_take (by omega)]; simp
  have a2 : (l.take i).any (fun x => decide (x.key = l[i].key)) = true ↔ ∃ j, ∃ hj : j < l.length, j < i ∧ l[j].key = l[i].key := by rw [any_take (by omega)]; simp
  simp only [kErr, getD_get hi]
  constructor
  · intro h
    split at h
    · rename_i h1; exact absurd h h1
    rename_i h1
    split at h
    · cases h
    rename_i h2
    split at h
    · cases h
    rename_i h3
    split at h
    · cases h
    rename_i h4
    refine ⟨by simpa using h1, fun h0 => ?_, fun j hj hji hd => ?_, fun j hj hji hk => h4 (a2.2 ⟨j, hj, hji, hk⟩)⟩
    · rw [← Bool.not_eq_false]; exact fun e => h2 ⟨h0, e⟩
    · exact Classical.byContradiction fun hp => h3 (a1.2 ⟨j, hj, hji, hd, hp⟩)
  · rintro ⟨h1, h2, h3, h4⟩
    rw [if_neg (by simp [h1]), if_neg (fun e => by rw [h2 e.1] at e; cases e.2), if_neg (fun e => by obtain ⟨j, hj, hji, hd, hp⟩ := a1.1 e; exact hp (h3 j hj hji hd)), if_neg (fun e => by obtain ⟨j, hj, hji, hk⟩ := a2.1 e; exact h4 j hj hji hk)]
theorem locks_iff {n : Net} {l : List Lk} : lockChk n l = 0 ↔ Locks n l := by
  constructor
  · intro h
    obtain ⟨h1, h2, h3⟩ := lockChk_ok h
    have h4 := fun i (hi : i < l.length) => (kErr_zero hi).1 (h3 i hi)
    refine ⟨h1, h2, fun x hx => ?_, ?_, ?_, ?_⟩
    · obtain ⟨i, hi, rfl⟩ := List.getElem_of_mem hx
      exact (h4 i hi).1
    · rw [List.pairwise_iff_getElem]
      intro i j hi hj hij
      induction j with
      | zero => omega
      | succ j ih =>
        have hb := (h4 (j + 1) hj).2.1 (by omega)
        rw [Nat.add_sub_cancel, getD_get (by omega)] at hb
        by_cases e : i = j
        · subst e; exact hb
        · exact lkBefore_trans (ih (by omega) (by omega)) hb
    · rw [List.pairwise_iff_getElem]
      exact fun i j hi hj hij hd => (h4 j hj).2.2.1 i hi hij hd
    · rw [List.pairwise_iff_getElem]
      exact fun i j hi hj hij => (h4 j hj).2.2.2 i hi hij
  · rintro ⟨h1, h2, h3, h4, h5, h6⟩
    unfold lockChk
    rw [if_neg (by simp [Net.chk_ok.2 h1]), if_neg (by omega)]
    rw [List.pairwise_iff_getElem] at h4 h5 h6
    refine firstE_none fun i hi => (kErr_zero hi).2 ⟨h3 _ (List.getElem_mem hi), fun h0 => ?_, fun j hj hji hd => h5 j i hj hi hji hd, fun j hj hji => h6 j i hj hi hji⟩
    rw [getD_get (by omega)]
    exact h4 _ _ (by omega) hi (by omega)
theorem insL_nil (k : Lk) : insL k [] = [k] := rfl
theorem insL_cons (k x : Lk) (l : List Lk) : insL k (x :: l) = if lkBefore x k then x :: insL k l else k :: x :: l := by
  unfold insL
  simp only [insAt]
  split
  · simp
  · simp
theorem mem_insL {k y : Lk} : ∀ {l : List Lk}, y ∈ insL k l ↔ y = k ∨ y ∈ l
  | [] => by simp [insL_nil]
  | x :: l => by
    rw [insL_cons]
    split
    · rw [List.mem_cons, mem_insL, List.mem_cons]
      constructor
      · rintro (h | h | h)
        · exact .inr (.inl h)
        · exact .inl h
        · exact .inr (.inr h)
      · rintro (h | h | h)
        · exact .inr (.inl h)
        · exact .inl h
        · exact .inr (.inr h)
    · simp
theorem insL_pair {R : Lk → Lk → Prop} {k : Lk} : ∀ {l : List Lk}, (∀ y, y ∈ l → R y k ∧ R k y) → l.Pairwise R → (insL k l).Pairwise R
  | [], _, _ => by simp [insL_nil]
  | x :: l, h, hp => by
    rw [List.pairwise_cons] at hp
    rw [insL_cons]
    split
    · rw [List.pairwise_cons]
      refine ⟨fun y hy => ?_, insL_pair (fun y hy => h y (List.mem_cons_of_mem _ hy)) hp.2⟩
      rcases mem_insL.1 hy with rfl | hy
      · exact (h x (List.mem_cons_self ..)).1
      · exact hp.1 y hy
    · rw [List.pairwise_cons, List.pairwise_cons]
      exact ⟨fun y hy => (h y hy).2, hp⟩
theorem insL_up {k : Lk} : ∀ {l : List Lk}, (∀ y, y ∈ l → y.key ≠ k.key) → (l.Pairwise fun a b => lkBefore a b = true) → (insL k l).Pairwise fun a b => lkBefore a b = true
  | [], _, _ => by simp [insL_nil]
  | x :: l, h, hp => by
    have hp' := hp
    rw [List.pairwise_cons] at hp
    rw [insL_cons]
    split
    · rename_i hb
      rw [List.pairwise_cons]
      refine ⟨fun y hy => ?_, insL_up (fun y hy => h y (List.mem_cons_of_mem _ hy)) hp.2⟩
      rcases mem_insL.1 hy with rfl | hy
      · exact hb
      · exact hp.1 y hy
    · rename_i hb
      have hx := lkBefore_tot (by simpa using hb) (h x (List.mem_cons_self ..))
      rw [List.pairwise_cons]
      refine ⟨fun y hy => ?_, hp'⟩
      rcases List.mem_cons.1 hy with rfl | hy
      · exact hx
      · exact lkBefore_trans hx (hp.1 y hy)
theorem insL_len {k : Lk} {l : List Lk} : (insL k l).length = l.length + 1 := by
  have := insAt_le k l
  simp [insL]; omega
theorem lockedAt_mem {l : List Lk} {d p : Int} (hp : l.Pairwise fun a b => a.dev = b.dev → a.pos = b.pos) (h : lockedAt l d = none ∨ lockedAt l d = some p) : ∀ y, y ∈ l → y.dev = d → y.pos = p := by
  induction l with
  | nil => intro y hy; cases hy
  | cons x l ih =>
    rw [List.pairwise_cons] at hp
    intro y hy hd
    unfold lockedAt at h
    by_cases hx : x.dev = d
    · rw [if_pos hx] at h
      have hxp : x.pos = p := by simpa using h
      rcases List.mem_cons.1 hy with rfl | hy
      · exact hxp
      · rw [← hp.1 y hy (by rw [hx, hd]), hxp]
    · rw [if_neg hx] at h
      rcases List.mem_cons.1 hy with rfl | hy
      · exact absurd hd hx
      · exact ih hp.2 h y hy hd
theorem lockedAt_some {l : List Lk} {d p : Int} (h : lockedAt l d = some p) : ∃ x, x ∈ l ∧ x.dev = d ∧ x.pos = p := by
  induction l with
  | nil => cases h
  | cons x l ih =>
    unfold lockedAt at h
    split at h
    · rename_i hx; exact ⟨x, List.mem_cons_self .., hx, by simpa using h⟩
    · obtain ⟨y, h1, h2⟩ := ih h; exact ⟨y, List.mem_cons_of_mem _ h1, h2⟩
theorem addR_ok {n : Net} {l : List Lk} {k : Lk} (h : (addR n l k).2 = 0) : (addR n l k).1 = insL k l ∧ Locks n (insL k l) := by
  unfold addR at h ⊢
  split at h
  · rename_i h1; exact absurd h h1
  rename_i h1
  split at h
  · rename_i h2; exact absurd h h2
  rename_i h2
  split at h
  · cases h
  rename_i h3
  split at h
  · cases h
  rename_i h4
  split at h
  · cases h
  rename_i h5
  rw [if_neg h1, if_neg h2, if_neg h3, if_neg h4, if_neg h5]
  have hL := locks_iff.1 (Classical.byContradiction h1)
  have hk : ∀ y, y ∈ l → y.key ≠ k.key := fun y hy e => h3 (by rw [List.any_eq_true]; exact ⟨y, hy, by simpa using e⟩)
  have hlk : lockedAt l k.dev = none ∨ lockedAt l k.dev = some k.pos := by
    by_cases e : lockedAt l k.dev = none
    · exact .inl e
    · exact .inr (Classical.byContradiction fun e2 => h4 ⟨e, e2⟩)
  have hp := lockedAt_mem hL.pos hlk
  refine ⟨rfl, hL.net, by rw [insL_len]; omega, fun x hx => ?_, insL_up hk hL.up, insL_pair (fun y hy => ⟨fun e => hp y hy e, fun e => (hp y hy e.symm).symm⟩) hL.pos, insL_pair (fun y hy => ⟨hk y hy, (hk y hy).symm⟩) hL.key⟩
  rcases mem_insL.1 hx with rfl | hx
  · exact Classical.byContradiction h2
  · exact hL.each x hx
end Go.Proofs.YtmfgaefefgnhbaaGreatDoor.Abs
