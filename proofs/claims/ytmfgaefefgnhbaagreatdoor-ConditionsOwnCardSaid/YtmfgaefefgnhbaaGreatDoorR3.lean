/- What the statements make: states, locks. What the statements make: locks. -/
import Derived.Test.YtmfgaefefgnhbaaGreatDoorR2
import Derived.Test.YtmfgaefefgnhbaaGreatDoorTP
import Derived.Test.YtmfgaefefgnhbaaGreatDoorZ2
import Derived.Test.YtmfgaefefgnhbaaGreatDoorZ3
import Derived.Test.YtmfgaefefgnhbaaGreatDoorT3
namespace Go.Proofs.YtmfgaefefgnhbaaGreatDoor.Abs
set_option linter.unusedSimpArgs false
set_option linter.unusedVariables false
set_option maxRecDepth 100000
open Go Go.RowKit

/-- A state that is drawn. -/
def DrawnState (dl : Nat) (r : AV) (os : List Obj) : Prop := ∃ (s : List Int) (d : Dk), d.ok ∧ s.length = dl ∧ (∀ x, x ∈ s → x = 1 ∨ x = 2) ∧ r = .own 1 1 0 s.length ∧ os = [.box (encDk d), .arr 1 (s.map encN)]
end Go.Proofs.YtmfgaefefgnhbaaGreatDoor.Abs
namespace Go.Proofs.YtmfgaefefgnhbaaGreatDoor.Abs
set_option linter.unusedSimpArgs false
set_option linter.unusedVariables false
set_option maxRecDepth 100000
open Go Go.RowKit

theorem locks_nil {n : Net} (hn : n.ok) : Locks n [] := ⟨hn, by simp, fun x hx => (by cases hx), .nil, .nil, .nil⟩
/-- Locks that are drawn. -/
def DrawnLocks (n : Net) (r : AV) (os : List Obj) : Prop := ∃ (l : List Lk) (d : Dk), d.ok ∧ Locks n l ∧ r = .lst 3 (l.map encLk) ∧ os = [.box (encDk d)]
set_option maxHeartbeats 16000000 in
theorem locksD (d : Dk) (hd : d.ok) (n : Net) (hn : n.ok) (st : List Int) (hst : st.length ≤ 1000000) (most : Int) (hm : most ≤ 1000) :
    Holds Tryz.prog GT0 8 [.ref 0 0, .agg (encNet n), .lst 1 (st.map encN), .raw (.int .i64 most)] [.box (encDk d)] (DrawnLocks n) := by
  have hdl := hn.dl
  have c3 := fun (d : Dk) (hd : d.ok) => one d hd 3 (by decide)
  have x3 := fun (d : Dk) (hd : d.ok) => next d hd 3 (by decide)
  have x2 := fun (d : Dk) (hd : d.ok) => next d hd 2 (by decide)
  have xn := fun (d : Dk) (hd : d.ok) => next d hd n.devs.length ⟨by omega, by omega⟩
  have cA := fun (l : List Lk) (hl : Locks n l) (k : Lk) => rAdd n hn.sized l (by have := hl.len; omega) k
  refine holds_of Tryz.func8 rfl rfl ?_
  refine J_run 200 ?_
  delta Tryz.f8
  simp only [encNet, encLk] at cA ⊢
  iterate 4 (all_goals (try (first
    | (simp (maxSteps := 1000000) (disch := omega) only [go_sem])
    | ((with_reducible first | refine gDt ?_ ?_ | refine gDf ?_ ?_ | refine gNt ?_ ?_ | refine gNf ?_ ?_ | refine cD ?_ ?_ | refine cN ?_ ?_ | refine cB ?_ ?_ | refine gB ?_ ?_) <;> intro h)
    | with_reducible first | refine And.intro ?_ ?_ | refine J_seq ?_ | refine J_block ?_ | refine J_inBlock ?_ | refine rC ?_ | refine rR ?_ | refine rE ?_ | refine rG ?_ | refine FinQ.now ?_ | refine FinQ.end ?_)))
  refine J_sem (SemLe.slot 9 (y := .lst 3 []) ?_) ?_
  · simp only [go_sem]; exact VLe.nilLst 3
  simp only [go_sem]
  refine J_for ([11, 12, 13, 14] ++ upto 15 70) (fun x : Nat × List Lk × Dk => [(10, .raw (.int .i64 x.1)), (9, .lst 3 (x.2.1.map encLk))]) (fun x => [.box (encDk x.2.2), .box (encNet n)]) (fun x => ((x.1 : Int) ≤ most ∨ x.1 = 0) ∧ Locks n x.2.1 ∧ x.2.2.ok) (fun x => most.toNat - x.1) (0, [], d) ⟨by simp, locks_nil hn, hd⟩ (.le (by simp [go_sem, encNet]) (by simp)) ?_
  rintro ⟨k, l, d1⟩ ⟨hk, hL, hd1⟩
  simp only [encNet] at hk hL hd1 ⊢
  by_cases hlt : (k : Int) < most
  · by_cases h0 : 0 < n.devs.length
    · refine J_run 200 ?_
      have nxt : ((k + 1 : Nat) : Int) ≤ most ∨ k + 1 = 0 := by omega
      iterate 20 (all_goals (try (first
        | (exfalso; omega)
        | (simp (maxSteps := 1000000) (disch := omega) only [go_sem])
        | ((with_reducible refine CallA.mut [0] ?_ ?_ ?_ ?_ (c3 _ (by assumption)) ?_); (· simp (disch := omega) only [go_sem]); (· simp (disch := omega) only [go_sem]); (· simp (disch := omega) only [go_sem]); (· simp (disch := omega) only [go_sem]); rintro _ _ ⟨(_|_), d2, hd2, rfl, rfl⟩)
        | ((with_reducible first | refine gDt ?_ ?_ | refine gDf ?_ ?_ | refine gNt ?_ ?_ | refine gNf ?_ ?_ | refine cD ?_ ?_ | refine cN ?_ ?_ | refine cB ?_ ?_ | refine gB ?_ ?_) <;> intro h)
        | with_reducible first | refine And.intro ?_ ?_ | refine J_seq ?_ | refine J_block ?_ | refine J_inBlock ?_ | refine rC ?_ | refine rR ?_ | refine rE ?_ | refine rG ?_ | refine FinQ.now ?_ | refine FinQ.end ?_)))
      rotate_left
      · refine LoopEnd.mk (k + 1, l, d2) ⟨nxt, hL, hd2⟩ (by simp only; omega) ?_ ?_
        · simp [go_sem, encNet]
        · simp
      refine CallA.mut [0] ?_ ?_ ?_ ?_ (xn d2 hd2) ?_
      · simp only [go_sem]
      · simp only [go_sem]
      · simp only [go_sem]
      · simp only [go_sem]
      rintro _ _ ⟨xi, d3, hd3, hx0, hx1, rfl, rfl⟩
      obtain ⟨i, rfl⟩ := Int.eq_ofNat_of_zero_le hx0
      have hi : i < n.devs.length := by omega
      iterate 6 (all_goals (try (first
        | (simp (maxSteps := 1000000) (disch := omega) only [go_sem])
        | ((with_reducible first | refine gDt ?_ ?_ | refine gDf ?_ ?_ | refine gNt ?_ ?_ | refine gNf ?_ ?_ | refine cD ?_ ?_ | refine cN ?_ ?_ | refine cB ?_ ?_ | refine gB ?_ ?_) <;> intro h)
        | with_reducible first | refine And.intro ?_ ?_ | refine FinQ.now ?_ | refine FinQ.end ?_)))
      refine J_mergeN 2 (upto 33 47) (fun p : Int => [(12, .raw (.int .i64 p))]) (fun _ => [.box (encDk d3), .box (encNet n)]) (fun _ => True) ?_ ?_
      · simp only [go_sem]
        by_cases hil : i < st.length
        · have hg := getD_N hil
          refine J_reg 200 ?_
          iterate 20 (all_goals (try (first
            | (exfalso; omega)
            | (simp (maxSteps := 1000000) (disch := omega) only [go_sem, hg])
            | ((with_reducible first | refine gDt ?_ ?_ | refine gDf ?_ ?_ | refine gNt ?_ ?_ | refine gNf ?_ ?_ | refine cD ?_ ?_ | refine cN ?_ ?_ | refine cB ?_ ?_ | refine gB ?_ ?_) <;> intro h)
            | with_reducible first | refine And.intro ?_ ?_ | refine J_seq ?_ | refine J_block ?_ | refine J_inBlock ?_ | refine rC ?_ | refine rR ?_ | refine rE ?_ | refine rG ?_ | refine FinQ.now ?_ | refine FinQ.end ?_)))
          · refine .mk st[i] trivial ?_ ?_
            · simp [go_sem, encNet]
            · simp
          · refine .mk 1 trivial ?_ ?_
            · simp [go_sem, encNet]
            · simp
        · refine J_reg 200 ?_
          iterate 14 (all_goals (try (first
            | (exfalso; omega)
            | (simp (maxSteps := 1000000) (disch := omega) only [go_sem])
            | ((with_reducible first | refine gDt ?_ ?_ | refine gDf ?_ ?_ | refine gNt ?_ ?_ | refine gNf ?_ ?_ | refine cD ?_ ?_ | refine cN ?_ ?_ | refine cB ?_ ?_ | refine gB ?_ ?_) <;> intro h)
            | with_reducible first | refine And.intro ?_ ?_ | refine J_seq ?_ | refine J_block ?_ | refine J_inBlock ?_ | refine rC ?_ | refine rR ?_ | refine rE ?_ | refine rG ?_ | refine FinQ.now ?_ | refine FinQ.end ?_)))
          refine .mk 1 trivial ?_ ?_
          · simp [go_sem, encNet]
          · simp
      rintro p _
      simp only [go_sem]
      refine J_seq ?_
      refine J_mergeN 1 (upto 48 52) (fun x : Int × Dk => [(12, .raw (.int .i64 x.1))]) (fun x => [.box (encDk x.2), .box (encNet n)]) (fun x => x.2.ok) ?_ ?_
      · simp only [go_sem, encNet]
        refine J_run 200 ?_
        iterate 20 (all_goals (try (first
          | (exfalso; omega)
          | (simp (maxSteps := 1000000) (disch := omega) only [go_sem])
          | ((with_reducible refine CallA.mut [0] ?_ ?_ ?_ ?_ (x2 _ (by assumption)) ?_); (· simp (disch := omega) only [go_sem]); (· simp (disch := omega) only [go_sem]); (· simp (disch := omega) only [go_sem]); (· simp (disch := omega) only [go_sem]); rintro _ _ ⟨y, d4, hd4, hy0, hy1, rfl, rfl⟩)
          | ((with_reducible first | refine gDt ?_ ?_ | refine gDf ?_ ?_ | refine gNt ?_ ?_ | refine gNf ?_ ?_ | refine cD ?_ ?_ | refine cN ?_ ?_ | refine cB ?_ ?_ | refine gB ?_ ?_) <;> intro h)
          | with_reducible first | refine And.intro ?_ ?_ | refine J_seq ?_ | refine J_block ?_ | refine J_inBlock ?_ | refine rC ?_ | refine rR ?_ | refine rE ?_ | refine rG ?_ | refine FinQ.now ?_ | refine FinQ.end ?_)))
        · refine .mk (1 + y, d4) hd4 ?_ ?_
          · simp [go_sem, encNet]
          · simp
        · refine .mk (p, d3) hd3 ?_ ?_
          · simp [go_sem, encNet]
          · simp
      rintro ⟨q, d4⟩ hd4
      simp only [go_sem, encNet] at hd4 ⊢
      refine J_seq ?_
      refine J_mergeN 1 (upto 53 67) (fun x : Lk × Dk => [(13, .lst 3 ((addR n l x.1).1.map encLk)), (14, .raw (.int .i64 (addR n l x.1).2))]) (fun x => [.box (encDk x.2), .box (encNet n)]) (fun x => x.2.ok) ?_ ?_
      · simp only [go_sem, encNet]
        iterate 40 (all_goals (try (first
          | ((with_reducible refine J_draw (id := 12) 200 [8] plan8_12_8 (by kernel_rfl) (by kernel_rfl) ?_); delta plan8_12_8)
          | (simp (maxSteps := 1000000) (disch := omega) only [go_sem, Nat.reduceLT])
          | ((with_reducible refine CallA.pure (cA l hL ⟨i, q, _⟩) ?_ ?_); (· simp (disch := omega) only [go_sem, Nat.reduceLT]); rintro _ _ ⟨rfl, rfl⟩)
          | ((with_reducible refine CallA.mut [0] ?_ ?_ ?_ ?_ (x3 _ (by assumption)) ?_); (· simp (disch := omega) only [go_sem, Nat.reduceLT]); (· simp (disch := omega) only [go_sem, Nat.reduceLT]); (· simp (disch := omega) only [go_sem, Nat.reduceLT]); (· simp (disch := omega) only [go_sem, Nat.reduceLT]); rintro _ _ ⟨y, d5, hd5, hy0, hy1, rfl, rfl⟩)
          | ((with_reducible first | refine gDt ?_ ?_ | refine gDf ?_ ?_ | refine gNt ?_ ?_ | refine gNf ?_ ?_ | refine cD ?_ ?_ | refine cN ?_ ?_ | refine cB ?_ ?_ | refine gB ?_ ?_ | refine stepGuard_dect ?_ ?_ | refine stepGuard_decf ?_ ?_ | refine stepGuard_ndect ?_ ?_ | refine stepGuard_ndecf ?_ ?_ | refine stepGuard_by ?_ ?_) <;> intro h)
          | with_reducible first | refine And.intro ?_ ?_ | refine J_seq ?_ | refine J_block ?_ | refine J_inBlock ?_ | refine rC ?_ | refine rR ?_ | refine rE ?_ | refine rG ?_ | refine FinQ.now ?_ | refine FinQ.end ?_)))
        all_goals
          refine MergeEnd.mk (⟨i, q, 10 + 3 * (k : Int) + y⟩, d5) hd5 ?_ ?_
          · simp [go_sem, encNet]
          · simp
      rintro ⟨kk, d5⟩ hd5
      simp only [go_sem, encNet] at hd5 ⊢
      by_cases he : (addR n l kk).2 = 0
      · obtain ⟨e1, e2⟩ := addR_ok he
        rw [he, e1]
        refine J_run 200 ?_
        iterate 20 (all_goals (try (first
          | (exfalso; omega)
          | (simp (maxSteps := 1000000) (disch := omega) only [go_sem])
          | ((with_reducible first | refine gDt ?_ ?_ | refine gDf ?_ ?_ | refine gNt ?_ ?_ | refine gNf ?_ ?_ | refine cD ?_ ?_ | refine cN ?_ ?_ | refine cB ?_ ?_ | refine gB ?_ ?_) <;> intro h)
          | with_reducible first | refine And.intro ?_ ?_ | refine J_seq ?_ | refine J_block ?_ | refine J_inBlock ?_ | refine rC ?_ | refine rR ?_ | refine rE ?_ | refine rG ?_ | refine FinQ.now ?_ | refine FinQ.end ?_)))
        refine LoopEnd.mk (k + 1, insL kk l, d5) ⟨nxt, e2, hd5⟩ (by simp only; omega) ?_ ?_
        · simp [go_sem, encNet]
        · simp
      · refine J_run 200 ?_
        iterate 20 (all_goals (try (first
          | (exfalso; omega)
          | (simp (maxSteps := 1000000) (disch := omega) only [go_sem, he])
          | ((with_reducible first | refine gDt ?_ ?_ | refine gDf ?_ ?_ | refine gNt ?_ ?_ | refine gNf ?_ ?_ | refine cD ?_ ?_ | refine cN ?_ ?_ | refine cB ?_ ?_ | refine gB ?_ ?_) <;> intro h)
          | with_reducible first | refine And.intro ?_ ?_ | refine J_seq ?_ | refine J_block ?_ | refine J_inBlock ?_ | refine rC ?_ | refine rR ?_ | refine rE ?_ | refine rG ?_ | refine FinQ.now ?_ | refine FinQ.end ?_)))
        refine LoopEnd.mk (k + 1, l, d5) ⟨nxt, hL, hd5⟩ (by simp only; omega) ?_ ?_
        · simp [go_sem, encNet]
        · simp
    · refine J_run 200 ?_
      iterate 10 (all_goals (try (first
        | (exfalso; omega)
        | (simp (maxSteps := 1000000) (disch := omega) only [go_sem])
        | ((with_reducible first | refine gDt ?_ ?_ | refine gDf ?_ ?_ | refine gNt ?_ ?_ | refine gNf ?_ ?_ | refine cD ?_ ?_ | refine cN ?_ ?_ | refine cB ?_ ?_ | refine gB ?_ ?_) <;> intro h)
        | with_reducible first | refine And.intro ?_ ?_ | refine J_seq ?_ | refine J_block ?_ | refine J_inBlock ?_ | refine rC ?_ | refine rR ?_ | refine rE ?_ | refine rG ?_ | refine FinQ.now ?_ | refine FinQ.end ?_)))
      exact ⟨l, d1, hd1, hL, rfl, rfl⟩
  · refine J_run 200 ?_
    iterate 10 (all_goals (try (first
      | (exfalso; omega)
      | (simp (maxSteps := 1000000) (disch := omega) only [go_sem])
      | ((with_reducible first | refine gDt ?_ ?_ | refine gDf ?_ ?_ | refine gNt ?_ ?_ | refine gNf ?_ ?_ | refine cD ?_ ?_ | refine cN ?_ ?_ | refine cB ?_ ?_ | refine gB ?_ ?_) <;> intro h)
      | with_reducible first | refine And.intro ?_ ?_ | refine J_seq ?_ | refine J_block ?_ | refine J_inBlock ?_ | refine rC ?_ | refine rR ?_ | refine rE ?_ | refine rG ?_ | refine FinQ.now ?_ | refine FinQ.end ?_)))
    exact ⟨l, d1, hd1, hL, rfl, rfl⟩
end Go.Proofs.YtmfgaefefgnhbaaGreatDoor.Abs
