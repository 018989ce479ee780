/- A list of documents that the statements make. -/
import Derived.Test.YtfkiomkfoabnhaaDoorFD
namespace Go.Proofs.YtfkiomkfoabnhaaDoor.Abs
set_option linter.unusedSimpArgs false
set_option linter.unusedVariables false
set_option maxRecDepth 100000
open Go Go.RowKit

def DrawnDocs (n : Net) (r : AV) (os : List Obj) : Prop := ∃ (l : List Doc) (d : Dk), d.ok ∧ l.length ≤ 4 ∧ (∀ x, x ∈ l → x.small n) ∧ r = .lst 12 (l.map encDoc) ∧ os = [.box (encDk d)]
set_option maxHeartbeats 16000000 in
theorem listD (d : Dk) (hd : d.ok) (n : Net) (hn : n.ok) (h1 : 1 ≤ n.nodes.length) (h32 : n.nodes.length ≤ 32) : Holds Tryd.prog GT0 22 [.ref 0 0, .agg (encNet n)] [.box (encDk d)] (DrawnDocs n) := by
  have x5 := fun (d : Dk) (hd : d.ok) => next d hd 5 (by decide)
  have x9 := fun (d : Dk) (hd : d.ok) => next d hd 9 (by decide)
  have c3 := fun (d : Dk) (hd : d.ok) => one d hd 3 (by decide)
  have cD := fun (d : Dk) (hd : d.ok) => docD d hd n hn h1 h32
  refine holds_of Tryd.func22 rfl rfl ?_
  refine J_run 200 ?_
  delta Tryd.f22
  simp only [encNet] at cD ⊢
  iterate 8 (all_goals (try (first
    | (simp (maxSteps := 1000000) (disch := omega) only [go_sem, Nat.reduceLT])
    | ((with_reducible refine CallA.mut [0] ?_ ?_ ?_ ?_ (x5 _ hd) ?_); (· simp (disch := omega) only [go_sem, Nat.reduceLT]); (· simp (disch := omega) only [go_sem, Nat.reduceLT]); (· simp (disch := omega) only [go_sem, Nat.reduceLT]); (· simp (disch := omega) only [go_sem, Nat.reduceLT]); rintro _ _ ⟨y, d1, hd1, hy0, hy1, rfl, rfl⟩)
    | ((with_reducible first | refine gDt ?_ ?_ | refine gDf ?_ ?_ | refine gNt ?_ ?_ | refine gNf ?_ ?_ | refine cD ?_ ?_ | refine cN ?_ ?_ | refine cB ?_ ?_ | refine gB ?_ ?_) <;> intro h)
    | with_reducible first | refine And.intro ?_ ?_ | refine J_seq ?_ | refine J_block ?_ | refine J_inBlock ?_ | refine rC ?_ | refine rR ?_ | refine rE ?_ | refine rG ?_)))
  obtain ⟨k3, rfl⟩ := Int.eq_ofNat_of_zero_le hy0
  refine J_nilName 5 12 (by simp only [go_sem]) ?_
  simp only [go_sem]
  refine J_for ([8] ++ upto 11 33) (fun x : Nat × Int × List Doc × Dk => [(7, .raw (.int .i64 x.1)), (6, .raw (.int .i64 x.2.1)), (5, .own 2 12 0 x.2.2.1.length)]) (fun x => [.box (encDk x.2.2.2), .box [.lst 3 (n.nodes.map encNd), .lst 5 (n.devs.map encDv)], .arr 12 (x.2.2.1.map encDoc)]) (fun x => x.1 + x.2.2.1.length ≤ 4 ∧ (0 ≤ x.2.1 ∧ x.2.1 + 9 * (x.1 : Int) ≤ 36) ∧ (∀ q, q ∈ x.2.2.1 → q.small n) ∧ x.2.2.2.ok) (fun x => x.1) (k3, 0, [], d1) ⟨by simp only [List.length_nil]; omega, by simp only; omega, by simp, hd1⟩ (.le (by simp [go_sem]) (by simp)) ?_
  rintro ⟨k, num, l, d2⟩ ⟨hkl, hnum, hsm, hd2⟩
  simp only at hkl hnum hsm hd2 ⊢
  by_cases hk : 0 < k
  · have ek : ((k - 1 : Nat) : Int) = (k : Int) - 1 := by omega
    refine J_run 200 ?_
    iterate 6 (all_goals (try (first
      | (simp (maxSteps := 1000000) (disch := omega) only [go_sem, Nat.reduceLT])
      | ((with_reducible refine CallA.mut [0] ?_ ?_ ?_ ?_ (cD d2 hd2) ?_); (· simp (disch := omega) only [go_sem, Nat.reduceLT]); (· simp (disch := omega) only [go_sem, Nat.reduceLT]); (· simp (disch := omega) only [go_sem, Nat.reduceLT]); (· simp (disch := omega) only [go_sem, Nat.reduceLT]); rintro _ _ ⟨x, d3, hd3, hx, rfl, rfl⟩)
      | ((with_reducible first | refine gDt ?_ ?_ | refine gDf ?_ ?_ | refine gNt ?_ ?_ | refine gNf ?_ ?_ | refine cD ?_ ?_ | refine cN ?_ ?_ | refine cB ?_ ?_ | refine gB ?_ ?_) <;> intro h)
      | with_reducible first | refine And.intro ?_ ?_ | refine J_seq ?_ | refine J_block ?_ | refine J_inBlock ?_ | refine rC ?_ | refine rR ?_ | refine rE ?_ | refine rG ?_)))
    simp only [encDoc]
    repeat' (first
      | (simp (maxSteps := 1000000) (disch := omega) only [go_sem, Nat.reduceLT])
      | ((with_reducible refine CallA.mut [0] ?_ ?_ ?_ ?_ (x9 _ hd3) ?_); (· simp (disch := omega) only [go_sem, Nat.reduceLT]); (· simp (disch := omega) only [go_sem, Nat.reduceLT]); (· simp (disch := omega) only [go_sem, Nat.reduceLT]); (· simp (disch := omega) only [go_sem, Nat.reduceLT]); rintro _ _ ⟨y9, d4, hd4, h90, h91, rfl, rfl⟩)
      | ((with_reducible refine CallA.mut [0] ?_ ?_ ?_ ?_ (c3 _ hd4) ?_); (· simp (disch := omega) only [go_sem, Nat.reduceLT]); (· simp (disch := omega) only [go_sem, Nat.reduceLT]); (· simp (disch := omega) only [go_sem, Nat.reduceLT]); (· simp (disch := omega) only [go_sem, Nat.reduceLT]); rintro _ _ ⟨(_|_), d5, hd5, rfl, rfl⟩)
      | ((with_reducible first | refine gDt ?_ ?_ | refine gDf ?_ ?_ | refine gNt ?_ ?_ | refine gNf ?_ ?_ | refine cD ?_ ?_ | refine cN ?_ ?_ | refine cB ?_ ?_ | refine gB ?_ ?_) <;> intro h)
      | with_reducible first | refine And.intro ?_ ?_ | refine J_seq ?_ | refine J_block ?_ | refine J_inBlock ?_ | refine rC ?_ | refine rR ?_ | refine rE ?_ | refine rG ?_)
    · refine .mk (k - 1, num + (1 + y9), l ++ [{ x with num := num + (1 + y9), state := 2 }], d5) ⟨by simp only [List.length_append, List.length_cons, List.length_nil]; omega, by simp only; omega, fun q hq => ?_, hd5⟩ (by simp only; omega) ?_ ?_
      · rcases List.mem_append.1 hq with hq | hq
        · exact hsm q hq
        · rw [List.mem_singleton.1 hq]
          exact ⟨hx.zl, hx.lk, hx.ky, hx.cl, hx.il, hx.hl⟩
      · simp [go_sem, encDoc, ek]
      · simp
    · refine .mk (k - 1, num + (1 + y9), l ++ [{ x with num := num + (1 + y9) }], d5) ⟨by simp only [List.length_append, List.length_cons, List.length_nil]; omega, by simp only; omega, fun q hq => ?_, hd5⟩ (by simp only; omega) ?_ ?_
      · rcases List.mem_append.1 hq with hq | hq
        · exact hsm q hq
        · rw [List.mem_singleton.1 hq]
          exact ⟨hx.zl, hx.lk, hx.ky, hx.cl, hx.il, hx.hl⟩
      · simp [go_sem, encDoc, ek]
      · simp
  refine J_run 200 ?_
  repeat' (first
    | (simp (maxSteps := 1000000) (disch := omega) only [go_sem, Nat.reduceLT])
    | ((with_reducible first | refine gDt ?_ ?_ | refine gDf ?_ ?_ | refine gNt ?_ ?_ | refine gNf ?_ ?_ | refine cD ?_ ?_ | refine cN ?_ ?_ | refine cB ?_ ?_ | refine gB ?_ ?_) <;> intro h)
    | with_reducible first | refine And.intro ?_ ?_ | refine J_seq ?_ | refine J_block ?_ | refine J_inBlock ?_ | refine rC ?_ | refine rR ?_ | refine rE ?_ | refine rG ?_)
  refine .frz [2] (.now ?_)
  simp only [go_sem, take_lm]
  exact ⟨l, d2, hd2, by omega, hsm, rfl, rfl⟩
end Go.Proofs.YtfkiomkfoabnhaaDoor.Abs
