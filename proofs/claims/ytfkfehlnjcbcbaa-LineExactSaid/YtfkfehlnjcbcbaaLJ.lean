import Derived.Test.YtfkfehlnjcbcbaaLI
import Derived.Test.YtfkfehlnjcbcbaaLE
namespace Go.Proofs.Ytfkfehlnjcbcbaa.Abs
set_option linter.unusedSimpArgs false
set_option linter.unusedVariables false
open Go Go.RowKit

set_option maxHeartbeats 1000000 in
theorem start43 (l : Ln) (hf : l.fit) (hl : l.short) (list : List Pk) (hn : list.length ≤ 1000) (i : Int) (hi : inI i) : Fn1 Try.prog [] 43 [.agg (encL l), .lst 3 (list.map encP), .raw (.int .i64 i)] (.raw (.int .i64 (l.start list.length i))) [] := by
  have h1 := check17 l hf
  simp only [encL] at h1
  simp only [inI] at hi
  refine holds_of Try.func43 rfl rfl ?_
  refine J_run 100 ?_
  delta Try.f43
  simp (disch := omega) only [go_sem, encL]
  refine CallA.pure h1 ?_ ?_
  · simp only [go_sem]
  rintro _ _ ⟨rfl, rfl⟩
  simp (disch := omega) only [go_sem]
  clear h1
  refine condW_ndec (fun h => ?_) (fun h => ?_)
  · simp (disch := omega) only [go_sem]
    refine .now ?_
    simp [go_sem, Ln.start, h]
  simp (disch := omega) only [go_sem, h]
  refine J_merge (upto 13 20) [(20, .raw (.bool (decide (i < 0 ∨ (list.length : Int) ≤ i))))] [.box (encL l)] ?_ ?_
  · refine J_reg 100 ?_
    repeat' (first
      | (simp (disch := omega) only [go_sem, encL])
      | (with_reducible refine guardW_decf (fun h => ?_) (fun h => ?_))
      | (with_reducible refine guardW_by (fun h => ?_) (fun h => ?_))
      | (with_reducible refine SemLe.le ?_ ?_))
    all_goals simp_all
    all_goals omega
  simp (disch := omega) only [go_sem]
  refine J_run 100 ?_
  simp (disch := omega) only [go_sem]
  refine condW_dec (fun hr => ?_) (fun hr => ?_)
  all_goals
    simp (disch := omega) only [go_sem]
    refine .now ?_
    simp [go_sem, Ln.start, h, hr]

theorem with42 (xs : List Pk) (p : Pk) (hn : xs.length ≤ 1000) : Fn1 Try.prog [] 42 [.lst 3 (xs.map encP), .agg (encP p)] (.lst 3 ((xs ++ [p]).map encP)) [] := by
  refine holds_of Try.func42 rfl rfl ?_
  refine J_run 100 ?_
  delta Try.f42
  simp (disch := omega) only [go_sem, encP]
  refine J_draw 100 [] plan42_1 (by kernel_rfl) (by kernel_rfl) ?_
  delta plan42_1
  repeat' (first
    | (simp (disch := omega) only [go_sem])
    | (with_reducible refine And.intro ?_ ?_))
  all_goals first
    | (refine .frz [1] (.now ?_); simp (disch := simp) only [go_sem, List.take_of_length_le, List.map_append, List.map_cons, List.map_nil, encP]; done)
    | (refine .frz [2] (.now ?_); simp (disch := simp) only [go_sem, List.take_of_length_le, List.map_append, List.map_cons, List.map_nil, encP]; done)
theorem without44 (xs : List Pk) (k : Nat) (hk : k < xs.length) (hn : xs.length ≤ 1000) : Fn1 Try.prog [] 44 [.lst 3 (xs.map encP), .raw (.int .i64 k)] (.lst 3 ((xs.eraseIdx k).map encP)) [] := by
  refine holds_of Try.func44 rfl rfl ?_
  refine J_run 100 ?_
  delta Try.f44
  simp (disch := omega) only [go_sem]
  refine J_draw 100 [] plan44_1 (by kernel_rfl) (by kernel_rfl) ?_
  delta plan44_1
  repeat' (first
    | (simp (disch := omega) only [go_sem])
    | (with_reducible refine And.intro ?_ ?_))
  refine .frz [0] (.now ?_)
  have ee : List.take k (List.map encP xs) ++ List.drop (k + 1) (List.take xs.length (List.map encP xs)) = (xs.eraseIdx k).map encP := by
    rw [take_all, List.eraseIdx_eq_take_drop_succ]; simp
  have el : (xs.eraseIdx k).length = xs.length - 1 := List.length_eraseIdx_of_lt hk
  have en : min k xs.length + (xs.length - (k + 1)) = ((xs.eraseIdx k).map encP).length := by simp [el]; omega
  simp only [go_sem, ee, en, List.length_map]
  rw [take_all]
end Go.Proofs.Ytfkfehlnjcbcbaa.Abs
