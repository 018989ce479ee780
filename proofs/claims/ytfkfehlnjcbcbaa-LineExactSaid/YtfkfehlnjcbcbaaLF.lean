import Derived.Test.YtfkfehlnjcbcbaaLD
namespace Go.Proofs.Ytfkfehlnjcbcbaa.Abs
set_option linter.unusedSimpArgs false
set_option linter.unusedVariables false
open Go Go.RowKit

/-- What 'out' returns. -/
def outA (l : Ln) (list : List Pk) (i : Int) : AV := if l.start list.length i ≠ 0 then .tup [.lst 3 [], .agg (encP .zero), .raw (.int .i64 (l.start list.length i))] else
  .tup [.lst 3 ((list.eraseIdx i.toNat).map encP), .agg (encP (list.getD i.toNat .zero)), .raw (.int .i64 0)]
theorem vle_outE (e : Int) : VLe (.tup [.raw (.slice none 0 0), .agg [.raw (.bool false), .raw (.int .i64 0), .raw (.string ⟨#[]⟩)], .raw (.int .i64 e)]) (.tup [.lst 3 [], .agg (encP .zero), .raw (.int .i64 e)]) :=
  .tup (.cons (.nilLst 3) (VLes.refl _))

set_option maxHeartbeats 1000000 in
theorem out26 (l : Ln) (hf : l.fit) (list : List Pk) (hl : list.length ≤ 1000) (i : Int) (hi : inI i) : Fn1 Try.prog [] 26 [.agg (encL l), .lst 3 (list.map encP), .raw (.int .i64 i)] (outA l list i) [] := by
  have h1 := check14 l hf
  simp only [encL] at h1
  simp only [inI] at hi
  refine holds_ofV Try.func26 rfl rfl ?_
  refine J_run 100 ?_
  delta Try.f26
  simp (disch := omega) only [go_sem, encL]
  refine CallA.pure h1 ?_ ?_
  · simp only [go_sem]
  rintro _ _ ⟨rfl, rfl⟩
  simp (disch := omega) only [go_sem]
  clear h1
  refine condW_ndec (fun h => ?_) (fun h => ?_)
  · simp (disch := omega) only [go_sem]
    refine .now ?_
    simp only [go_sem]
    exact ⟨_, vle_outE _, by simp [outA, Ln.start, h], rfl⟩
  simp (disch := omega) only [go_sem, h]
  refine J_merge (upto 16 23) [(23, .raw (.bool (decide (i < 0 ∨ (list.length : Int) ≤ i))))] [.box (encL l), .box (encP .zero)] ?_ ?_
  · refine J_reg 100 ?_
    repeat' (first
      | (simp (disch := omega) only [go_sem, encL, encP, Pk.zero, emp])
      | (with_reducible refine guardW_decf (fun h => ?_) (fun h => ?_))
      | (with_reducible refine guardW_by (fun h => ?_) (fun h => ?_))
      | (with_reducible refine SemLe.le ?_ ?_))
    all_goals simp_all
    all_goals omega
  simp (disch := omega) only [go_sem]
  refine J_run 100 ?_
  simp (disch := omega) only [go_sem, encP, Pk.zero, emp]
  refine condW_dec (fun hr => ?_) (fun hr => ?_)
  · simp (disch := omega) only [go_sem]
    refine .now ?_
    simp only [go_sem]
    exact ⟨_, vle_outE _, by simp [outA, Ln.start, h, hr], rfl⟩
  obtain ⟨k, rfl⟩ : ∃ k : Nat, i = k := ⟨i.toNat, by omega⟩
  have hk : k < list.length := by omega
  have c1 := clone25 (list.map encP) (by simp; omega)
  have c2 := delete37 (list.map encP) k (by simp [encP_len]) (by simpa using hk) (by simp; omega)
  have ee : List.take k (List.map encP list) ++ List.drop (k + 1) (List.map encP list) = (list.eraseIdx k).map encP := by
    rw [List.eraseIdx_eq_take_drop_succ]; simp
  have el : (list.eraseIdx k).length = list.length - 1 := List.length_eraseIdx_of_lt hk
  rw [ee] at c2
  simp only [List.length_map] at c1 c2
  simp (disch := omega) only [go_sem, encL]
  refine J_draw 100 [5] plan26_6 (by kernel_rfl) (by kernel_rfl) ?_
  delta plan26_6
  repeat' (first
    | (simp (disch := omega) only [go_sem, getD_map, encP])
    | ((with_reducible refine CallA.pure c1 ?_ ?_); (· simp only [go_sem]); rintro _ _ ⟨rfl, rfl⟩)
    | ((with_reducible refine CallA.mut [2] ?_ ?_ ?_ ?_ c2 ?_); (· simp only [go_sem]); (· simp only [go_sem]); (· simp only [go_sem]); (· simp only [go_sem]); rintro _ _ ⟨rfl, rfl⟩)
    | (with_reducible refine And.intro ?_ ?_))
  all_goals
    refine .frz [3] (.now ?_)
    simp only [go_sem]
    refine ⟨_, .refl _, ?_, rfl⟩
    have ge : list.getD k .zero = list[k] := getD_at hk
    have e1 : List.take (list.length - 1) (List.map encP (list.eraseIdx k)) = List.map encP (list.eraseIdx k) := List.take_of_length_le (by simp [el])
    have hn : ¬ ((k : Int) < 0) := by omega
    simp [outA, Ln.start, h, hn, Nat.not_le.2 hk, encP, e1, hk]

theorem VLe.agg3 {a b c d e f a' e' f' : AV} (h1 : VLe a a') (h2 : VLe e e') (h3 : VLe f f') : VLe (.agg [a, b, c, d, e, f]) (.agg [a', b, c, d, e', f']) :=
  .agg (.cons h1 (.cons (.refl _) (.cons (.refl _) (.cons (.refl _) (.cons h2 (.cons h3 .nil))))))
/-- What goes with an error. -/
theorem vle_err (e : Int) : VLe (.tup [.agg zeroA, .raw (.int .i64 e)]) (.tup [.agg (encL Ln.zero), .raw (.int .i64 e)]) := .tup (.cons vle_zero (.cons (.refl _) .nil))
/-- A line and an error. -/
def encR (x : Ln × Int) : AV := .tup [.agg (encL x.1), .raw (.int .i64 x.2)]

set_option maxHeartbeats 1000000 in
theorem lose19 (l : Ln) (hf : l.fit) (hl : l.there.length ≤ 1000 ∧ l.waiting.length ≤ 1000 ∧ l.back.length ≤ 1000) (i : Int) (hi : inI i) : Fn1 Try.prog [] 19 [.agg (encL l), .raw (.int .i64 i)] (encR (l.lose i)) [] := by
  have h1 := out26 l hf l.there hl.1 i hi
  simp only [encL] at h1
  refine holds_ofV Try.func19 rfl rfl ?_
  refine J_run 100 ?_
  delta Try.f19
  simp (disch := omega) only [go_sem, encL]
  by_cases hs : l.start l.there.length i = 0
  · simp only [outA, hs, ne_eq, not_true_eq_false, if_false] at h1
    have h2 := line24 (l.lose i).1 (by simp [Ln.lose, hs]; omega) (by simp [Ln.lose, hs]; have := List.length_eraseIdx_le l.there i.toNat; omega) (by simp [Ln.lose, hs]; omega)
    simp only [Ln.lose, hs, ne_eq, not_true_eq_false, if_false, encL] at h2 ⊢
    refine CallA.pure h1 ?_ ?_
    · simp only [go_sem]
    rintro _ _ ⟨rfl, rfl⟩
    simp (disch := omega) only [go_sem, encP]
    repeat' (first
      | ((with_reducible refine CallA.pure h2 ?_ ?_); (· simp only [go_sem]); rintro _ _ ⟨rfl, rfl⟩)
      | (with_reducible refine FinQ.now ?_)
      | (simp (disch := omega) only [go_sem]))
    all_goals exact ⟨_, .refl _, by simp [encR, encL], rfl⟩
  · simp only [outA, hs, ne_eq, not_false_eq_true, if_true] at h1
    simp only [Ln.lose, hs, ne_eq, not_false_eq_true, if_true]
    refine CallA.pure h1 ?_ ?_
    · simp only [go_sem]
    rintro _ _ ⟨rfl, rfl⟩
    simp (disch := omega) only [go_sem, encP]
    have hd : decide (l.start l.there.length i = 0) = false := by simpa using hs
    try simp (disch := omega) only [go_sem, hd]
    refine .now ?_
    simp only [go_sem]
    exact ⟨_, vle_err _, rfl, rfl⟩
end Go.Proofs.Ytfkfehlnjcbcbaa.Abs
