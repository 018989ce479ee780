import Derived.Test.YtfkfehlnjcbcbaaLB
namespace Go.Proofs.Ytfkfehlnjcbcbaa.Abs
set_option linter.unusedSimpArgs false
set_option linter.unusedVariables false
open Go Go.RowKit

/-- The line that goes with an error, as the program makes it. -/
def zeroA : List AV := [.raw (.slice none 0 0), .raw (.int .i64 0), .raw (.bool false), .raw (.int .i64 0), .raw (.slice none 0 0), .raw (.slice none 0 0)]
theorem vle_zero : VLe (.agg zeroA) (.agg (encL Ln.zero)) :=
  .agg (.cons (.nilLst 1) (.cons (.refl _) (.cons (.refl _) (.cons (.refl _) (.cons (.nilLst 3) (.cons (.nilLst 3) .nil))))))

set_option maxHeartbeats 1000000 in
theorem fits27 (l : Ln) : Fn1 Try.prog [] 27 [.agg (encL l)] (.raw (.bool (!l.over))) [] := by
  refine holds_of Try.func27 rfl rfl ?_
  refine J_run 100 ?_
  delta Try.f27
  simp (disch := omega) only [go_sem, encL]
  refine J_reg 100 ?_
  simp (disch := omega) only [go_sem]
  have h1 := containsFunc40 l.waiting 38 [] rfl long fun y _ => long38 y
  have h2 := containsFunc41 encP l.there 39 [.cptr [.clo (.func 38) [] []]] rfl encP_imm encP_len (fun p => long p.pay) fun y _ => big39 y
  have h3 := containsFunc41 encP l.back 39 [.cptr [.clo (.func 38) [] []]] rfl encP_imm encP_len (fun p => long p.pay) fun y _ => big39 y
  repeat' (first
    | (simp (disch := omega) only [go_sem])
    | (with_reducible refine guardW_dect (fun h => ?_) (fun h => ?_))
    | (with_reducible refine guardW_by (fun h => ?_) (fun h => ?_))
    | ((with_reducible refine CallA.pure h1 (by simp only [go_sem]) ?_); rintro _ _ ⟨rfl, rfl⟩)
    | ((with_reducible refine CallA.keep [1] ?_ ?_ h2 ?_); (· simp only [go_sem]); (· simp only [go_sem]); rintro _ _ ⟨rfl, rfl⟩; refine ⟨⟨rfl, fun _ h => by cases h⟩, ?_⟩)
    | ((with_reducible refine CallA.keep [1] ?_ ?_ h3 ?_); (· simp only [go_sem]); (· simp only [go_sem]); rintro _ _ ⟨rfl, rfl⟩; refine ⟨⟨rfl, fun _ h => by cases h⟩, ?_⟩)
    | (with_reducible refine FinQ.now ?_))
  all_goals clear h1 h2 h3
  all_goals
    simp only [Ln.over]
    generalize l.waiting.any long = b1 at *
    generalize (l.there.any fun p => long p.pay) = b2 at *
    generalize (l.back.any fun p => long p.pay) = b3 at *
    simp_all
  all_goals omega
theorem new10 : Fn1 Try.prog [] 10 [] (.agg (encL Ln.new)) [] := by
  refine holds_ofV Try.func10 rfl rfl ?_
  refine J_run 100 ?_
  delta Try.f10
  simp (disch := omega) only [go_sem]
  refine .now ?_
  simp only [go_sem]
  exact ⟨_, .agg (.cons (.nilLst 1) (.cons (.refl _) (.cons (.refl _) (.cons (.refl _) (.cons (.nilLst 3) (.cons (.nilLst 3) .nil)))))), rfl, rfl⟩
theorem take_all {α β : Type} {f : α → β} {l : List α} : List.take l.length (List.map f l) = List.map f l := List.take_of_length_le (by simp)
theorem line24 (l : Ln) (h1 : l.waiting.length ≤ 1000) (h2 : l.there.length ≤ 1000) (h3 : l.back.length ≤ 1000) : Fn1 Try.prog [] 24 [.agg (encL l)] (.agg (encL l)) [] := by
  have c1 := clone23 (l.waiting.map encS) (by simp; omega)
  have c2 := clone25 (l.there.map encP) (by simp; omega)
  have c3 := clone25 (l.back.map encP) (by simp; omega)
  refine holds_of Try.func24 rfl rfl ?_
  refine J_run 100 ?_
  delta Try.f24
  simp (disch := omega) only [go_sem, encL]
  refine J_draw 100 [] plan24_1 (by kernel_rfl) (by kernel_rfl) ?_
  delta plan24_1
  repeat' (first
    | (simp (disch := omega) only [go_sem])
    | ((with_reducible refine CallA.pure c1 (by simp only [go_sem]) ?_); rintro _ _ ⟨rfl, rfl⟩)
    | ((with_reducible refine CallA.pure c2 (by simp only [go_sem]) ?_); rintro _ _ ⟨rfl, rfl⟩)
    | ((with_reducible refine CallA.pure c3 (by simp only [go_sem]) ?_); rintro _ _ ⟨rfl, rfl⟩)
    | (with_reducible refine And.intro ?_ ?_))
  all_goals
    refine .frz [2, 3, 4] (.now ?_)
    simp only [go_sem, take_all]
end Go.Proofs.Ytfkfehlnjcbcbaa.Abs
