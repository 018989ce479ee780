import Derived.Test.YtfkfehlnjcbcbaaLG
namespace Go.Proofs.Ytfkfehlnjcbcbaa.Abs
set_option linter.unusedSimpArgs false
set_option linter.unusedVariables false
open Go Go.RowKit

/-- What Deliver returns. -/
def encD (x : Ln × ByteArray × Bool × Int) : AV := .tup [.agg (encL x.1), .raw (.string x.2.1), .raw (.bool x.2.2.1), .raw (.int .i64 x.2.2.2)]
theorem vle_errD (s : ByteArray) (b : Bool) (e : Int) : VLe (.tup [.agg zeroA, .raw (.string s), .raw (.bool b), .raw (.int .i64 e)]) (.tup [.agg (encL Ln.zero), .raw (.string s), .raw (.bool b), .raw (.int .i64 e)]) := .tup (.cons vle_zero (VLes.refl _))

set_option maxHeartbeats 2000000 in
theorem deliver20 (l : Ln) (hf : l.fit) (hl : l.short) (i : Int) (hi : inI i) : Fn1 Try.prog [] 20 [.agg (encL l), .raw (.int .i64 i)] (encD (l.deliver i)) [] := by
  have hl1 := hl.waiting; have hl2 := hl.there; have hl3 := hl.back
  have h1 := out26 l hf l.there (by omega) i hi
  simp only [encL] at h1
  refine holds_ofV Try.func20 rfl rfl ?_
  refine J_run 100 ?_
  delta Try.f20
  simp (disch := omega) only [go_sem, encL]
  by_cases hs : l.start l.there.length i = 0
  · obtain ⟨hc, h0, hlt⟩ := start_ok hs
    have hlen := chk_len hc
    simp only [outA, hs, ne_eq, not_true_eq_false, if_false] at h1
    generalize hp : l.there.getD i.toNat Pk.zero = p at *
    have hle := List.length_eraseIdx_le l.there i.toNat
    have c1 := clone25 (l.back.map encP) (by simp; omega)
    have c2 := line24 (l.deliver i).1 (by simp [Ln.deliver, hs]; omega) (by simp [Ln.deliver, hs]; omega) (by simp [Ln.deliver, hs]; split <;> (try simp) <;> omega)
    have ed : l.deliver i = ({ l with there := l.there.eraseIdx i.toNat, expected := if p.num = l.expected then IntKind.i64.wrap (l.expected + 1) else l.expected, back := if l.back.length < 32 then l.back ++ [⟨true, p.num, emp⟩] else l.back }, if p.num = l.expected then p.pay else emp, decide (p.num = l.expected), 0) := by
      simp only [Ln.deliver, hs, ne_eq, not_true_eq_false, if_false, hp]
    rw [ed] at c2 ⊢
    simp only [List.length_map] at c1
    simp only [encL] at c2
    refine CallA.pure h1 ?_ ?_
    · simp only [go_sem]
    rintro _ _ ⟨rfl, rfl⟩
    clear h1
    simp (disch := omega) only [go_sem, encP]
    by_cases hb : l.back.length < 32
    all_goals
      refine condW_dec (fun hw => ?_) (fun hw => ?_)
    all_goals
      simp only [hw, hb, if_true, if_false, List.map_append, List.map_cons, List.map_nil, encP] at c2 ⊢
      repeat' (first
        | (simp (disch := omega) only [go_sem])
        | ((with_reducible refine CallA.pure c1 ?_ ?_); (· simp only [go_sem]); rintro _ _ ⟨rfl, rfl⟩)
        | ((with_reducible refine CallA.pure c2 ?_ ?_); (· simp only [go_sem]); rintro _ _ ⟨rfl, rfl⟩)
        | ((with_reducible refine CallA.give [3] ?_ ?_ c2 ?_); (· simp (disch := simp) only [go_sem, List.take_of_length_le, emp]); (· simp only [go_sem]); rintro _ _ ⟨rfl, rfl⟩)
        | ((with_reducible refine CallA.give [4] ?_ ?_ c2 ?_); (· simp (disch := simp) only [go_sem, List.take_of_length_le, emp]); (· simp only [go_sem]); rintro _ _ ⟨rfl, rfl⟩)
        | ((with_reducible refine J_draw (id := 10) 100 [] plan20_10 ?_ ?_ ?_); (· kernel_rfl); (· kernel_rfl); delta plan20_10)
        | ((with_reducible refine J_draw (id := 11) 100 [] plan20_11 ?_ ?_ ?_); (· kernel_rfl); (· kernel_rfl); delta plan20_11)
        | (with_reducible refine J_run 100 ?_)
        | (with_reducible refine FinQ.now ?_)
        | (with_reducible refine And.intro ?_ ?_))
    all_goals exact ⟨_, .refl _, by simp [encD, encL, encP, emp, hw], rfl⟩
  · simp only [outA, hs, ne_eq, not_false_eq_true, if_true] at h1
    simp only [Ln.deliver, hs, ne_eq, not_false_eq_true, if_true]
    refine CallA.pure h1 ?_ ?_
    · simp only [go_sem]
    rintro _ _ ⟨rfl, rfl⟩
    simp (disch := omega) only [go_sem, encP]
    refine .now ?_
    simp only [go_sem]
    exact ⟨_, vle_errD _ _ _, rfl, rfl⟩
end Go.Proofs.Ytfkfehlnjcbcbaa.Abs
