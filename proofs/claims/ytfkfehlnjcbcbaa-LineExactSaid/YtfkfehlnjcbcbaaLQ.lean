import Derived.Test.YtfkfehlnjcbcbaaLP
namespace Go.Proofs.Ytfkfehlnjcbcbaa.Abs
set_option linter.unusedSimpArgs false
set_option linter.unusedVariables false
open Go Go.RowKit

attribute [go_sem] decide_true decide_false Bool.not_true Bool.not_false
theorem fit_at {w n s e t b} (hn : inI n) (he : inI e) : Ln.fit ⟨w, n, s, e, t, b⟩ := ⟨hn, he⟩
instance (n : Int) : Decidable (inI n) := inferInstanceAs (Decidable (_ ∧ _))
def hiB : ByteArray := ⟨#[104, 105]⟩
theorem aw1 : Ln.new.offer hiB = (⟨[hiB], 1, false, 1, [], []⟩, 0) := by decide
theorem aw2 : Ln.send ⟨[hiB], 1, false, 1, [], []⟩ = (⟨[hiB], 1, true, 1, [⟨false, 1, hiB⟩], []⟩, 0) := by decide
theorem aw3 : Ln.repeat' ⟨[hiB], 1, true, 1, [⟨false, 1, hiB⟩], []⟩ 0 = (⟨[hiB], 1, true, 1, [⟨false, 1, hiB⟩, ⟨false, 1, hiB⟩], []⟩, 0) := by decide
theorem aw4 : Ln.deliver ⟨[hiB], 1, true, 1, [⟨false, 1, hiB⟩, ⟨false, 1, hiB⟩], []⟩ 0 = (⟨[hiB], 1, true, 2, [⟨false, 1, hiB⟩], [⟨true, 1, emp⟩]⟩, hiB, true, 0) := by decide
theorem aw5 : Ln.deliver ⟨[hiB], 1, true, 2, [⟨false, 1, hiB⟩], [⟨true, 1, emp⟩]⟩ 0 = (⟨[hiB], 1, true, 2, [], [⟨true, 1, emp⟩, ⟨true, 1, emp⟩]⟩, emp, false, 0) := by decide
theorem aw6 : Ln.backs ⟨[hiB], 1, true, 2, [], [⟨true, 1, emp⟩, ⟨true, 1, emp⟩]⟩ 1 = (⟨[], 2, false, 2, [], [⟨true, 1, emp⟩]⟩, 0) := by decide

set_option maxRecDepth 100000 in
set_option maxHeartbeats 4000000 in
theorem awake9 : Fn1 Try.prog [] 9 [] (.raw (.bool true)) [] := by
  have c0 := new10
  have c1 := offer11 Ln.new ⟨by decide, by decide⟩ hiB
  have c2 := send12 ⟨[hiB], 1, false, 1, [], []⟩ ⟨by decide, by decide⟩
  have c3 := repeat13 ⟨[hiB], 1, true, 1, [⟨false, 1, hiB⟩], []⟩ ⟨by decide, by decide⟩ ⟨by decide, by decide, by decide⟩ 0 (by decide)
  have c4 := deliver20 ⟨[hiB], 1, true, 1, [⟨false, 1, hiB⟩, ⟨false, 1, hiB⟩], []⟩ ⟨by decide, by decide⟩ ⟨by decide, by decide, by decide⟩ 0 (by decide)
  have c5 := deliver20 ⟨[hiB], 1, true, 2, [⟨false, 1, hiB⟩], [⟨true, 1, emp⟩]⟩ ⟨by decide, by decide⟩ ⟨by decide, by decide, by decide⟩ 0 (by decide)
  have c6 := back22 ⟨[hiB], 1, true, 2, [], [⟨true, 1, emp⟩, ⟨true, 1, emp⟩]⟩ ⟨by decide, by decide⟩ ⟨by decide, by decide, by decide⟩ 1 (by decide)
  rw [aw1] at c1
  rw [aw2] at c2
  rw [aw3] at c3
  rw [aw4] at c4
  rw [aw5] at c5
  rw [aw6] at c6
  simp only [encL, encR, encD, Ln.new, encS, encP, hiB, emp, List.map_cons, List.map_nil] at c0 c1 c2 c3 c4 c5 c6
  refine holds_of Try.func9 rfl rfl ?_
  refine J_run 200 ?_
  delta Try.f9
  repeat' (first
    | (simp (maxSteps := 1000000) (disch := omega) only [go_sem])
    | ((with_reducible refine CallA.pure c0 ?_ ?_); (· simp only [go_sem]); rintro _ _ ⟨rfl, rfl⟩)
    | ((with_reducible refine CallA.pure c1 ?_ ?_); (· simp only [go_sem]); rintro _ _ ⟨rfl, rfl⟩)
    | ((with_reducible refine CallA.pure c2 ?_ ?_); (· simp only [go_sem]); rintro _ _ ⟨rfl, rfl⟩)
    | ((with_reducible refine CallA.pure c3 ?_ ?_); (· simp only [go_sem]); rintro _ _ ⟨rfl, rfl⟩)
    | ((with_reducible refine CallA.pure c4 ?_ ?_); (· simp only [go_sem]); rintro _ _ ⟨rfl, rfl⟩)
    | ((with_reducible refine CallA.pure c5 ?_ ?_); (· simp only [go_sem]); rintro _ _ ⟨rfl, rfl⟩)
    | ((with_reducible refine CallA.pure c6 ?_ ?_); (· simp only [go_sem]); rintro _ _ ⟨rfl, rfl⟩)
    | (with_reducible refine J_seq ?_)
    | (refine J_reg (id := 7) 200 ?_)
    | (with_reducible refine FinQ.now ?_))
end Go.Proofs.Ytfkfehlnjcbcbaa.Abs
