import Derived.Test.YtfkfehlnjcbcbaaLO
import Derived.Test.YtfkfehlnjcbcbaaLS
namespace Go.Proofs.Ytfkfehlnjcbcbaa.Abs
set_option linter.unusedSimpArgs false
set_option linter.unusedVariables false
open Go Go.RowKit

/-- What 'turn' returns. -/
def encT (x : Ln × ByteArray × Bool × Int) : AV := .tup [.agg (encL x.1), .agg (encL x.1), .raw (.string x.2.1), .raw (.string x.2.1), .raw (.bool x.2.2.1), .raw (.bool x.2.2.1), .raw (.int .i64 x.2.2.2), .raw (.int .i64 x.2.2.2)]

set_option maxRecDepth 100000 in
set_option maxHeartbeats 4000000 in
theorem turn18 (l : Ln) (hf : l.fit) (hl : l.short) (m i : Int) (hi : inI i) (s : ByteArray) : Fn1 Try.prog [] 18 [.agg (encL l), .raw (.int .i64 m), .raw (.int .i64 i), .raw (.string s)] (encT (l.step m i s)) [] := by
  have hl1 := hl.waiting; have hl2 := hl.there; have hl3 := hl.back
  have c11 := offer11 l hf s
  have c30 := offer30 l hf s
  have c12 := send12 l hf
  have c31 := send31 l hf
  have c19 := lose19 l hf (by omega) i hi
  have c32 := lose32 l hf hl i hi
  have c13 := repeat13 l hf hl i hi
  have c33 := repeat33 l hf hl i hi
  have c20 := deliver20 l hf hl i hi
  have c34 := deliver34 l hf hl i hi
  have c21 := loseBack21 l hf hl i hi
  have c35 := loseBack35 l hf hl i hi
  have c22 := back22 l hf hl i hi
  have c36 := back36 l hf hl i hi
  simp only [encL, encR, encD] at c11 c30 c12 c31 c19 c32 c13 c33 c20 c34 c21 c35 c22 c36
  refine holds_of Try.func18 rfl rfl ?_
  refine J_run 200 ?_
  delta Try.f18
  simp (disch := omega) only [go_sem, encL]
  repeat' (first
    | (simp (disch := omega) only [go_sem])
    | (with_reducible refine condW_dec (fun h => ?_) (fun h => ?_))
    | ((with_reducible refine CallA.pure c11 ?_ ?_); (· simp only [go_sem]); rintro _ _ ⟨rfl, rfl⟩)
    | ((with_reducible refine CallA.pure c30 ?_ ?_); (· simp only [go_sem]); rintro _ _ ⟨rfl, rfl⟩)
    | ((with_reducible refine CallA.pure c12 ?_ ?_); (· simp only [go_sem]); rintro _ _ ⟨rfl, rfl⟩)
    | ((with_reducible refine CallA.pure c31 ?_ ?_); (· simp only [go_sem]); rintro _ _ ⟨rfl, rfl⟩)
    | ((with_reducible refine CallA.pure c19 ?_ ?_); (· simp only [go_sem]); rintro _ _ ⟨rfl, rfl⟩)
    | ((with_reducible refine CallA.pure c32 ?_ ?_); (· simp only [go_sem]); rintro _ _ ⟨rfl, rfl⟩)
    | ((with_reducible refine CallA.pure c13 ?_ ?_); (· simp only [go_sem]); rintro _ _ ⟨rfl, rfl⟩)
    | ((with_reducible refine CallA.pure c33 ?_ ?_); (· simp only [go_sem]); rintro _ _ ⟨rfl, rfl⟩)
    | ((with_reducible refine CallA.pure c20 ?_ ?_); (· simp only [go_sem]); rintro _ _ ⟨rfl, rfl⟩)
    | ((with_reducible refine CallA.pure c34 ?_ ?_); (· simp only [go_sem]); rintro _ _ ⟨rfl, rfl⟩)
    | ((with_reducible refine CallA.pure c21 ?_ ?_); (· simp only [go_sem]); rintro _ _ ⟨rfl, rfl⟩)
    | ((with_reducible refine CallA.pure c35 ?_ ?_); (· simp only [go_sem]); rintro _ _ ⟨rfl, rfl⟩)
    | ((with_reducible refine CallA.pure c22 ?_ ?_); (· simp only [go_sem]); rintro _ _ ⟨rfl, rfl⟩)
    | ((with_reducible refine CallA.pure c36 ?_ ?_); (· simp only [go_sem]); rintro _ _ ⟨rfl, rfl⟩)
    | (with_reducible refine J_run 200 ?_)
    | (with_reducible refine FinQ.now ?_))
  all_goals clear c11 c30 c12 c31 c19 c32 c13 c33 c20 c34 c21 c35 c22 c36
  all_goals simp_all [Ln.step, encT, encL, emp]
end Go.Proofs.Ytfkfehlnjcbcbaa.Abs
