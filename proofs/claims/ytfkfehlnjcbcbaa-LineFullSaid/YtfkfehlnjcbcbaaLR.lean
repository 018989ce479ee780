import Derived.Test.YtfkfehlnjcbcbaaLQ
namespace Go.Proofs.Ytfkfehlnjcbcbaa.Abs
set_option linter.unusedSimpArgs false
set_option linter.unusedVariables false
open Go Go.RowKit

/-- The messages that 'LineFull' offers. -/
def msgF (n : Int) (k : Nat) : ByteArray := strOfNums [IntKind.u8.wrap (IntKind.i64.wrap (97 + (k : Int).tmod 26)), n]
theorem msgF_long (n : Int) (k : Nat) : long (msgF n k) = false := by
  have : (msgF n k).size = 2 := rfl
  simp [long, this]
def fl (n : Int) (k : Nat) : Ln := ⟨(List.range k).map (msgF n), 1, false, 1, [], []⟩
def gl (n : Int) (k : Nat) : Ln := ⟨(List.range 32).map (msgF n), 1, decide (0 < k), 1, List.replicate k ⟨false, 1, msgF n 0⟩, []⟩
theorem fl_chk (n : Int) {k : Nat} (hk : k ≤ 32) : (fl n k).chk = 0 := by
  have h1 : (fl n k).over = false := by
    simp [Ln.over, fl, msgF_long]; omega
  have h2 : (fl n k).bad = false := by simp [Ln.bad, fl]
  simp [Ln.chk, h1, h2]; simp [fl]
theorem gl_chk (n : Int) {k : Nat} (hk : k ≤ 32) : (gl n k).chk = 0 := by
  have h1 : (gl n k).over = false := by
    simp [Ln.over, gl, msgF_long]; omega
  have h2 : (gl n k).bad = false := by simp [Ln.bad, gl]
  have h3 : (gl n k).there.all (gl n k).msg = true := by
    rw [List.all_eq_true]
    intro p hp
    have hp' := List.eq_of_mem_replicate hp
    have hk0 : 0 < k := by
      rcases Nat.eq_zero_or_pos k with h | h
      · subst h; cases hp
      · exact h
    subst hp'
    simp [Ln.msg, gl, hk0]
    rfl
  simp [Ln.chk, h1, h2, h3]; simp [gl]
theorem fl_offer (n : Int) {k : Nat} (hk : k < 32) : (fl n k).offer (msgF n k) = (fl n (k + 1), 0) := by
  have h := fl_chk n (Nat.le_of_lt hk)
  have h2 : ¬ (fl n k).waiting.length = 32 := by simp [fl]; omega
  simp only [Ln.offer, h, msgF_long, h2, ne_eq, not_true_eq_false, if_false]
  simp [fl, List.range_succ]
theorem fl_more (n : Int) (s : ByteArray) (hs : long s = false) : (fl n 32).offer s = (.zero, 49) := by
  have h := fl_chk n (Nat.le_refl 32)
  have h2 : (fl n 32).waiting.length = 32 := by simp [fl]
  simp [Ln.offer, h, hs, h2]
theorem gl_send (n : Int) {k : Nat} (hk : k < 32) : (gl n k).send = (gl n (k + 1), 0) := by
  have h := gl_chk n (Nat.le_of_lt hk)
  have h2 : ¬ (gl n k).there.length = 32 := by simp [gl]; omega
  have h3 : ¬ (gl n k).waiting = [] := by simp [gl]
  simp only [Ln.send, h, h2, h3, ne_eq, not_true_eq_false, if_false]
  simp [gl, List.replicate_succ']
  rfl
theorem gl_full (n : Int) : (gl n 32).send = (.zero, 49) := by
  have h := gl_chk n (Nat.le_refl 32)
  have h2 : (gl n 32).there.length = 32 := by simp [gl]
  have h3 : ¬ (gl n 32).waiting = [] := by simp [gl]
  simp only [Ln.send, h, h2, h3, ne_eq, not_true_eq_false, if_false, if_true]
theorem gl_repeat (n : Int) : (gl n 32).repeat' 0 = (.zero, 49) := by
  have h := gl_chk n (Nat.le_refl 32)
  have h2 : (gl n 32).there.length = 32 := by simp [gl]
  have h3 : (gl n 32).start 32 0 = 0 := by simp [Ln.start, h]
  simp only [Ln.repeat', h2, h3, ne_eq, not_true_eq_false, if_false, if_true]
theorem fl_gl (n : Int) : fl n 32 = gl n 0 := by simp [fl, gl]
theorem fl_fit (n : Int) (k : Nat) : (fl n k).fit := ⟨(by decide : inI 1), (by decide : inI 1)⟩
theorem gl_fit (n : Int) (k : Nat) : (gl n k).fit := ⟨(by decide : inI 1), (by decide : inI 1)⟩

set_option maxRecDepth 100000 in
set_option maxHeartbeats 4000000 in
theorem full3 (n : Int) (hn : 0 ≤ n ∧ n < 256) : Fn1 Try.prog [] 3 [.raw (.int .u8 n)] (.raw (.bool true)) [] := by
  have c9 := awake9
  have c0 := new10
  have e0 : Ln.new = fl n 0 := rfl
  rw [e0] at c0
  simp only [encL] at c0
  refine holds_of Try.func3 rfl rfl ?_
  refine J_run 100 ?_
  delta Try.f3
  repeat' (first
    | (simp (disch := omega) only [go_sem])
    | ((with_reducible refine CallA.pure c9 ?_ ?_); (· simp only [go_sem]); rintro _ _ ⟨rfl, rfl⟩)
    | ((with_reducible refine CallA.pure c0 ?_ ?_); (· simp only [go_sem]); rintro _ _ ⟨rfl, rfl⟩))
  refine J_for (upto 18 37 ++ [5, 6]) (fun i : Nat => [(4, .raw (.int .i64 i))]) (fun i => [.box (encL (fl n i))]) (fun i => i ≤ 32) (fun i => 32 - i) 0 (by omega) (.le (by simp [go_sem, encL]) (by simp)) ?_
  intro i hi
  by_cases hlt : i < 32
  · have c1 := offer11 (fl n i) (fl_fit n i) (msgF n i)
    rw [fl_offer n hlt] at c1
    simp only [encR, encL, msgF] at c1
    simp only [encL]
    refine J_run 100 ?_
    simp (disch := omega) only [go_sem]
    refine CallA.pure c1 ?_ ?_
    · simp only [go_sem]
    rintro _ _ ⟨rfl, rfl⟩
    simp (disch := omega) only [go_sem]
    refine .mk (i + 1) hlt (by omega) (by simp [go_sem, encL]) (by simp)
  have hi32 : i = 32 := by omega
  subst hi32
  have c1 := offer11 (fl n 32) (fl_fit n 32) ⟨#[109, 111, 114, 101]⟩
  rw [fl_more n _ (by decide)] at c1
  simp only [encR, encL, fl_gl] at c1
  simp only [encL, fl_gl]
  refine J_run 100 ?_
  simp (disch := omega) only [go_sem]
  refine J_run 100 ?_
  simp (disch := omega) only [go_sem]
  refine CallA.pure c1 ?_ ?_
  · simp only [go_sem]
  rintro _ _ ⟨rfl, rfl⟩
  clear c1
  simp (disch := omega) only [go_sem]
  refine J_for (upto 38 54 ++ [10, 11]) (fun i : Nat => [(9, .raw (.int .i64 i))]) (fun i => [.box (encL (gl n i)), .box (encL .zero)]) (fun i => i ≤ 32) (fun i => 32 - i) 0 (by omega) (.le (by simp [go_sem, encL]) (by simp)) ?_
  intro i hi
  by_cases hlt : i < 32
  · have c1 := send12 (gl n i) (gl_fit n i)
    rw [gl_send n hlt] at c1
    simp only [encR, encL] at c1
    simp only [encL]
    refine J_run 100 ?_
    simp (disch := omega) only [go_sem]
    refine CallA.pure c1 ?_ ?_
    · simp only [go_sem]
    rintro _ _ ⟨rfl, rfl⟩
    simp (disch := omega) only [go_sem]
    refine .mk (i + 1) hlt (by omega) (by simp [go_sem, encL]) (by simp)
  have hi32 : i = 32 := by omega
  subst hi32
  have hsh : (gl n 32).short := ⟨by simp [gl], by simp [gl], by simp [gl]⟩
  have c1 := send12 (gl n 32) (gl_fit n 32)
  have c2 := repeat13 (gl n 32) (gl_fit n 32) hsh 0 (by decide)
  have c3 := check14 (gl n 32) (gl_fit n 32)
  rw [gl_full n] at c1
  rw [gl_repeat n] at c2
  rw [gl_chk n (Nat.le_refl 32)] at c3
  have l1 : (gl n 32).waiting.length = 32 := by simp [gl]
  have l2 : (gl n 32).there.length = 32 := by simp [gl]
  simp only [encR, encL] at c1 c2 c3
  simp only [encL]
  refine J_run 100 ?_
  simp (disch := omega) only [go_sem]
  refine J_run 100 ?_
  repeat' (first
    | (simp (disch := omega) only [go_sem, l1, l2])
    | ((with_reducible refine CallA.pure c1 ?_ ?_); (· simp only [go_sem]); rintro _ _ ⟨rfl, rfl⟩)
    | ((with_reducible refine CallA.pure c2 ?_ ?_); (· simp only [go_sem]); rintro _ _ ⟨rfl, rfl⟩)
    | ((with_reducible refine CallA.pure c3 ?_ ?_); (· simp only [go_sem]); rintro _ _ ⟨rfl, rfl⟩)
    | (with_reducible refine J_seq ?_)
    | (refine J_reg (id := 21) 200 ?_)
    | (with_reducible refine FinQ.now ?_))
end Go.Proofs.Ytfkfehlnjcbcbaa.Abs
