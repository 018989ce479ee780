import Derived.Test.YtfkfehlnjcbcbaaLH
namespace Go.Proofs.Ytfkfehlnjcbcbaa.Abs
set_option linter.unusedSimpArgs false
set_option linter.unusedVariables false
open Go Go.RowKit

set_option maxHeartbeats 2000000 in
theorem back22 (l : Ln) (hf : l.fit) (hl : l.short) (i : Int) (hi : inI i) : Fn1 Try.prog [] 22 [.agg (encL l), .raw (.int .i64 i)] (encR (l.backs i)) [] := by
  have hl1 := hl.waiting; have hl2 := hl.there; have hl3 := hl.back
  have h1 := out26 l hf l.back (by omega) i hi
  simp only [encL] at h1
  refine holds_ofV Try.func22 rfl rfl ?_
  refine J_run 100 ?_
  delta Try.f22
  simp (disch := omega) only [go_sem, encL]
  by_cases hs : l.start l.back.length i = 0
  · obtain ⟨hc, h0, hlt⟩ := start_ok hs
    have hlen := chk_len hc
    have hbad := (chk_over hc).2.1
    simp only [outA, hs, ne_eq, not_true_eq_false, if_false] at h1
    generalize hp : l.back.getD i.toNat Pk.zero = p at *
    have hle := List.length_eraseIdx_le l.back i.toNat
    have ed : l.backs i = (if p.num = l.next ∧ l.sent = true then ({ l with back := l.back.eraseIdx i.toNat, waiting := l.waiting.tail, next := IntKind.i64.wrap (l.next + 1), sent := false }, 0) else ({ l with back := l.back.eraseIdx i.toNat }, 0)) := by
      simp only [Ln.backs, hs, ne_eq, not_true_eq_false, if_false, hp]
    have hsh : (l.backs i).1.waiting.length ≤ 1000 ∧ (l.backs i).1.there.length ≤ 1000 ∧ (l.backs i).1.back.length ≤ 1000 := by
      rw [ed]; split <;> simp <;> omega
    have c1 := clone23 (l.waiting.tail.map encS) (by simp; omega)
    have c2 := line24 (l.backs i).1 hsh.1 hsh.2.1 hsh.2.2
    rw [ed] at c2 ⊢
    simp only [List.length_map] at c1
    refine CallA.pure h1 ?_ ?_
    · simp only [go_sem]
    rintro _ _ ⟨rfl, rfl⟩
    clear h1
    simp (disch := omega) only [go_sem, encP]
    refine J_merge (upto 26 32) [(32, .raw (.bool (decide (p.num = l.next ∧ l.sent = true))))] [.box (encL { l with back := l.back.eraseIdx i.toNat }), .box zeroA, .box (encP p)] ?_ ?_
    · refine J_reg 100 ?_
      repeat' (first
        | (simp (disch := omega) only [go_sem, encL, encP, zeroA])
        | (with_reducible refine guardW_decf (fun h => ?_) (fun h => ?_))
        | (with_reducible refine guardW_by (fun h => ?_) (fun h => ?_))
        | (with_reducible refine SemLe.le ?_ ?_))
      all_goals simp_all
    simp (disch := omega) only [go_sem]
    refine J_run 100 ?_
    simp (disch := omega) only [go_sem, encL, encP, zeroA]
    clear ed hsh hp
    refine condW_dec (fun hw => ?_) (fun hw => ?_)
    · have hne : 0 < l.waiting.length := by
        have hs' := hw.2
        rcases hq : l.waiting with _ | ⟨w, ws⟩
        · simp [Ln.bad, hs', hq] at hbad
        · simp
      have ew : List.drop 1 (List.take l.waiting.length (List.map encS l.waiting)) = List.map encS l.waiting.tail := by
        rw [take_all, ← List.map_drop, List.drop_one]
      simp only [hw, and_self, if_true] at c2 ⊢
      simp only [encL] at c2
      repeat' (first
        | (simp (disch := omega) only [go_sem, ew])
        | ((with_reducible refine CallA.pure c1 ?_ ?_); (· simp only [go_sem]); rintro _ _ ⟨rfl, rfl⟩)
        | ((with_reducible refine CallA.give [3] ?_ ?_ c2 ?_); (· simp (disch := simp) only [go_sem, List.take_of_length_le]); (· simp only [go_sem]); rintro _ _ ⟨rfl, rfl⟩)
        | (with_reducible refine FinQ.now ?_))
      all_goals exact ⟨_, .refl _, by simp [encR, encL], rfl⟩
    · simp only [hw, if_false] at c2 ⊢
      simp only [encL] at c2
      repeat' (first
        | (simp (disch := omega) only [go_sem])
        | ((with_reducible refine CallA.pure c2 ?_ ?_); (· simp only [go_sem]); rintro _ _ ⟨rfl, rfl⟩)
        | (with_reducible refine FinQ.now ?_))
      all_goals exact ⟨_, .refl _, by simp [encR, encL], rfl⟩
  · simp only [outA, hs, ne_eq, not_false_eq_true, if_true] at h1
    simp only [Ln.backs, hs, ne_eq, not_false_eq_true, if_true]
    refine CallA.pure h1 ?_ ?_
    · simp only [go_sem]
    rintro _ _ ⟨rfl, rfl⟩
    simp (disch := omega) only [go_sem, encP]
    refine .now ?_
    simp only [go_sem]
    exact ⟨_, vle_err _, rfl, rfl⟩
theorem new15 : Fn1 Try.prog [] 15 [] (.agg (encL Ln.new)) [] := by
  refine holds_ofV Try.func15 rfl rfl ?_
  refine J_run 100 ?_
  delta Try.f15
  simp (disch := omega) only [go_sem]
  refine .now ?_
  simp only [go_sem]
  exact ⟨_, .agg (.cons (.nilLst 1) (.cons (.refl _) (.cons (.refl _) (.cons (.refl _) (.cons (.nilLst 3) (.cons (.nilLst 3) .nil)))))), rfl, rfl⟩
end Go.Proofs.Ytfkfehlnjcbcbaa.Abs
