import Derived.Test.YtfkfehlnjcbcbaaLF
namespace Go.Proofs.Ytfkfehlnjcbcbaa.Abs
set_option linter.unusedSimpArgs false
set_option linter.unusedVariables false
open Go Go.RowKit

/-- Lists that are short. -/
structure Ln.short (l : Ln) : Prop where
  waiting : l.waiting.length ≤ 500
  there : l.there.length ≤ 500
  back : l.back.length ≤ 500
theorem chk_over {l : Ln} (h : l.chk = 0) : l.over = false ∧ l.bad = false ∧ l.there.all l.msg = true ∧ l.back.all l.ackd = true := by
  unfold Ln.chk at h
  split at h
  · cases h
  · rename_i h1
    split at h
    · cases h
    · rename_i h2
      split at h
      · rename_i h3
        rw [Bool.and_eq_true] at h3
        exact ⟨by simpa using h1, by simpa using h2, h3.1, h3.2⟩
      · cases h
theorem head_eq {xs : List ByteArray} : ∀ h : 0 < xs.length, xs[0] = xs.headD emp := by
  cases xs with
  | nil => intro h; simp at h
  | cons x xs => intro _; rfl
theorem chk_len {l : Ln} (h : l.chk = 0) : l.waiting.length ≤ 32 ∧ l.there.length ≤ 32 ∧ l.back.length ≤ 32 := by
  have := (chk_over h).1
  simp [Ln.over] at this
  omega

set_option maxHeartbeats 1000000 in
theorem offer11 (l : Ln) (hf : l.fit) (s : ByteArray) : Fn1 Try.prog [] 11 [.agg (encL l), .raw (.string s)] (encR (l.offer s)) [] := by
  have h1 := check14 l hf
  simp only [encL] at h1
  refine holds_ofV Try.func11 rfl rfl ?_
  refine J_run 100 ?_
  delta Try.f11
  simp (disch := omega) only [go_sem, encL]
  refine CallA.pure h1 ?_ ?_
  · simp only [go_sem]
  rintro _ _ ⟨rfl, rfl⟩
  simp (disch := omega) only [go_sem]
  clear h1
  refine condW_ndec (fun h => ?_) (fun h => ?_)
  · simp (disch := omega) only [go_sem]
    refine .now ?_
    simp only [go_sem]
    exact ⟨_, vle_err _, by simp [Ln.offer, h, encR], rfl⟩
  have hlen := chk_len h
  simp (disch := omega) only [go_sem, h]
  refine condW_dec (fun hs => ?_) (fun hs => ?_)
  · have hl : long s = true := by simp [long]; omega
    simp (disch := omega) only [go_sem]
    refine .now ?_
    simp only [go_sem]
    exact ⟨_, vle_err _, by simp [Ln.offer, h, hl, encR], rfl⟩
  have hl : long s = false := by simp [long]; omega
  simp (disch := omega) only [go_sem]
  refine condW_dec (fun hw => ?_) (fun hw => ?_)
  · have hw' : l.waiting.length = 32 := by omega
    simp (disch := omega) only [go_sem]
    refine .now ?_
    simp only [go_sem]
    exact ⟨_, vle_err _, by simp [Ln.offer, h, hl, hw', encR], rfl⟩
  have hw' : ¬ l.waiting.length = 32 := by omega
  have c1 := clone23 (l.waiting.map encS) (by simp; omega)
  have c2 := line24 { l with waiting := l.waiting ++ [s] } (by simp; omega) (by simp; omega) (by simp; omega)
  simp only [List.length_map] at c1
  simp only [encL, List.map_append, List.map_cons, List.map_nil, encS] at c1 c2
  simp (disch := omega) only [go_sem]
  refine CallA.pure c1 ?_ ?_
  · simp only [go_sem]
  rintro _ _ ⟨rfl, rfl⟩
  simp (disch := omega) only [go_sem]
  refine CallA.give [2] ?_ ?_ c2 ?_
  · simp (disch := simp) only [go_sem, List.take_of_length_le]
  · simp only [go_sem]
  rintro _ _ ⟨rfl, rfl⟩
  simp (disch := omega) only [go_sem]
  refine .now ?_
  simp only [go_sem]
  exact ⟨_, .refl _, by simp [Ln.offer, h, hl, hw', encR, encL, encS], rfl⟩

set_option maxHeartbeats 1000000 in
theorem send12 (l : Ln) (hf : l.fit) : Fn1 Try.prog [] 12 [.agg (encL l)] (encR l.send) [] := by
  have h1 := check14 l hf
  simp only [encL] at h1
  refine holds_ofV Try.func12 rfl rfl ?_
  refine J_run 100 ?_
  delta Try.f12
  simp (disch := omega) only [go_sem, encL]
  refine CallA.pure h1 ?_ ?_
  · simp only [go_sem]
  rintro _ _ ⟨rfl, rfl⟩
  simp (disch := omega) only [go_sem]
  clear h1
  refine condW_ndec (fun h => ?_) (fun h => ?_)
  · simp (disch := omega) only [go_sem]
    refine .now ?_
    simp only [go_sem]
    exact ⟨_, vle_err _, by simp [Ln.send, h, encR], rfl⟩
  have hlen := chk_len h
  simp (disch := omega) only [go_sem, h]
  refine condW_dec (fun hs => ?_) (fun hs => ?_)
  · have hl : l.waiting = [] := List.eq_nil_of_length_eq_zero (by omega)
    simp (disch := omega) only [go_sem]
    refine .now ?_
    simp only [go_sem]
    exact ⟨_, vle_err _, by simp [Ln.send, h, hl, encR], rfl⟩
  have hl : ¬ l.waiting = [] := fun hl => by simp [hl] at hs
  have hp : 0 < l.waiting.length := by omega
  have hh := head_eq hp
  simp (disch := omega) only [go_sem]
  refine condW_dec (fun hw => ?_) (fun hw => ?_)
  · have hw' : l.there.length = 32 := by omega
    simp (disch := omega) only [go_sem]
    refine .now ?_
    simp only [go_sem]
    exact ⟨_, vle_err _, by simp [Ln.send, h, hl, hw', encR], rfl⟩
  have hw' : ¬ l.there.length = 32 := by omega
  have c1 := clone25 (l.there.map encP) (by simp; omega)
  have c2 := line24 l.send.1 (by simp [Ln.send, h, hl, hw']; omega) (by simp [Ln.send, h, hl, hw']; omega) (by simp [Ln.send, h, hl, hw']; omega)
  simp only [List.length_map] at c1
  simp only [Ln.send, h, hl, hw', encL, List.map_append, List.map_cons, List.map_nil, encP, ne_eq, not_true_eq_false, if_false] at c1 c2
  simp (disch := omega) only [go_sem]
  refine J_draw 100 [] plan12_8 (by kernel_rfl) (by kernel_rfl) ?_
  delta plan12_8
  repeat' (first
    | (simp (disch := omega) only [go_sem, getD_map, encS, hh])
    | ((with_reducible refine CallA.pure c1 ?_ ?_); (· simp only [go_sem]); rintro _ _ ⟨rfl, rfl⟩)
    | ((with_reducible refine CallA.give [2] ?_ ?_ c2 ?_); (· simp (disch := simp) only [go_sem, List.take_of_length_le]); (· simp only [go_sem]); rintro _ _ ⟨rfl, rfl⟩)
    | ((with_reducible refine CallA.give [3] ?_ ?_ c2 ?_); (· simp (disch := simp) only [go_sem, List.take_of_length_le]); (· simp only [go_sem]); rintro _ _ ⟨rfl, rfl⟩)
    | (with_reducible refine FinQ.now ?_)
    | (with_reducible refine And.intro ?_ ?_))
  all_goals exact ⟨_, .refl _, by simp [Ln.send, h, hl, hw', encR, encL, encP], rfl⟩

theorem start_ok {l : Ln} {n : Nat} {i : Int} (h : l.start n i = 0) : l.chk = 0 ∧ 0 ≤ i ∧ i < n := by
  unfold Ln.start at h
  split at h
  · rename_i h1; exact absurd h h1
  · rename_i h1
    split at h
    · cases h
    · exact ⟨by omega, by omega⟩

set_option maxHeartbeats 1000000 in
theorem repeat13 (l : Ln) (hf : l.fit) (hl : l.short) (i : Int) (hi : inI i) : Fn1 Try.prog [] 13 [.agg (encL l), .raw (.int .i64 i)] (encR (l.repeat' i)) [] := by
  have h1 := out26 l hf l.there (by have := hl.there; omega) i hi
  simp only [encL] at h1
  refine holds_ofV Try.func13 rfl rfl ?_
  refine J_run 100 ?_
  delta Try.f13
  simp (disch := omega) only [go_sem, encL]
  by_cases hs : l.start l.there.length i = 0
  · obtain ⟨hc, h0, hlt⟩ := start_ok hs
    have hlen := chk_len hc
    simp only [outA, hs, ne_eq, not_true_eq_false, if_false] at h1
    refine CallA.pure h1 ?_ ?_
    · simp only [go_sem]
    rintro _ _ ⟨rfl, rfl⟩
    simp (disch := omega) only [go_sem, encP]
    refine condW_dec (fun hw => ?_) (fun hw => ?_)
    · have hw' : l.there.length = 32 := by omega
      simp (disch := omega) only [go_sem]
      refine .now ?_
      simp only [go_sem]
      have e : l.repeat' i = (.zero, 49) := by unfold Ln.repeat'; rw [if_neg (by simp [hs]), if_pos hw']
      exact ⟨_, vle_err _, by rw [e]; rfl, rfl⟩
    have hw' : ¬ l.there.length = 32 := by omega
    have c1 := clone25 (l.there.map encP) (by simp; omega)
    have c2 := line24 (l.repeat' i).1 (by simp [Ln.repeat', hs, hw']; omega) (by simp [Ln.repeat', hs, hw']; omega) (by simp [Ln.repeat', hs, hw']; omega)
    simp only [List.length_map] at c1
    simp only [Ln.repeat', hs, hw', encL, List.map_append, List.map_cons, List.map_nil, encP, ne_eq, not_true_eq_false, if_false] at c1 c2
    simp (disch := omega) only [go_sem]
    refine J_draw 100 [] plan13_6 (by kernel_rfl) (by kernel_rfl) ?_
    delta plan13_6
    repeat' (first
      | (simp (disch := omega) only [go_sem])
      | ((with_reducible refine CallA.pure c1 ?_ ?_); (· simp only [go_sem]); rintro _ _ ⟨rfl, rfl⟩)
      | ((with_reducible refine CallA.give [3] ?_ ?_ c2 ?_); (· simp (disch := simp) only [go_sem, List.take_of_length_le]); (· simp only [go_sem]); rintro _ _ ⟨rfl, rfl⟩)
      | ((with_reducible refine CallA.give [4] ?_ ?_ c2 ?_); (· simp (disch := simp) only [go_sem, List.take_of_length_le]); (· simp only [go_sem]); rintro _ _ ⟨rfl, rfl⟩)
      | (with_reducible refine FinQ.now ?_)
      | (with_reducible refine And.intro ?_ ?_))
    all_goals exact ⟨_, .refl _, by simp [Ln.repeat', hs, hw', encR, encL, encP], rfl⟩
  · simp only [outA, hs, ne_eq, not_false_eq_true, if_true] at h1
    simp only [Ln.repeat', hs, ne_eq, not_false_eq_true, if_true]
    refine CallA.pure h1 ?_ ?_
    · simp only [go_sem]
    rintro _ _ ⟨rfl, rfl⟩
    simp (disch := omega) only [go_sem, encP]
    refine .now ?_
    simp only [go_sem]
    exact ⟨_, vle_err _, rfl, rfl⟩

set_option maxHeartbeats 1000000 in
theorem loseBack21 (l : Ln) (hf : l.fit) (hl : l.short) (i : Int) (hi : inI i) : Fn1 Try.prog [] 21 [.agg (encL l), .raw (.int .i64 i)] (encR (l.loseBack i)) [] := by
  have hl1 := hl.waiting; have hl2 := hl.there; have hl3 := hl.back
  have h1 := out26 l hf l.back (by omega) i hi
  simp only [encL] at h1
  refine holds_ofV Try.func21 rfl rfl ?_
  refine J_run 100 ?_
  delta Try.f21
  simp (disch := omega) only [go_sem, encL]
  by_cases hs : l.start l.back.length i = 0
  · simp only [outA, hs, ne_eq, not_true_eq_false, if_false] at h1
    have h2 := line24 (l.loseBack i).1 (by simp [Ln.loseBack, hs]; omega) (by simp [Ln.loseBack, hs]; omega) (by simp [Ln.loseBack, hs]; have := List.length_eraseIdx_le l.back i.toNat; omega)
    simp only [Ln.loseBack, hs, ne_eq, not_true_eq_false, if_false, encL] at h2 ⊢
    refine CallA.pure h1 ?_ ?_
    · simp only [go_sem]
    rintro _ _ ⟨rfl, rfl⟩
    simp (disch := omega) only [go_sem, encP]
    repeat' (first
      | ((with_reducible refine CallA.pure h2 ?_ ?_); (· simp only [go_sem]); rintro _ _ ⟨rfl, rfl⟩)
      | (with_reducible refine FinQ.now ?_)
      | (simp (disch := omega) only [go_sem]))
    all_goals exact ⟨_, .refl _, by simp [encR, encL], rfl⟩
  · simp only [outA, hs, ne_eq, not_false_eq_true, if_true] at h1
    simp only [Ln.loseBack, hs, ne_eq, not_false_eq_true, if_true]
    refine CallA.pure h1 ?_ ?_
    · simp only [go_sem]
    rintro _ _ ⟨rfl, rfl⟩
    simp (disch := omega) only [go_sem, encP]
    refine .now ?_
    simp only [go_sem]
    exact ⟨_, vle_err _, rfl, rfl⟩
end Go.Proofs.Ytfkfehlnjcbcbaa.Abs
