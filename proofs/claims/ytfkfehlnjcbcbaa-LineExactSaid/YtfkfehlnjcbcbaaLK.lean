import Derived.Test.YtfkfehlnjcbcbaaLJ
namespace Go.Proofs.Ytfkfehlnjcbcbaa.Abs
set_option linter.unusedSimpArgs false
set_option linter.unusedVariables false
open Go Go.RowKit

set_option maxHeartbeats 1000000 in
theorem offer30 (l : Ln) (hf : l.fit) (s : ByteArray) : Fn1 Try.prog [] 30 [.agg (encL l), .raw (.string s)] (encR (l.offer s)) [] := by
  have h1 := check17 l hf
  simp only [encL] at h1
  refine holds_ofV Try.func30 rfl rfl ?_
  refine J_run 100 ?_
  delta Try.f30
  simp (disch := omega) only [go_sem, encL]
  refine CallA.pure h1 ?_ ?_
  · simp only [go_sem]
  rintro _ _ ⟨rfl, rfl⟩
  simp (disch := omega) only [go_sem]
  clear h1
  refine condW_ndec (fun h => ?_) (fun h => ?_)
  · simp (disch := omega) only [go_sem]
    refine .now ?_
    simp only [go_sem]
    exact ⟨_, vle_err _, by simp [Ln.offer, h, encR], rfl⟩
  have hlen := chk_len h
  simp (disch := omega) only [go_sem, h]
  refine condW_dec (fun hs => ?_) (fun hs => ?_)
  · have hl : long s = true := by simp [long]; omega
    simp (disch := omega) only [go_sem]
    refine .now ?_
    simp only [go_sem]
    exact ⟨_, vle_err _, by simp [Ln.offer, h, hl, encR], rfl⟩
  have hl : long s = false := by simp [long]; omega
  simp (disch := omega) only [go_sem]
  refine condW_dec (fun hw => ?_) (fun hw => ?_)
  · have hw' : l.waiting.length = 32 := by omega
    simp (disch := omega) only [go_sem]
    refine .now ?_
    simp only [go_sem]
    exact ⟨_, vle_err _, by simp [Ln.offer, h, hl, hw', encR], rfl⟩
  have hw' : ¬ l.waiting.length = 32 := by omega
  simp (disch := omega) only [go_sem]
  refine .frz [2] (.now ?_)
  simp (disch := simp) only [go_sem, List.take_of_length_le]
  exact ⟨_, .refl _, by simp [Ln.offer, h, hl, hw', encR, encL, encS], rfl⟩

set_option maxHeartbeats 1000000 in
theorem send31 (l : Ln) (hf : l.fit) : Fn1 Try.prog [] 31 [.agg (encL l)] (encR l.send) [] := by
  have h1 := check17 l hf
  simp only [encL] at h1
  refine holds_ofV Try.func31 rfl rfl ?_
  refine J_run 100 ?_
  delta Try.f31
  simp (disch := omega) only [go_sem, encL]
  refine CallA.pure h1 ?_ ?_
  · simp only [go_sem]
  rintro _ _ ⟨rfl, rfl⟩
  simp (disch := omega) only [go_sem]
  clear h1
  refine condW_ndec (fun h => ?_) (fun h => ?_)
  · simp (disch := omega) only [go_sem]
    refine .now ?_
    simp only [go_sem]
    exact ⟨_, vle_err _, by simp [Ln.send, h, encR], rfl⟩
  have hlen := chk_len h
  simp (disch := omega) only [go_sem, h]
  refine condW_dec (fun hs => ?_) (fun hs => ?_)
  · have hl : l.waiting = [] := List.eq_nil_of_length_eq_zero (by omega)
    simp (disch := omega) only [go_sem]
    refine .now ?_
    simp only [go_sem]
    exact ⟨_, vle_err _, by simp [Ln.send, h, hl, encR], rfl⟩
  have hl : ¬ l.waiting = [] := fun hl => by simp [hl] at hs
  have hp : 0 < l.waiting.length := by omega
  have hh := head_eq hp
  simp (disch := omega) only [go_sem]
  refine condW_dec (fun hw => ?_) (fun hw => ?_)
  · have hw' : l.there.length = 32 := by omega
    simp (disch := omega) only [go_sem]
    refine .now ?_
    simp only [go_sem]
    exact ⟨_, vle_err _, by simp [Ln.send, h, hl, hw', encR], rfl⟩
  have hw' : ¬ l.there.length = 32 := by omega
  have c1 := with42 l.there ⟨false, l.next, l.waiting.headD emp⟩ (by omega)
  simp only [encP] at c1
  simp (disch := omega) only [go_sem]
  refine J_draw 100 [] plan31_8 (by kernel_rfl) (by kernel_rfl) ?_
  delta plan31_8
  repeat' (first
    | (simp (disch := omega) only [go_sem, getD_map, encS, encP, hh])
    | ((with_reducible refine CallA.pure c1 ?_ ?_); (· simp only [go_sem, encP]); rintro _ _ ⟨rfl, rfl⟩)
    | (with_reducible refine FinQ.now ?_)
    | (with_reducible refine And.intro ?_ ?_))
  all_goals exact ⟨_, .refl _, by simp [Ln.send, h, hl, hw', encR, encL, encS, encP], rfl⟩

set_option maxHeartbeats 1000000 in
theorem lose32 (l : Ln) (hf : l.fit) (hl : l.short) (i : Int) (hi : inI i) : Fn1 Try.prog [] 32 [.agg (encL l), .raw (.int .i64 i)] (encR (l.lose i)) [] := by
  have hl1 := hl.waiting; have hl2 := hl.there; have hl3 := hl.back
  have h1 := start43 l hf hl l.there (by omega) i hi
  simp only [encL] at h1
  refine holds_ofV Try.func32 rfl rfl ?_
  refine J_run 100 ?_
  delta Try.f32
  simp (disch := omega) only [go_sem, encL]
  refine CallA.pure h1 ?_ ?_
  · simp only [go_sem]
  rintro _ _ ⟨rfl, rfl⟩
  simp (disch := omega) only [go_sem]
  clear h1
  refine condW_ndec (fun h => ?_) (fun h => ?_)
  · simp (disch := omega) only [go_sem]
    refine .now ?_
    simp only [go_sem]
    exact ⟨_, vle_err _, by simp [Ln.lose, h, encR], rfl⟩
  obtain ⟨hc, h0, hlt⟩ := start_ok h
  obtain ⟨k, rfl⟩ : ∃ k : Nat, i = k := ⟨i.toNat, by omega⟩
  have c1 := without44 l.there k (by omega) (by omega)
  simp (disch := omega) only [go_sem, h]
  repeat' (first
    | (simp (disch := omega) only [go_sem])
    | ((with_reducible refine CallA.pure c1 ?_ ?_); (· simp only [go_sem]); rintro _ _ ⟨rfl, rfl⟩)
    | (with_reducible refine FinQ.now ?_))
  all_goals exact ⟨_, .refl _, by simp [Ln.lose, h, encR, encL], rfl⟩
set_option maxHeartbeats 1000000 in
theorem loseBack35 (l : Ln) (hf : l.fit) (hl : l.short) (i : Int) (hi : inI i) : Fn1 Try.prog [] 35 [.agg (encL l), .raw (.int .i64 i)] (encR (l.loseBack i)) [] := by
  have hl1 := hl.waiting; have hl2 := hl.there; have hl3 := hl.back
  have h1 := start43 l hf hl l.back (by omega) i hi
  simp only [encL] at h1
  refine holds_ofV Try.func35 rfl rfl ?_
  refine J_run 100 ?_
  delta Try.f35
  simp (disch := omega) only [go_sem, encL]
  refine CallA.pure h1 ?_ ?_
  · simp only [go_sem]
  rintro _ _ ⟨rfl, rfl⟩
  simp (disch := omega) only [go_sem]
  clear h1
  refine condW_ndec (fun h => ?_) (fun h => ?_)
  · simp (disch := omega) only [go_sem]
    refine .now ?_
    simp only [go_sem]
    exact ⟨_, vle_err _, by simp [Ln.loseBack, h, encR], rfl⟩
  obtain ⟨hc, h0, hlt⟩ := start_ok h
  obtain ⟨k, rfl⟩ : ∃ k : Nat, i = k := ⟨i.toNat, by omega⟩
  have c1 := without44 l.back k (by omega) (by omega)
  simp (disch := omega) only [go_sem, h]
  repeat' (first
    | (simp (disch := omega) only [go_sem])
    | ((with_reducible refine CallA.pure c1 ?_ ?_); (· simp only [go_sem]); rintro _ _ ⟨rfl, rfl⟩)
    | (with_reducible refine FinQ.now ?_))
  all_goals exact ⟨_, .refl _, by simp [Ln.loseBack, h, encR, encL], rfl⟩

set_option maxHeartbeats 1000000 in
theorem repeat33 (l : Ln) (hf : l.fit) (hl : l.short) (i : Int) (hi : inI i) : Fn1 Try.prog [] 33 [.agg (encL l), .raw (.int .i64 i)] (encR (l.repeat' i)) [] := by
  have hl1 := hl.waiting; have hl2 := hl.there; have hl3 := hl.back
  have h1 := start43 l hf hl l.there (by omega) i hi
  simp only [encL] at h1
  refine holds_ofV Try.func33 rfl rfl ?_
  refine J_run 100 ?_
  delta Try.f33
  simp (disch := omega) only [go_sem, encL]
  refine CallA.pure h1 ?_ ?_
  · simp only [go_sem]
  rintro _ _ ⟨rfl, rfl⟩
  simp (disch := omega) only [go_sem]
  clear h1
  refine condW_ndec (fun h => ?_) (fun h => ?_)
  · simp (disch := omega) only [go_sem]
    refine .now ?_
    simp only [go_sem]
    exact ⟨_, vle_err _, by simp [Ln.repeat', h, encR], rfl⟩
  obtain ⟨hc, h0, hlt⟩ := start_ok h
  have hlen := chk_len hc
  simp (disch := omega) only [go_sem, h]
  refine condW_dec (fun hw => ?_) (fun hw => ?_)
  · have hw' : l.there.length = 32 := by omega
    simp (disch := omega) only [go_sem]
    refine .now ?_
    simp only [go_sem]
    have e : l.repeat' i = (.zero, 49) := by unfold Ln.repeat'; rw [if_neg (by simp [h]), if_pos hw']
    exact ⟨_, vle_err _, by rw [e]; rfl, rfl⟩
  have hw' : ¬ l.there.length = 32 := by omega
  have e : l.repeat' i = ({ l with there := l.there ++ [l.there.getD i.toNat .zero] }, 0) := by unfold Ln.repeat'; rw [if_neg (by simp [h]), if_neg hw']
  obtain ⟨k, rfl⟩ : ∃ k : Nat, i = k := ⟨i.toNat, by omega⟩
  have hk : k < l.there.length := by omega
  have ge : l.there.getD (k : Int).toNat .zero = l.there[k] := by simpa using getD_at hk
  rw [e, ge]
  have c1 := with42 l.there l.there[k] (by omega)
  simp only [encP] at c1
  simp (disch := omega) only [go_sem]
  refine J_draw 100 [] plan33_6 (by kernel_rfl) (by kernel_rfl) ?_
  delta plan33_6
  repeat' (first
    | (simp (disch := omega) only [go_sem, getD_map, encP])
    | ((with_reducible refine CallA.pure c1 ?_ ?_); (· simp only [go_sem, encP]); rintro _ _ ⟨rfl, rfl⟩)
    | (with_reducible refine FinQ.now ?_)
    | (with_reducible refine And.intro ?_ ?_))
  all_goals exact ⟨_, .refl _, by simp [encR, encL, encP], rfl⟩
end Go.Proofs.Ytfkfehlnjcbcbaa.Abs
