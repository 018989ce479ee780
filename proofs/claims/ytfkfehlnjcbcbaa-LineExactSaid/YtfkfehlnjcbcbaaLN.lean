import Derived.Test.YtfkfehlnjcbcbaaLK
namespace Go.Proofs.Ytfkfehlnjcbcbaa.Abs
set_option linter.unusedSimpArgs false
set_option linter.unusedVariables false
open Go Go.RowKit

set_option maxHeartbeats 2000000 in
theorem deliver34 (l : Ln) (hf : l.fit) (hl : l.short) (i : Int) (hi : inI i) : Fn1 Try.prog [] 34 [.agg (encL l), .raw (.int .i64 i)] (encD (l.deliver i)) [] := by
  have hl1 := hl.waiting; have hl2 := hl.there; have hl3 := hl.back
  have h1 := start43 l hf hl l.there (by omega) i hi
  simp only [encL] at h1
  refine holds_ofV Try.func34 rfl rfl ?_
  refine J_run 100 ?_
  delta Try.f34
  simp (disch := omega) only [go_sem, encL]
  refine CallA.pure h1 ?_ ?_
  · simp only [go_sem]
  rintro _ _ ⟨rfl, rfl⟩
  simp (disch := omega) only [go_sem]
  clear h1
  refine condW_ndec (fun h => ?_) (fun h => ?_)
  · simp (disch := omega) only [go_sem]
    refine .now ?_
    simp only [go_sem]
    exact ⟨_, vle_errD _ _ _, by simp [Ln.deliver, h, encD, emp], rfl⟩
  obtain ⟨hc, h0, hlt⟩ := start_ok h
  have hlen := chk_len hc
  obtain ⟨k, rfl⟩ : ∃ k : Nat, i = k := ⟨i.toNat, by omega⟩
  have hk : k < l.there.length := by omega
  have ge : l.there.getD k .zero = l.there[k] := getD_at hk
  have ed : l.deliver k = ({ l with there := l.there.eraseIdx k, expected := if l.there[k].num = l.expected then IntKind.i64.wrap (l.expected + 1) else l.expected, back := if l.back.length < 32 then l.back ++ [⟨true, l.there[k].num, emp⟩] else l.back }, if l.there[k].num = l.expected then l.there[k].pay else emp, decide (l.there[k].num = l.expected), 0) := by
    simp only [Ln.deliver, h, ne_eq, not_true_eq_false, if_false, Int.toNat_natCast, ge]
  rw [ed]
  clear ed ge
  have c1 := without44 l.there k (by omega) (by omega)
  have c2 := with42 l.back ⟨true, l.there[k].num, emp⟩ (by omega)
  simp (disch := omega) only [go_sem, getD_map, encP, h]
  generalize hp : l.there[k] = p at *
  simp only [encP, emp] at c2
  refine CallA.pure c1 ?_ ?_
  · simp only [go_sem]
  rintro _ _ ⟨rfl, rfl⟩
  clear c1
  simp (disch := omega) only [go_sem]
  refine J_draw 100 [] plan34_6 (by kernel_rfl) (by kernel_rfl) ?_
  delta plan34_6
  repeat' (first
    | (simp (disch := omega) only [go_sem])
    | (with_reducible refine And.intro ?_ ?_))
  all_goals by_cases hb : l.back.length < 32
  all_goals
    refine condW_dec (fun hw => ?_) (fun hw => ?_)
  all_goals
    simp only [hw, hb, if_true, if_false, List.map_append, List.map_cons, List.map_nil, encP] at c2 ⊢
    repeat' (first
      | (simp (disch := omega) only [go_sem])
      | ((with_reducible refine CallA.pure c2 ?_ ?_); (· simp only [go_sem]); rintro _ _ ⟨rfl, rfl⟩)
      | (with_reducible refine FinQ.now ?_)
      | (with_reducible refine And.intro ?_ ?_))
  all_goals exact ⟨_, .refl _, by simp [encD, encL, encP, emp, hw], rfl⟩

set_option maxHeartbeats 2000000 in
theorem back36 (l : Ln) (hf : l.fit) (hl : l.short) (i : Int) (hi : inI i) : Fn1 Try.prog [] 36 [.agg (encL l), .raw (.int .i64 i)] (encR (l.backs i)) [] := by
  have hl1 := hl.waiting; have hl2 := hl.there; have hl3 := hl.back
  have h1 := start43 l hf hl l.back (by omega) i hi
  simp only [encL] at h1
  refine holds_ofV Try.func36 rfl rfl ?_
  refine J_run 100 ?_
  delta Try.f36
  simp (disch := omega) only [go_sem, encL]
  refine CallA.pure h1 ?_ ?_
  · simp only [go_sem]
  rintro _ _ ⟨rfl, rfl⟩
  simp (disch := omega) only [go_sem]
  clear h1
  refine condW_ndec (fun h => ?_) (fun h => ?_)
  · simp (disch := omega) only [go_sem]
    refine .now ?_
    simp only [go_sem]
    exact ⟨_, vle_err _, by simp [Ln.backs, h, encR], rfl⟩
  obtain ⟨hc, h0, hlt⟩ := start_ok h
  have hlen := chk_len hc
  have hbad := (chk_over hc).2.1
  obtain ⟨k, rfl⟩ : ∃ k : Nat, i = k := ⟨i.toNat, by omega⟩
  have hk : k < l.back.length := by omega
  have ge : l.back.getD k .zero = l.back[k] := getD_at hk
  have ed : l.backs k = (if l.back[k].num = l.next ∧ l.sent = true then ({ l with back := l.back.eraseIdx k, waiting := l.waiting.tail, next := IntKind.i64.wrap (l.next + 1), sent := false }, 0) else ({ l with back := l.back.eraseIdx k }, 0)) := by
    simp only [Ln.backs, h, ne_eq, not_true_eq_false, if_false, Int.toNat_natCast, ge]
  rw [ed]
  clear ed ge
  have c1 := without44 l.back k (by omega) (by omega)
  simp (disch := omega) only [go_sem, getD_map, encP, h]
  generalize hp : l.back[k] = p at *
  clear hp
  refine CallA.pure c1 ?_ ?_
  · simp only [go_sem]
  rintro _ _ ⟨rfl, rfl⟩
  clear c1
  simp (disch := omega) only [go_sem]
  refine J_merge (upto 29 35) [(35, .raw (.bool (decide (p.num = l.next ∧ l.sent = true))))] [.box (encL { l with back := l.back.eraseIdx k }), .box zeroA, .box (encP p)] ?_ ?_
  · refine J_reg 100 ?_
    repeat' (first
      | (simp (disch := omega) only [go_sem, encL, encP, zeroA])
      | (with_reducible refine guardW_decf (fun h => ?_) (fun h => ?_))
      | (with_reducible refine guardW_dect (fun h => ?_) (fun h => ?_))
      | (with_reducible refine guardW_by (fun h => ?_) (fun h => ?_))
      | (with_reducible refine SemLe.le ?_ ?_))
    all_goals simp_all
  simp (disch := omega) only [go_sem]
  refine J_run 100 ?_
  simp (disch := omega) only [go_sem, encL, encP, zeroA]
  refine condW_dec (fun hw => ?_) (fun hw => ?_)
  · have hne : 0 < l.waiting.length := by
      have hs' := hw.2
      rcases hq : l.waiting with _ | ⟨w, ws⟩
      · simp [Ln.bad, hs', hq] at hbad
      · simp
    have ew : List.drop 1 (List.take l.waiting.length (List.map encS l.waiting)) = List.map encS l.waiting.tail := by
      rw [take_all, ← List.map_drop, List.drop_one]
    simp only [hw, and_self, if_true]
    repeat' (first
      | (simp (disch := omega) only [go_sem, ew, List.length_tail])
      | (with_reducible refine And.intro ?_ ?_)
      | ((with_reducible refine FinQ.frz [3] (.now ?_)); simp (disch := simp) only [go_sem, List.take_of_length_le])
      | omega)
    all_goals exact ⟨_, .refl _, by simp [encR, encL, hw], rfl⟩
  · simp only [hw, if_false]
    repeat' (first
      | (simp (disch := omega) only [go_sem])
      | (with_reducible refine FinQ.now ?_))
    all_goals exact ⟨_, .refl _, by simp [encR, encL], rfl⟩
end Go.Proofs.Ytfkfehlnjcbcbaa.Abs
