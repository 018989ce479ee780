import Derived.Test.YtfkfehlnjcbcbaaLC
namespace Go.Proofs.Ytfkfehlnjcbcbaa.Abs
set_option linter.unusedSimpArgs false
set_option linter.unusedVariables false
open Go Go.RowKit

theorem all_no {α : Type} {p : α → Bool} {l : List α} {i : Nat} (hi : i < l.length) (h : p l[i] = false) : l.all p = false := by
  rw [List.all_eq_false]
  exact ⟨l[i], List.getElem_mem hi, by simp [h]⟩
theorem all_yes {α : Type} {p : α → Bool} {l : List α} {i : Nat} (hi : ¬ i < l.length) (h : ∀ j (_hj : j < i) (hx : j < l.length), p l[j] = true) : l.all p = true := by
  rw [List.all_eq_true]
  intro x hx
  obtain ⟨j, hj, rfl⟩ := List.getElem_of_mem hx
  exact h j (by omega) hj
theorem all_next {α : Type} {p : α → Bool} {l : List α} {i : Nat} (hi : i < l.length) (h : ∀ j (_hj : j < i) (hx : j < l.length), p l[j] = true) (hp : p l[i] = true) : ∀ j (_hj : j < i + 1) (hx : j < l.length), p l[j] = true := by
  intro j hj hx
  rcases Nat.lt_succ_iff_lt_or_eq.1 hj with h1 | h1
  · exact h j h1 hx
  · subst h1; exact hp

set_option maxHeartbeats 1000000 in
theorem check14 (l : Ln) (hf : l.fit) : Fn1 Try.prog [] 14 [.agg (encL l)] (.raw (.int .i64 l.chk)) [] := by
  have h1 := fits27 l
  have hwr : 1 ≤ l.next → 1 ≤ l.expected → IntKind.i64.wrap (l.expected - l.next) = l.expected - l.next := fun a b => by
    have := hf.next; have := hf.expected
    simp only [inI] at *
    exact wrap_in (by omega) (by omega)
  simp only [encL] at h1
  refine holds_of Try.func14 rfl rfl ?_
  refine J_run 100 ?_
  delta Try.f14
  simp (disch := omega) only [go_sem, encL]
  refine CallA.pure h1 ?_ ?_
  · simp only [go_sem]
  rintro _ _ ⟨rfl, rfl⟩
  simp (disch := omega) only [go_sem]
  refine condW_by (fun h => ?_) (fun h => ?_)
  · simp (disch := omega) only [go_sem]
    refine .now ?_
    simp only [go_sem]
    simp at h
    simp [Ln.chk, h]
  have ho : l.over = false := by simpa using h
  have hlen : l.there.length ≤ 32 ∧ l.back.length ≤ 32 := by
    simp [Ln.over] at ho
    omega
  simp (disch := omega) only [go_sem]
  clear h h1
  refine J_merge (upto 16 50) [(50, .raw (.bool l.bad))] [.box (encL l)] ?_ ?_
  · generalize IntKind.i64.wrap (l.expected - l.next) = w at *
    refine J_reg 100 ?_
    repeat' (first
      | (simp (disch := omega) only [go_sem, encL])
      | (with_reducible refine guardW_dect (fun h => ?_) (fun h => ?_))
      | (with_reducible refine guardW_decf (fun h => ?_) (fun h => ?_))
      | (with_reducible refine guardW_by (fun h => ?_) (fun h => ?_))
      | (with_reducible refine SemLe.le ?_ ?_))
    all_goals try (have hw := hwr (by omega) (by omega); subst hw)
    all_goals clear hf ho hwr
    all_goals simp_all [Ln.bad]
    all_goals first
      | omega
      | (cases l.waiting <;> simp <;> omega)
  · simp (disch := omega) only [go_sem]
    refine J_run 100 ?_
    simp (disch := omega) only [go_sem]
    refine condW_by (fun h => ?_) (fun h => ?_)
    · simp (disch := omega) only [go_sem]
      refine .now ?_
      simp only [go_sem]
      simp [Ln.chk, h, ho]
    simp (disch := omega) only [go_sem, encL]
    have hsw : l.sent = true → l.waiting ≠ [] := fun hs hw => by simp [Ln.bad, hs, hw] at h
    have h2 := fun p => message28 l p hsw
    simp only [encL] at h2
    refine J_for (5 :: upto 55 62) (fun i : Nat => [(54, .raw (.int .i64 i))]) (fun _ => [.box (encL l)]) (fun i => i ≤ l.there.length ∧ ∀ j (hj : j < i) (hx : j < l.there.length), l.msg l.there[j] = true) (fun i => l.there.length - i) 0 ⟨by omega, by omega⟩ (.le (by simp [go_sem, encL]) (by simp)) ?_
    rintro i ⟨hi, hpre⟩
    by_cases hlt : i < l.there.length
    · simp only [go_sem, encL]
      refine J_run 100 ?_
      simp (disch := omega) only [go_sem, getD_map, encP]
      refine CallA.pure (h2 l.there[i]) ?_ ?_
      · simp only [go_sem]
      rintro _ _ ⟨rfl, rfl⟩
      simp (disch := omega) only [go_sem]
      refine condW_by (fun hm => ?_) (fun hm => ?_)
      · simp (disch := omega) only [go_sem]
        refine .now ?_
        simp only [go_sem]
        have hm' : l.there.all l.msg = false := all_no hlt (by simpa using hm)
        simp [Ln.chk, h, ho, hm']
      · simp (disch := omega) only [go_sem]
        exact .mk (i + 1) ⟨hlt, all_next hlt hpre (by simpa using hm)⟩ (by omega) (by simp [go_sem]) (by simp)
    · simp only [go_sem, encL]
      refine J_run 100 ?_
      simp (disch := omega) only [go_sem]
      have hall : l.there.all l.msg = true := all_yes hlt hpre
      clear h2 hsw hwr
      refine J_run 100 ?_
      simp (disch := omega) only [go_sem]
      refine J_for (7 :: upto 67 90) (fun i : Nat => [(66, .raw (.int .i64 i))]) (fun _ => [.box (encL l)]) (fun i => i ≤ l.back.length ∧ ∀ j (hj : j < i) (hx : j < l.back.length), l.ackd l.back[j] = true) (fun i => l.back.length - i) 0 ⟨by omega, by omega⟩ (.le (by simp [go_sem, encL]) (by simp)) ?_
      clear hpre hlt
      rintro k ⟨hk, hpre⟩
      by_cases hlt : k < l.back.length
      · simp only [go_sem, encL]
        refine J_run 100 ?_
        simp (disch := omega) only [go_sem, getD_map, encP]
        refine J_merge (upto 70 89) [(89, .raw (.bool (!l.ackd l.back[k])))] [.box (encL l), .box (encP l.back[k])] ?_ ?_
        · refine J_reg 100 ?_
          repeat' (first
            | (simp (disch := omega) only [go_sem, encL, encP])
            | (with_reducible refine guardW_dect (fun h => ?_) (fun h => ?_))
            | (with_reducible refine guardW_decf (fun h => ?_) (fun h => ?_))
            | (with_reducible refine guardW_ndecf (fun h => ?_) (fun h => ?_))
            | (with_reducible refine guardW_by (fun h => ?_) (fun h => ?_))
            | (with_reducible refine SemLe.le ?_ ?_))
          all_goals clear hpre hall hf ho
          all_goals simp_all [Ln.ackd, emp]
          all_goals first
            | omega
            | (rw [Bool.eq_iff_iff]; simp <;> omega)
        · simp (disch := omega) only [go_sem]
          refine J_run 100 ?_
          simp (disch := omega) only [go_sem]
          refine condW_by (fun hm => ?_) (fun hm => ?_)
          · simp (disch := omega) only [go_sem]
            refine .now ?_
            simp only [go_sem]
            have hm' : l.back.all l.ackd = false := all_no hlt (by simpa using hm)
            simp [Ln.chk, h, ho, hm']
          · simp (disch := omega) only [go_sem]
            exact .mk (k + 1) ⟨hlt, all_next hlt hpre (by simpa using hm)⟩ (by omega) (by simp [go_sem, encL]) (by simp)
      · have hback : l.back.all l.ackd = true := all_yes hlt hpre
        simp only [go_sem, encL]
        refine J_run 100 ?_
        simp (disch := omega) only [go_sem]
        refine J_run 100 ?_
        simp (disch := omega) only [go_sem]
        refine .now ?_
        simp only [go_sem]
        simp [Ln.chk, h, ho, hall, hback]
end Go.Proofs.Ytfkfehlnjcbcbaa.Abs
