import Derived.Test.YtfkfehlnjcbcbaaLD
namespace Go.Proofs.Ytfkfehlnjcbcbaa.Abs
set_option linter.unusedSimpArgs false
set_option linter.unusedVariables false
open Go Go.RowKit

theorem any_yes {α : Type} {p : α → Bool} {l : List α} {i : Nat} (hi : i < l.length) (h : p l[i] = true) : l.any p = true := by
  rw [List.any_eq_true]
  exact ⟨l[i], List.getElem_mem hi, h⟩
theorem any_no {α : Type} {p : α → Bool} {l : List α} {i : Nat} (hi : ¬ i < l.length) (h : ∀ j (_hj : j < i) (hx : j < l.length), p l[j] = false) : l.any p = false := by
  rw [List.any_eq_false]
  intro x hx
  obtain ⟨j, hj, rfl⟩ := List.getElem_of_mem hx
  simp [h j (by omega) hj]
theorem any_next {α : Type} {p : α → Bool} {l : List α} {i : Nat} (hi : i < l.length) (h : ∀ j (_hj : j < i) (hx : j < l.length), p l[j] = false) (hp : p l[i] = false) : ∀ j (_hj : j < i + 1) (hx : j < l.length), p l[j] = false := by
  intro j hj hx
  rcases Nat.lt_succ_iff_lt_or_eq.1 hj with h1 | h1
  · exact h j h1 hx
  · subst h1; exact hp

set_option maxRecDepth 100000 in
set_option maxHeartbeats 4000000 in
theorem check17 (l : Ln) (hf : l.fit) : Fn1 Try.prog [] 17 [.agg (encL l)] (.raw (.int .i64 l.chk)) [] := by
  have hwr : 1 < l.expected → IntKind.i64.wrap (l.expected - 1) = l.expected - 1 := fun a => by
    have := hf.expected
    simp only [inI] at *
    exact wrap_in (by omega) (by omega)
  refine holds_of Try.func17 rfl rfl ?_
  refine J_run 100 ?_
  delta Try.f17
  simp (disch := omega) only [go_sem, encL]
  refine J_merge (upto 11 26) [(26, .raw (.bool (decide (32 < l.waiting.length) || decide (32 < l.there.length) || decide (32 < l.back.length))))] [.box (encL l)] ?_ ?_
  · clear hwr
    refine J_reg 100 ?_
    repeat' (first
      | (simp (disch := omega) only [go_sem, encL])
      | (with_reducible refine guardW_decf (fun h => ?_) (fun h => ?_))
      | (with_reducible refine guardW_by (fun h => ?_) (fun h => ?_))
      | (with_reducible refine SemLe.le ?_ ?_))
    all_goals simp_all
    all_goals omega
  simp (disch := omega) only [go_sem]
  refine J_run 100 ?_
  simp (disch := omega) only [go_sem]
  refine condW_by (fun h => ?_) (fun h => ?_)
  · simp (disch := omega) only [go_sem]
    refine .now ?_
    simp only [go_sem]
    have : l.over = true := by simp only [Ln.over, h]; rfl
    simp [Ln.chk, this]
  have hlen : l.waiting.length ≤ 32 ∧ l.there.length ≤ 32 ∧ l.back.length ≤ 32 := by simp at h; omega
  simp (disch := omega) only [go_sem, encL]
  -- the messages that wait
  refine J_for (upto 27 40) (fun i : Nat => [(3, .raw (.int .i64 i))]) (fun _ => [.box (encL l)]) (fun i => i ≤ l.waiting.length ∧ ∀ j (hj : j < i) (hx : j < l.waiting.length), long l.waiting[j] = false) (fun i => l.waiting.length - i) 0 ⟨by omega, by omega⟩ (.le (by simp [go_sem, encL]) (by simp)) ?_
  rintro i1 ⟨hi1, hpre⟩
  by_cases hlt : i1 < l.waiting.length
  · simp only [go_sem, encL]
    refine J_run 100 ?_
    simp (disch := omega) only [go_sem, getD_map, encS]
    refine condW_dec (fun hm => ?_) (fun hm => ?_)
    · simp (disch := omega) only [go_sem]
      refine .now ?_
      simp only [go_sem]
      have h1 : l.waiting.any long = true := any_yes hlt (by simp [long]; omega)
      have : l.over = true := by simp [Ln.over, h1]
      simp [Ln.chk, this]
    · simp (disch := omega) only [go_sem]
      exact .mk (i1 + 1) ⟨hlt, any_next hlt hpre (by simp [long]; omega)⟩ (by omega) (by simp [go_sem]) (by simp)
  have hw : l.waiting.any long = false := any_no hlt hpre
  clear hpre
  simp only [go_sem, encL]
  refine J_run 100 ?_
  simp (disch := omega) only [go_sem]
  clear hlt
  refine J_run 100 ?_
  simp (disch := omega) only [go_sem]
  refine J_for (upto 41 55) (fun i : Nat => [(4, .raw (.int .i64 i))]) (fun _ => [.box (encL l)]) (fun i => i ≤ l.there.length ∧ ∀ j (hj : j < i) (hx : j < l.there.length), (fun p => long p.pay) l.there[j] = false) (fun i => l.there.length - i) 0 ⟨by omega, by omega⟩ (.le (by simp [go_sem, encL]) (by simp)) ?_
  rintro i2 ⟨hi2, hpre⟩
  by_cases hlt : i2 < l.there.length
  · simp only [go_sem, encL]
    refine J_run 100 ?_
    simp (disch := omega) only [go_sem, getD_map, encP]
    refine condW_dec (fun hm => ?_) (fun hm => ?_)
    · simp (disch := omega) only [go_sem]
      refine .now ?_
      simp only [go_sem]
      have h1 : l.there.any (fun p => long p.pay) = true := any_yes hlt (by simp [long]; omega)
      have : l.over = true := by simp only [Ln.over, h1]; simp
      simp [Ln.chk, this]
    · simp (disch := omega) only [go_sem]
      exact .mk (i2 + 1) ⟨hlt, any_next (p := fun p => long p.pay) hlt hpre (by show long l.there[i2].pay = false; simp [long]; omega)⟩ (by omega) (by simp [go_sem]) (by simp)
  have ht : l.there.any (fun p => long p.pay) = false := any_no hlt hpre
  clear hpre
  simp only [go_sem, encL]
  refine J_run 100 ?_
  simp (disch := omega) only [go_sem]
  clear hlt
  refine J_run 100 ?_
  simp (disch := omega) only [go_sem]
  refine J_for (upto 56 70) (fun i : Nat => [(5, .raw (.int .i64 i))]) (fun _ => [.box (encL l)]) (fun i => i ≤ l.back.length ∧ ∀ j (hj : j < i) (hx : j < l.back.length), (fun p => long p.pay) l.back[j] = false) (fun i => l.back.length - i) 0 ⟨by omega, by omega⟩ (.le (by simp [go_sem, encL]) (by simp)) ?_
  rintro i3 ⟨hi3, hpre⟩
  by_cases hlt : i3 < l.back.length
  · simp only [go_sem, encL]
    refine J_run 100 ?_
    simp (disch := omega) only [go_sem, getD_map, encP]
    refine condW_dec (fun hm => ?_) (fun hm => ?_)
    · simp (disch := omega) only [go_sem]
      refine .now ?_
      simp only [go_sem]
      have h1 : l.back.any (fun p => long p.pay) = true := any_yes hlt (by simp [long]; omega)
      have : l.over = true := by simp only [Ln.over, h1]; simp
      simp [Ln.chk, this]
    · simp (disch := omega) only [go_sem]
      exact .mk (i3 + 1) ⟨hlt, any_next (p := fun p => long p.pay) hlt hpre (by show long l.back[i3].pay = false; simp [long]; omega)⟩ (by omega) (by simp [go_sem]) (by simp)
  have hb : l.back.any (fun p => long p.pay) = false := any_no hlt hpre
  clear hpre
  have ho : l.over = false := by simp only [Ln.over, hw, ht, hb, h]; rfl
  clear hw ht hb h
  simp only [go_sem, encL]
  refine J_run 100 ?_
  simp (disch := omega) only [go_sem]
  clear hlt
  refine J_run 100 ?_
  simp (disch := omega) only [go_sem]
  -- whether the receiver is ahead
  refine J_merge (upto 71 81) [(6, .raw (.bool (decide (1 < l.expected) && decide (l.expected - 1 = l.next))))] [.box (encL l)] ?_ ?_
  · refine J_reg 100 ?_
    repeat' (first
      | (simp (disch := omega) only [go_sem, encL])
      | (with_reducible refine guardW_dect (fun h => ?_) (fun h => ?_))
      | (with_reducible refine guardW_by (fun h => ?_) (fun h => ?_))
      | (with_reducible refine SemLe.le ?_ ?_))
    all_goals simp_all
  simp (disch := omega) only [go_sem, encL]
  refine J_run 100 ?_
  simp (disch := omega) only [go_sem]
  generalize hah : (decide (1 < l.expected) && decide (l.expected - 1 = l.next)) = ah
  refine J_merge (upto 82 113) [(113, .raw (.bool l.bad))] [.box (encL l)] ?_ ?_
  · refine J_reg 100 ?_
    repeat' (first
      | (simp (disch := omega) only [go_sem, encL])
      | (with_reducible refine guardW_dect (fun h => ?_) (fun h => ?_))
      | (with_reducible refine guardW_decf (fun h => ?_) (fun h => ?_))
      | (with_reducible refine guardW_by (fun h => ?_) (fun h => ?_))
      | (with_reducible refine SemLe.le ?_ ?_))
    all_goals clear hwr hf ho hlen hi1 hi2 hi3
    all_goals
      have hwe : l.waiting.isEmpty = decide (l.waiting.length = 0) := by cases l.waiting <;> simp
      have hah' : ah = true ↔ (1 < l.expected ∧ l.expected - 1 = l.next) := by rw [← hah]; simp
      clear hah
      simp only [Ln.bad, hwe]
      grind
  simp (disch := omega) only [go_sem]
  refine J_run 100 ?_
  simp (disch := omega) only [go_sem]
  refine condW_by (fun h => ?_) (fun h => ?_)
  · simp (disch := omega) only [go_sem]
    refine .now ?_
    simp only [go_sem]
    simp [Ln.chk, h, ho]
  clear hah
  simp (disch := omega) only [go_sem, encL]
  have hw : l.sent = false ∨ (l.sent = true ∧ 0 < l.waiting.length) := by
    cases hs : l.sent
    · exact .inl rfl
    · refine .inr ⟨rfl, List.length_pos_iff.2 fun hw => ?_⟩
      simp [Ln.bad, hs, hw] at h
  have hh : ∀ h : 0 < l.waiting.length, l.waiting[0] = l.waiting.headD emp := by
    cases l.waiting with
    | nil => intro h; simp at h
    | cons x xs => intro _; rfl
  refine J_for (8 :: upto 114 160) (fun i : Nat => [(7, .raw (.int .i64 i))]) (fun _ => [.box (encL l)]) (fun i => i ≤ l.there.length ∧ ∀ j (hj : j < i) (hx : j < l.there.length), l.msg l.there[j] = true) (fun i => l.there.length - i) 0 ⟨by omega, by omega⟩ (.le (by simp [go_sem, encL]) (by simp)) ?_
  rintro i4 ⟨hi4, hpre⟩
  by_cases hlt : i4 < l.there.length
  · simp only [go_sem, encL]
    refine J_run 100 ?_
    simp (disch := omega) only [go_sem, getD_map, encP]
    refine J_merge (upto 126 160) [(160, .raw (.bool (!l.msg l.there[i4])))] [.box (encL l), .box (encP l.there[i4])] ?_ ?_
    · refine J_draw 100 [] plan17_25 (by kernel_rfl) (by kernel_rfl) ?_
      delta plan17_25
      rcases hw with hs | ⟨hs, hw⟩
      all_goals
        repeat' (first
          | (simp (disch := omega) only [go_sem, getD_map, hs, encS, encL, encP])
          | (with_reducible refine stepGuard_dect (fun h => ?_) (fun h => ?_))
          | (with_reducible refine stepGuard_decf (fun h => ?_) (fun h => ?_))
          | (with_reducible refine stepGuard_by (fun h => ?_) (fun h => ?_))
          | (with_reducible refine SemLe.le ?_ ?_))
      all_goals clear hpre ho hf hwr
      all_goals simp_all [Ln.msg]
      all_goals omega
    · simp (disch := omega) only [go_sem]
      refine J_run 100 ?_
      simp (disch := omega) only [go_sem]
      refine condW_by (fun hm => ?_) (fun hm => ?_)
      · simp (disch := omega) only [go_sem]
        refine .now ?_
        simp only [go_sem]
        have hm' : l.there.all l.msg = false := all_no hlt (by simpa using hm)
        simp [Ln.chk, h, ho, hm']
      · simp (disch := omega) only [go_sem]
        exact .mk (i4 + 1) ⟨hlt, all_next hlt hpre (by simpa using hm)⟩ (by omega) (by simp [go_sem, encL]) (by simp)
  simp only [go_sem, encL]
  refine J_run 100 ?_
  simp (disch := omega) only [go_sem]
  have hall : l.there.all l.msg = true := all_yes hlt hpre
  clear hlt hpre
  refine J_run 100 ?_
  simp (disch := omega) only [go_sem]
  refine J_for (10 :: upto 161 193) (fun i : Nat => [(9, .raw (.int .i64 i))]) (fun _ => [.box (encL l)]) (fun i => i ≤ l.back.length ∧ ∀ j (hj : j < i) (hx : j < l.back.length), l.ackd l.back[j] = true) (fun i => l.back.length - i) 0 ⟨by omega, by omega⟩ (.le (by simp [go_sem, encL]) (by simp)) ?_
  rintro i5 ⟨hi5, hpre⟩
  by_cases hlt : i5 < l.back.length
  · have hwe : IntKind.i64.wrap (l.expected - 1) = l.expected - 1 := by
      have := hf.expected
      simp only [inI] at this
      have : 1 ≤ l.expected := by simp [Ln.bad] at h; omega
      exact wrap_in (by omega) (by omega)
    simp only [go_sem, encL]
    refine J_run 100 ?_
    simp (disch := omega) only [go_sem, getD_map, encP]
    refine J_merge (upto 173 193) [(193, .raw (.bool (!l.ackd l.back[i5])))] [.box (encL l), .box (encP l.back[i5])] ?_ ?_
    · refine J_reg 100 ?_
      repeat' (first
        | (simp (disch := omega) only [go_sem, encL, encP, hwe])
        | (with_reducible refine guardW_dect (fun h => ?_) (fun h => ?_))
        | (with_reducible refine guardW_decf (fun h => ?_) (fun h => ?_))
        | (with_reducible refine guardW_ndecf (fun h => ?_) (fun h => ?_))
        | (with_reducible refine guardW_by (fun h => ?_) (fun h => ?_))
        | (with_reducible refine SemLe.le ?_ ?_))
      all_goals clear hpre hall hf ho hwe hwr hh hw
      all_goals simp_all [Ln.ackd, emp]
      all_goals first
        | omega
        | (rw [Bool.eq_iff_iff]; simp <;> omega)
    · simp (disch := omega) only [go_sem]
      refine J_run 100 ?_
      simp (disch := omega) only [go_sem]
      refine condW_by (fun hm => ?_) (fun hm => ?_)
      · simp (disch := omega) only [go_sem]
        refine .now ?_
        simp only [go_sem]
        have hm' : l.back.all l.ackd = false := all_no hlt (by simpa using hm)
        simp [Ln.chk, h, ho, hm']
      · simp (disch := omega) only [go_sem]
        exact .mk (i5 + 1) ⟨hlt, all_next hlt hpre (by simpa using hm)⟩ (by omega) (by simp [go_sem, encL]) (by simp)
  have hback : l.back.all l.ackd = true := all_yes hlt hpre
  simp only [go_sem, encL]
  refine J_run 100 ?_
  simp (disch := omega) only [go_sem]
  refine J_run 100 ?_
  simp (disch := omega) only [go_sem]
  refine .now ?_
  simp only [go_sem]
  simp [Ln.chk, h, ho, hall, hback]
end Go.Proofs.Ytfkfehlnjcbcbaa.Abs
