import Derived.Test.YtfkfehlnjcbcbaaLN
namespace Go.Proofs.Ytfkfehlnjcbcbaa.Abs
set_option linter.unusedSimpArgs false
set_option linter.unusedVariables false
open Go Go.RowKit

set_option maxHeartbeats 2000000 in
theorem same29 (xs ys : List Pk) (hx : xs.length ≤ 1000) (hy : ys.length ≤ 1000) : Fn1 Try.prog [] 29 [.lst 3 (xs.map encP), .lst 3 (ys.map encP)] (.raw (.bool (decide (xs = ys)))) [] := by
  refine holds_of Try.func29 rfl rfl ?_
  refine J_run 100 ?_
  delta Try.f29
  simp (disch := omega) only [go_sem]
  refine condW_ndec (fun h => ?_) (fun h => ?_)
  · simp (disch := omega) only [go_sem]
    refine .now ?_
    have : ¬ xs = ys := fun e => h (by rw [e])
    simp [go_sem, this]
  have hl : xs.length = ys.length := by omega
  simp (disch := omega) only [go_sem]
  refine J_for (upto 11 25) (fun i : Nat => [(5, .raw (.int .i64 i))]) (fun _ => []) (fun i => i ≤ xs.length ∧ ∀ j (hj : j < i) (h1 : j < xs.length) (h2 : j < ys.length), xs[j] = ys[j]) (fun i => xs.length - i) 0 ⟨by omega, by omega⟩ (.le (by simp [go_sem]) (by simp)) ?_
  rintro i ⟨hi, hpre⟩
  by_cases hlt : i < xs.length
  · have hlt' : i < ys.length := by omega
    refine J_run 100 ?_
    simp (disch := omega) only [go_sem]
    refine J_draw 100 [] plan29_6 (by kernel_rfl) (by kernel_rfl) ?_
    delta plan29_6
    repeat' (first
      | (simp (disch := omega) only [go_sem, getD_map, encP])
      | (with_reducible refine And.intro ?_ ?_))
    have he : (!(decide (xs[i].ack = ys[i].ack) && (decide (xs[i].num = ys[i].num) && decide (xs[i].pay = ys[i].pay)))) = !decide (xs[i] = ys[i]) := by
      rcases xs[i] with ⟨a, b, c⟩; rcases ys[i] with ⟨a', b', c'⟩
      simp [Bool.decide_and]
    simp only [he]
    refine condW_by (fun hm => ?_) (fun hm => ?_)
    · simp (disch := omega) only [go_sem]
      refine .now ?_
      have : ¬ xs = ys := fun e => by subst e; simp at hm
      simp [go_sem, this]
    · simp (disch := omega) only [go_sem]
      refine .mk (i + 1) ⟨hlt, fun j hj h1 h2 => ?_⟩ (by omega) (by simp [go_sem]) (by simp)
      rcases Nat.lt_succ_iff_lt_or_eq.1 hj with h | rfl
      · exact hpre j h h1 h2
      · simpa using hm
  · refine J_run 100 ?_
    simp (disch := omega) only [go_sem]
    refine J_run 100 ?_
    simp (disch := omega) only [go_sem]
    refine .now ?_
    have : xs = ys := List.ext_getElem hl fun j h1 h2 => hpre j (by omega) h1 h2
    simp [go_sem, this]

set_option maxHeartbeats 4000000 in
theorem same16 (a b : Ln) (ha : a.short) (hb : b.short) : Fn1 Try.prog [] 16 [.agg (encL a), .agg (encL b)] (.raw (.bool (decide (a = b)))) [] := by
  have ha1 := ha.waiting; have ha2 := ha.there; have ha3 := ha.back
  have hb1 := hb.waiting; have hb2 := hb.there; have hb3 := hb.back
  have c1 := same29 a.there b.there (by omega) (by omega)
  have c2 := same29 a.back b.back (by omega) (by omega)
  refine holds_of Try.func16 rfl rfl ?_
  refine J_run 100 ?_
  delta Try.f16
  simp (disch := omega) only [go_sem, encL]
  refine condW_ndec (fun h => ?_) (fun h => ?_)
  · simp (disch := omega) only [go_sem]
    refine .now ?_
    have : ¬ a = b := fun e => h (by rw [e])
    simp [go_sem, this]
  have hl : a.waiting.length = b.waiting.length := by omega
  simp (disch := omega) only [go_sem]
  refine J_for (upto 13 30) (fun i : Nat => [(5, .raw (.int .i64 i))]) (fun _ => [.box (encL a), .box (encL b)]) (fun i => i ≤ a.waiting.length ∧ ∀ j (hj : j < i) (h1 : j < a.waiting.length) (h2 : j < b.waiting.length), a.waiting[j] = b.waiting[j]) (fun i => a.waiting.length - i) 0 ⟨by omega, by omega⟩ (.le (by simp [go_sem, encL]) (by simp)) ?_
  rintro i ⟨hi, hpre⟩
  by_cases hlt : i < a.waiting.length
  · have hlt' : i < b.waiting.length := by omega
    simp only [encL]
    refine J_run 100 ?_
    simp (disch := omega) only [go_sem]
    refine J_draw 100 [] plan16_6 (by kernel_rfl) (by kernel_rfl) ?_
    delta plan16_6
    repeat' (first
      | (simp (disch := omega) only [go_sem, getD_map, encS])
      | (with_reducible refine And.intro ?_ ?_))
    refine condW_by (fun hm => ?_) (fun hm => ?_)
    · simp (disch := omega) only [go_sem]
      refine .now ?_
      have : ¬ a = b := fun e => by subst e; simp at hm
      simp [go_sem, this]
    · simp (disch := omega) only [go_sem]
      refine .mk (i + 1) ⟨hlt, fun j hj h1 h2 => ?_⟩ (by omega) (by simp [go_sem, encL]) (by simp)
      rcases Nat.lt_succ_iff_lt_or_eq.1 hj with h | rfl
      · exact hpre j h h1 h2
      · simpa using hm
  · simp only [encL]
    refine J_run 100 ?_
    simp (disch := omega) only [go_sem]
    have ew : a.waiting = b.waiting := List.ext_getElem hl fun j h1 h2 => hpre j (by omega) h1 h2
    have ee : decide (a = b) = (decide (a.next = b.next) && (decide (a.sent = b.sent) && (decide (a.expected = b.expected) && (decide (a.there = b.there) && decide (a.back = b.back))))) := by
      rcases a with ⟨w, n, s, e, t, k⟩; rcases b with ⟨w', n', s', e', t', k'⟩
      simp only at ew
      simp [ew, Bool.decide_and]
    refine J_seq ?_
    refine J_merge (upto 31 63) [(4, .raw (.bool (decide (a = b))))] [.box (encL a), .box (encL b)] ?_ ?_
    · rw [ee]
      refine J_reg 100 ?_
      repeat' (first
        | (simp (disch := omega) only [go_sem, encL])
        | (with_reducible refine guardW_dect (fun h => ?_) (fun h => ?_))
        | (with_reducible refine guardW_by (fun h => ?_) (fun h => ?_))
        | ((with_reducible refine CallA.pure c1 ?_ ?_); (· simp only [go_sem]); rintro _ _ ⟨rfl, rfl⟩)
        | ((with_reducible refine CallA.pure c2 ?_ ?_); (· simp only [go_sem]); rintro _ _ ⟨rfl, rfl⟩)
        | (with_reducible refine SemLe.le ?_ ?_))
      all_goals simp_all
    simp (disch := omega) only [go_sem]
    refine J_run 100 ?_
    simp (disch := omega) only [go_sem]
    refine .now ?_
    simp only [go_sem]
end Go.Proofs.Ytfkfehlnjcbcbaa.Abs
