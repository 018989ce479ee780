/- LineKnows: what the program's code computes. -/
import Derived.Test.YtfkfehlnjcbcbaaLT
namespace Go.Proofs.Ytfkfehlnjcbcbaa.Abs
set_option linter.unusedSimpArgs false
set_option linter.unusedVariables false
open Go Go.RowKit

theorem zero_short : Ln.zero.short := ⟨by decide, by decide, by decide⟩
theorem step_zero {l : Ln} {m i : Int} {s : ByteArray} (e : (l.step m i s).2.2.2 ≠ 0) : (l.step m i s).1 = .zero := by
  rcases step_cases l m i s with ⟨_, es⟩ | ⟨_, es⟩ | ⟨_, es⟩ | ⟨_, es⟩ | ⟨_, es⟩ | ⟨_, es⟩ | ⟨_, es⟩ <;> rw [es] at e ⊢
  · revert e; unfold Ln.offer; repeat' split
    all_goals first | (intro _; rfl) | (intro e; exact absurd rfl e)
  · revert e; unfold Ln.send; repeat' split
    all_goals first | (intro _; rfl) | (intro e; exact absurd rfl e)
  · revert e; unfold Ln.lose; repeat' split
    all_goals first | (intro _; rfl) | (intro e; exact absurd rfl e)
  · revert e; unfold Ln.repeat'; repeat' split
    all_goals first | (intro _; rfl) | (intro e; exact absurd rfl e)
  · revert e; unfold Ln.deliver; split
    all_goals first | (intro _; rfl) | (intro e; exact absurd rfl e)
  · revert e; unfold Ln.loseBack; repeat' split
    all_goals first | (intro _; rfl) | (intro e; exact absurd rfl e)
  · revert e; unfold Ln.backs; split
    · intro _; rfl
    · simp only
      split <;> (intro e; exact absurd rfl e)
theorem step_short {l : Ln} (h : l.ok) (hb : l.expected < 4611686018427387904) (m i : Int) (s : ByteArray) : (l.step m i s).1.short := by
  by_cases e : (l.step m i s).2.2.2 = 0
  · exact ok_short (step_ok h hb e).1
  · rw [step_zero e]; exact zero_short

set_option maxRecDepth 100000 in
set_option maxHeartbeats 4000000 in
theorem knows7 (ms : List Int) (hms : ∀ m, m ∈ ms → 0 ≤ m ∧ m ≤ 65535) : Fn1 Try.prog [] 7 [.lst 1 (ms.map (encI .u16))] (.raw (.bool true)) [] := by
  refine holds_bnd (enters_of Try.func7 rfl rfl) fun hb _ => ?_
  have hlen : ms.length ≤ 9223372036854775807 := by
    have := (hb _ (List.mem_cons_self ..)).len
    simpa [maxLen] using this
  clear hb
  have c9 := awake9
  have c0 := new10
  simp only [encL] at c0
  refine holds_of Try.func7 rfl rfl ?_
  refine J_run 100 ?_
  delta Try.f7
  repeat' (first
    | (simp (disch := omega) only [go_sem])
    | (with_reducible refine condW_dec (fun h150 => ?_) (fun h150 => ?_))
    | ((with_reducible refine CallA.pure c9 ?_ ?_); (· simp only [go_sem]); rintro _ _ ⟨rfl, rfl⟩)
    | ((with_reducible refine CallA.pure c0 ?_ ?_); (· simp only [go_sem]); rintro _ _ ⟨rfl, rfl⟩)
    | (with_reducible refine J_seq ?_)
    | (refine J_reg (id := 1) 100 ?_))
  · refine .now ?_
    simp only [go_sem]
  refine J_for (upto 28 105 ++ upto 6 15) (fun x : Nat × Ln => [(27, .raw (.int .i64 x.1)), (4, .raw (.int .i64 (x.2.expected - 1)))]) (fun x => [.box (encL x.2)]) (fun x => x.1 ≤ ms.length ∧ x.2.ok ∧ x.2.expected ≤ 1 + x.1) (fun x => ms.length - x.1) (0, Ln.new) ⟨by omega, new_ok, by decide⟩ (.le (by simp [go_sem, encL]; decide) (by simp)) ?_
  rintro ⟨i, l⟩ ⟨hi, hok, hex⟩
  simp only at hi hok hex
  have hl1 := hok.n1; have hl2 := hok.ne
  by_cases hlt : i < ms.length
  · have hm := hms ms[i] (List.getElem_mem hlt)
    have c18 := turn18 l (ok_fit hok (by omega)) (ok_short hok) (ms[i].tmod 8) ((ms[i].tdiv 8).tmod 5) (at_in hm (.inr rfl)) ⟨#[109]⟩
    have hsh := step_short hok (by omega) (ms[i].tmod 8) ((ms[i].tdiv 8).tmod 5) ⟨#[109]⟩
    have c16 := same16 _ _ hsh hsh
    have hst := step_ok hok (by omega) (m := ms[i].tmod 8) (i := (ms[i].tdiv 8).tmod 5) (s := ⟨#[109]⟩)
    have hpo := step_pop hok (by omega) (m := ms[i].tmod 8) (i := (ms[i].tdiv 8).tmod 5) (s := ⟨#[109]⟩)
    have e1 := u16_mv hm
    have e2 := u16_at hm
    simp only [encT, encL] at c18
    generalize l.step (ms[i].tmod 8) ((ms[i].tdiv 8).tmod 5) ⟨#[109]⟩ = r at *
    obtain ⟨x, a, fr, er⟩ := r
    simp only [decide_true, encL] at c16 c18 hst hpo
    simp only [encL]
    refine J_run 100 ?_
    repeat' (first
      | (simp (disch := omega) only [go_sem, getD_map, encI, e1, e2])
      | ((with_reducible refine CallA.pure c18 ?_ ?_); (· simp only [go_sem]); rintro _ _ ⟨rfl, rfl⟩)
      | ((with_reducible refine CallA.pure c16 ?_ ?_); (· simp only [go_sem]); rintro _ _ ⟨rfl, rfl⟩)
      | (with_reducible refine J_seq ?_)
      | (refine J_reg (id := 10) 100 ?_))
    refine condW_ndec (fun he => ?_) (fun he => ?_)
    · simp (disch := omega) only [go_sem]
      exact .mk (i + 1, l) ⟨hlt, hok, by show l.expected ≤ 1 + ((i + 1 : Nat) : Int); omega⟩ (by simp only; omega) (by simp [go_sem, encL]) (by simp)
    obtain ⟨hx, hxe⟩ := hst he
    have hpo := hpo he
    have hx1 := hx.ne; have hx2 := hx.en; have hx3 := hx.n1
    have ht8 : 0 ≤ ms[i].tmod 8 ∧ ms[i].tmod 8 ≤ 7 := by
      rw [Int.tmod_eq_emod_of_nonneg hm.1]; omega
    have hpo2 : x.waiting.length < l.waiting.length → ms[i].tmod 8 = 7 ∧ x.next = l.next + 1 := fun h => by
      have := hpo h
      omega
    clear hpo hst c16
    simp (disch := omega) only [go_sem]
    have hxl : x.expected ≤ 1 + ((i + 1 : Nat) : Int) := by rw [hxe]; split <;> omega
    refine condW_by (fun hfr => ?_) (fun hfr => ?_)
    all_goals
      have hxe' := hxe
      simp only [hfr, if_true, if_false, Bool.false_eq_true] at hxe'
      by_cases hl2 : x.waiting.length < l.waiting.length
    all_goals
      clear hxe
      repeat' (first
        | (exfalso; omega)
        | (simp (disch := omega) only [go_sem])
        | (with_reducible refine guardW_dect (fun h => ?_) (fun h => ?_))
        | (with_reducible refine guardW_decf (fun h => ?_) (fun h => ?_))
        | (with_reducible refine guardW_ndect (fun h => ?_) (fun h => ?_))
        | (with_reducible refine guardW_ndecf (fun h => ?_) (fun h => ?_))
        | (with_reducible refine condW_dec (fun h => ?_) (fun h => ?_))
        | (with_reducible refine condW_ndec (fun h => ?_) (fun h => ?_))
        | (with_reducible refine J_seq ?_)
        | (refine J_reg (id := 15) 100 ?_)
        | (refine J_reg (id := 18) 100 ?_))
    all_goals exact .mk (i + 1, x) ⟨hlt, hx, hxl⟩ (by simp only; omega) (by simp [go_sem, encL]; omega) (by simp)
  · simp only [encL]
    refine J_run 100 ?_
    simp (disch := omega) only [go_sem]
    refine J_run 100 ?_
    simp (disch := omega) only [go_sem]
    refine .now ?_
    simp only [go_sem]
end Go.Proofs.Ytfkfehlnjcbcbaa.Abs
