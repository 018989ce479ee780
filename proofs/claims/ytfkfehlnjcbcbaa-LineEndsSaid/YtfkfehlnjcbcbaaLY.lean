/- LineEnds: what the program's code computes. -/
import Derived.Test.YtfkfehlnjcbcbaaLX
namespace Go.Proofs.Ytfkfehlnjcbcbaa.Abs
set_option linter.unusedSimpArgs false
set_option linter.unusedVariables false
open Go Go.RowKit

set_option maxRecDepth 100000 in
set_option maxHeartbeats 4000000 in
theorem ends6 (ms : List Int) (hms : ∀ m, m ∈ ms → 0 ≤ m ∧ m ≤ 65535) : Fn1 Try.prog [] 6 [.lst 1 (ms.map (encI .u16))] (.raw (.bool true)) [] := by
  refine holds_bnd (enters_of Try.func6 rfl rfl) fun hb _ => ?_
  have hlen : ms.length ≤ 9223372036854775807 := by
    have := (hb _ (List.mem_cons_self ..)).len
    simpa [maxLen] using this
  clear hb
  have c9 := awake9
  have c0 := new15
  simp only [encL] at c0
  refine holds_of Try.func6 rfl rfl ?_
  refine J_run 100 ?_
  delta Try.f6
  repeat' (first
    | (simp (disch := omega) only [go_sem])
    | (with_reducible refine condW_dec (fun h150 => ?_) (fun h150 => ?_))
    | ((with_reducible refine CallA.pure c9 ?_ ?_); (· simp only [go_sem]); rintro _ _ ⟨rfl, rfl⟩)
    | ((with_reducible refine CallA.pure c0 ?_ ?_); (· simp only [go_sem]); rintro _ _ ⟨rfl, rfl⟩)
    | (with_reducible refine J_seq ?_)
    | (refine J_reg (id := 1) 100 ?_))
  · refine .now ?_
    simp only [go_sem]
  refine J_for (upto 33 71 ++ upto 7 15) (fun x : Nat × Ln => [(32, .raw (.int .i64 x.1)), (4, .raw (.int .i64 (x.2.next - 1 + x.2.waiting.length))), (5, .raw (.int .i64 (x.2.expected - 1)))]) (fun x => [.box (encL x.2)]) (fun x => x.1 ≤ ms.length ∧ x.2.ok ∧ x.2.expected ≤ 1 + x.1) (fun x => ms.length - x.1) (0, Ln.new) ⟨by omega, new_ok, by decide⟩ (.le (by simp [go_sem, encL]; decide) (by simp)) ?_
  rintro ⟨i, l⟩ ⟨hi, hok, hex⟩
  simp only at hi hok hex
  have hl1 := hok.n1; have hl2 := hok.ne; have hl3 := hok.w
  by_cases hlt : i < ms.length
  · have hm := hms ms[i] (List.getElem_mem hlt)
    have c18 := turn18 l (ok_fit hok (by omega)) (ok_short hok) (ms[i].tmod 8) ((ms[i].tdiv 8).tmod 5) (at_in hm (.inr rfl)) ⟨#[109]⟩
    have hsh := step_short hok (by omega) (ms[i].tmod 8) ((ms[i].tdiv 8).tmod 5) ⟨#[109]⟩
    have c16 := same16 _ _ hsh hsh
    have hst := step_ok hok (by omega) (m := ms[i].tmod 8) (i := (ms[i].tdiv 8).tmod 5) (s := ⟨#[109]⟩)
    have hco := step_count hok (by omega) (m := ms[i].tmod 8) (i := (ms[i].tdiv 8).tmod 5) (s := ⟨#[109]⟩)
    have e1 := u16_mv hm
    have e2 := u16_at hm
    simp only [encT, encL] at c18
    generalize l.step (ms[i].tmod 8) ((ms[i].tdiv 8).tmod 5) ⟨#[109]⟩ = r at *
    obtain ⟨x, a, fr, er⟩ := r
    simp only [decide_true, encL] at c16 c18 hst hco
    simp only [encL]
    refine J_run 100 ?_
    repeat' (first
      | (simp (disch := omega) only [go_sem, getD_map, encI, e1, e2])
      | ((with_reducible refine CallA.pure c18 ?_ ?_); (· simp only [go_sem]); rintro _ _ ⟨rfl, rfl⟩)
      | ((with_reducible refine CallA.pure c16 ?_ ?_); (· simp only [go_sem]); rintro _ _ ⟨rfl, rfl⟩)
      | (with_reducible refine guardW_ndecf (fun h => ?_) (fun h => ?_))
      | (with_reducible refine J_seq ?_)
      | (refine J_reg (id := 9) 100 ?_))
    rotate_left
    · exact .mk (i + 1, l) ⟨hlt, hok, by show l.expected ≤ 1 + ((i + 1 : Nat) : Int); omega⟩ (by simp only; omega) (by simp [go_sem, encL]) (by simp)
    obtain ⟨hx, hxe⟩ := hst h
    have hco := hco h
    have hx1 := hx.ne; have hx2 := hx.en; have hx3 := hx.n1; have hx4 := hx.w
    clear hst c16
    have hxl : x.expected ≤ 1 + ((i + 1 : Nat) : Int) := by rw [hxe]; split <;> omega
    refine condW_dec (fun h0 => ?_) (fun h0 => ?_)
    all_goals
      simp only [h0, if_true, if_false] at hco
      simp (disch := omega) only [go_sem]
      refine condW_by (fun hfr => ?_) (fun hfr => ?_)
    all_goals
      have hxe' := hxe
      simp only [hfr, if_true, if_false, Bool.false_eq_true] at hxe'
      simp (disch := omega) only [go_sem]
      refine .mk (i + 1, x) ⟨hlt, hx, hxl⟩ (by simp only; omega) (by simp [go_sem, encL]; omega) (by simp)
  have hi' : i = ms.length := by omega
  subst hi'
  simp only [encL]
  refine J_run 100 ?_
  simp (disch := omega) only [go_sem]
  refine J_run 100 ?_
  simp (disch := omega) only [go_sem]
  refine J_for (upto 72 129 ++ upto 17 20) (fun x : Nat × Ln => [(16, .raw (.int .i64 x.1)), (5, .raw (.int .i64 (x.2.expected - 1)))]) (fun x => [.box (encL x.2)]) (fun x => x.2.ok ∧ x.2.next + x.2.waiting.length = l.next + l.waiting.length ∧ x.2.mu + x.1 ≤ 160) (fun x => 400 - x.1) (0, l) ⟨hok, rfl, by have := mu_le hok; simpa using this⟩ (.le (by simp [go_sem, encL]) (by simp)) ?_
  rintro ⟨k, y⟩ ⟨hy, hyn, hmu⟩
  simp only at hy hyn hmu
  have hmp := mu_pos hy
  have hy1 := hy.n1; have hy2 := hy.ne; have hy3 := hy.en; have hy4 := hy.w; have hy5 := hy.t; have hy6 := hy.b
  by_cases hw : y.waiting = []
  · have hd := done_eq hy hw
    have hwl : y.waiting.length = 0 := by rw [hw]; rfl
    simp only [encL]
    refine J_run 100 ?_
    repeat' (first
      | (exfalso; omega)
      | (simp (disch := omega) only [go_sem])
      | (with_reducible refine guardW_dect (fun h => ?_) (fun h => ?_))
      | (with_reducible refine condW_dec (fun h => ?_) (fun h => ?_))
      | (with_reducible refine J_seq ?_)
      | (refine J_reg (id := 17) 100 ?_)
      | (refine J_reg (id := 29) 100 ?_)
      | (with_reducible refine FinQ.now ?_))
  have hwl := List.length_pos_iff.2 hw
  by_cases hb : y.back = []
  · have hbl : y.back.length = 0 := by rw [hb]; rfl
    by_cases ht : y.there = []
    · have htl : y.there.length = 0 := by rw [ht]; rfl
      obtain ⟨u, z, a, fr, s1, s2, s3, s4, h1, h2, h3, h4, h5⟩ := mu_send hy (by omega) hb ht hw
      have hul := List.length_pos_iff.2 s4
      have hut := s2.t
      have c12 := send12 y (ok_fit hy (by omega))
      have c20 := deliver20 u (ok_fit s2 (by omega)) (ok_short s2) ((u.there.length : Int) - 1) ⟨by omega, by omega⟩
      rw [s1] at c12
      rw [h1] at c20
      simp only [encR, encD, encL] at c12 c20
      simp only [encL]
      refine J_run 100 ?_
      repeat' (first
        | (exfalso; omega)
        | (simp (disch := omega) only [go_sem])
        | ((with_reducible refine CallA.pure c12 ?_ ?_); (· simp only [go_sem]); rintro _ _ ⟨rfl, rfl⟩)
        | ((with_reducible refine CallA.pure c20 ?_ ?_); (· simp only [go_sem]); rintro _ _ ⟨rfl, rfl⟩)
        | (with_reducible refine guardW_dect (fun h => ?_) (fun h => ?_))
        | (with_reducible refine condW_dec (fun h => ?_) (fun h => ?_))
        | (with_reducible refine condW_by (fun hfr => ?_) (fun hfr => ?_))
        | (with_reducible refine J_seq ?_)
        | (refine J_reg (id := 17) 100 ?_))
      all_goals
        simp only [hfr, if_true, if_false, Bool.false_eq_true] at h4
        exact .mk (k + 1, z) ⟨h2, by show z.next + z.waiting.length = _; omega, by show z.mu + ((k + 1 : Nat) : Int) ≤ 160; omega⟩ (by simp only; omega) (by simp [go_sem, encL]; omega) (by simp)
    · have htl := List.length_pos_iff.2 ht
      obtain ⟨z, a, fr, h1, h2, h3, h4, h5⟩ := mu_deliver hy (by omega) hb ht
      have c20 := deliver20 y (ok_fit hy (by omega)) (ok_short hy) ((y.there.length : Int) - 1) ⟨by omega, by omega⟩
      rw [h1] at c20
      simp only [encD, encL] at c20
      simp only [encL]
      refine J_run 100 ?_
      repeat' (first
        | (exfalso; omega)
        | (simp (disch := omega) only [go_sem])
        | ((with_reducible refine CallA.pure c20 ?_ ?_); (· simp only [go_sem]); rintro _ _ ⟨rfl, rfl⟩)
        | (with_reducible refine guardW_dect (fun h => ?_) (fun h => ?_))
        | (with_reducible refine condW_dec (fun h => ?_) (fun h => ?_))
        | (with_reducible refine condW_by (fun hfr => ?_) (fun hfr => ?_))
        | (with_reducible refine J_seq ?_)
        | (refine J_reg (id := 17) 100 ?_))
      all_goals
        simp only [hfr, if_true, if_false, Bool.false_eq_true] at h4
        exact .mk (k + 1, z) ⟨h2, by show z.next + z.waiting.length = _; omega, by show z.mu + ((k + 1 : Nat) : Int) ≤ 160; omega⟩ (by simp only; omega) (by simp [go_sem, encL]; omega) (by simp)
  · have hbl := List.length_pos_iff.2 hb
    obtain ⟨z, h1, h2, h3, h4, h5⟩ := mu_back hy (by omega) hb
    have c22 := back22 y (ok_fit hy (by omega)) (ok_short hy) ((y.back.length : Int) - 1) ⟨by omega, by omega⟩
    rw [h1] at c22
    simp only [encR, encL] at c22
    simp only [encL]
    refine J_run 100 ?_
    repeat' (first
      | (exfalso; omega)
      | (simp (disch := omega) only [go_sem])
      | ((with_reducible refine CallA.pure c22 ?_ ?_); (· simp only [go_sem]); rintro _ _ ⟨rfl, rfl⟩)
      | (with_reducible refine guardW_dect (fun h => ?_) (fun h => ?_))
      | (with_reducible refine condW_dec (fun h => ?_) (fun h => ?_))
      | (with_reducible refine J_seq ?_)
      | (refine J_reg (id := 17) 100 ?_))
    exact .mk (k + 1, z) ⟨h2, by show z.next + z.waiting.length = _; omega, by show z.mu + ((k + 1 : Nat) : Int) ≤ 160; omega⟩ (by simp only; omega) (by simp [go_sem, encL, h4]) (by simp)
end Go.Proofs.Ytfkfehlnjcbcbaa.Abs
