/- LineAny: what the program's code computes. -/
import Derived.Test.YtfkfehlnjcbcbaaLV
import Derived.Test.YtfkfehlnjcbcbaaLQ
import Derived.Test.YtfkfehlnjcbcbaaAbsN
namespace Go.Proofs.Ytfkfehlnjcbcbaa.Abs
set_option linter.unusedSimpArgs false
set_option linter.unusedVariables false
open Go Go.RowKit

theorem ok_fit {l : Ln} (h : l.ok) (hb : l.expected ≤ 1000000) : l.fit := by
  have h1 := h.n1; have h2 := h.ne
  exact ⟨⟨by omega, by omega⟩, ⟨by omega, by omega⟩⟩
theorem ok_short {l : Ln} (h : l.ok) : l.short := by
  have h1 := h.w; have h2 := h.t; have h3 := h.b
  exact ⟨by omega, by omega, by omega⟩

/-- How the laws read a move off a number. -/
theorem u16_mv {m : Int} (h : 0 ≤ m ∧ m ≤ 65535) : IntKind.i64.wrap m = m := wrap_in (by omega) (by omega)
theorem u16_at {m : Int} (h : 0 ≤ m ∧ m ≤ 65535) : IntKind.i64.wrap (IntKind.u16.wrap (m.tdiv 8)) = m.tdiv 8 := by
  have h1 : m.tdiv 8 = m / 8 := Int.tdiv_eq_ediv_of_nonneg h.1
  have h2 : IntKind.u16.wrap (m / 8) = m / 8 := by
    have : IntKind.u16.wrap (m / 8) = (m / 8) % 65536 := by simp [IntKind.wrap, IntKind.bits, IntKind.signed]
    omega
  rw [h1, h2]
  exact wrap_in (by omega) (by omega)
theorem at_in {m : Int} (h : 0 ≤ m ∧ m ≤ 65535) {d : Int} (hd : d = 4 ∨ d = 5) : inI ((m.tdiv 8).tmod d) := by
  have h1 : m.tdiv 8 = m / 8 := Int.tdiv_eq_ediv_of_nonneg h.1
  have h2 : (m / 8).tmod d = (m / 8) % d := Int.tmod_eq_emod_of_nonneg (by omega)
  rw [h1, h2]
  rcases hd with rfl | rfl <;> exact ⟨by omega, by omega⟩

set_option maxRecDepth 100000 in
set_option maxHeartbeats 4000000 in
theorem any8 (ms : List Int) (hms : ∀ m, m ∈ ms → 0 ≤ m ∧ m ≤ 65535) : Fn1 Try.prog [] 8 [.lst 1 (ms.map (encI .u16))] (.raw (.bool true)) [] := by
  refine holds_bnd (enters_of Try.func8 rfl rfl) fun hb _ => ?_
  have hlen : ms.length ≤ 9223372036854775807 := by
    have := (hb _ (List.mem_cons_self ..)).len
    simpa [maxLen] using this
  clear hb
  have c9 := awake9
  have c0 := new15
  simp only [encL] at c0
  refine holds_of Try.func8 rfl rfl ?_
  refine J_run 100 ?_
  delta Try.f8
  repeat' (first
    | (simp (disch := omega) only [go_sem])
    | (with_reducible refine condW_dec (fun h150 => ?_) (fun h150 => ?_))
    | ((with_reducible refine CallA.pure c9 ?_ ?_); (· simp only [go_sem]); rintro _ _ ⟨rfl, rfl⟩)
    | ((with_reducible refine CallA.pure c0 ?_ ?_); (· simp only [go_sem]); rintro _ _ ⟨rfl, rfl⟩)
    | (with_reducible refine J_seq ?_)
    | (refine J_reg (id := 1) 100 ?_))
  · refine .now ?_
    simp only [go_sem]
  refine J_for (upto 34 54 ++ upto 5 13) (fun x : Nat × Ln => [(33, .raw (.int .i64 x.1))]) (fun x => [.box (encL x.2)]) (fun x => x.1 ≤ ms.length ∧ x.2.ok ∧ x.2.expected ≤ 1 + x.1) (fun x => ms.length - x.1) (0, Ln.new) ⟨by omega, new_ok, by decide⟩ (.le (by simp [go_sem, encL]) (by simp)) ?_
  rintro ⟨i, l⟩ ⟨hi, hok, hex⟩
  simp only at hi hok hex
  by_cases hlt : i < ms.length
  · have hm := hms ms[i] (List.getElem_mem hlt)
    have c18 := turn18 l (ok_fit hok (by omega)) (ok_short hok) (ms[i].tmod 8) ((ms[i].tdiv 8).tmod 5) (at_in hm (.inr rfl)) ⟨#[109]⟩
    have e1 := u16_mv hm
    have e2 := u16_at hm
    simp only [encT, encL] at c18
    simp only [encL]
    refine J_run 100 ?_
    simp (disch := omega) only [go_sem, getD_map, encI, e1, e2]
    refine CallA.pure c18 ?_ ?_
    · simp only [go_sem]
    rintro _ _ ⟨rfl, rfl⟩
    clear c18
    simp (disch := omega) only [go_sem]
    refine condW_dec (fun hf => ?_) (fun hf => ?_)
    · obtain ⟨h1, h2⟩ := step_ok hok (by omega) hf
      have h3 : (l.step (ms[i].tmod 8) ((ms[i].tdiv 8).tmod 5) ⟨#[109]⟩).1.expected ≤ 1 + ((i + 1 : Nat) : Int) := by
        rw [h2]; split <;> omega
      simp (disch := omega) only [go_sem]
      exact .mk (i + 1, (l.step (ms[i].tmod 8) ((ms[i].tdiv 8).tmod 5) ⟨#[109]⟩).1) ⟨hlt, h1, h3⟩ (by simp only; omega) (by simp [go_sem, encL]) (by simp)
    · simp (disch := omega) only [go_sem]
      exact .mk (i + 1, l) ⟨hlt, hok, by show l.expected ≤ 1 + ((i + 1 : Nat) : Int); omega⟩ (by simp only; omega) (by simp [go_sem, encL]) (by simp)
  have hi' : i = ms.length := by omega
  subst hi'
  simp only [encL]
  refine J_run 100 ?_
  simp (disch := omega) only [go_sem]
  refine J_run 100 ?_
  simp (disch := omega) only [go_sem]
  refine J_for (upto 61 92 ++ upto 16 21) (fun x : Nat × Ln => [(15, .raw (.int .i64 x.1))]) (fun x => [.box (encL x.2)]) (fun x => x.2.ok ∧ x.2.expected = l.expected + x.1 ∧ x.2.next = l.next) (fun x => x.2.there.length) (0, l) ⟨hok, by simp, rfl⟩ (.le (by simp [go_sem, encL]) (by simp)) ?_
  rintro ⟨fr, k⟩ ⟨hk, hke, hkn⟩
  simp only at hk hke hkn
  have hk1 := hk.ne; have hk2 := hk.en; have hk3 := hok.ne; have hk4 := hok.en; have hk5 := hok.n1
  have hkt := hk.t
  have hfr : fr ≤ 1 := by omega
  by_cases ht : 0 < k.there.length
  · have hq : IntKind.i64.wrap (((k.there.length : Nat) : Int).tdiv 2) = ((k.there.length / 2 : Nat) : Int) := by
      have h1 : ((k.there.length : Nat) : Int).tdiv 2 = ((k.there.length / 2 : Nat) : Int) := by
        rw [Int.tdiv_eq_ediv_of_nonneg (by omega)]; omega
      rw [h1]; exact wrap_in (by omega) (by omega)
    have hlt2 : k.there.length / 2 < k.there.length := by omega
    have he2 := deliver_err hk (i := ((k.there.length / 2 : Nat) : Int)) (by omega) (by omega)
    obtain ⟨p, hp, hm, hlt3, h1, h2⟩ := deliver_ok hk (by omega) he2
    have hpp : k.there[k.there.length / 2] = p := by rw [hp, Int.toNat_natCast]; exact (getD_at hlt2).symm
    have c20 := deliver20 k (ok_fit hk (by omega)) (ok_short hk) ((k.there.length / 2 : Nat) : Int) ⟨by omega, by omega⟩
    rw [h1] at c20
    simp only [encD, encL] at c20
    have hde := dlv_exp (l := k) (p := p) (k := ((k.there.length / 2 : Nat) : Int).toNat)
    have hdl : (k.dlv p ((k.there.length / 2 : Nat) : Int).toNat).there.length < k.there.length := by
      show (k.there.eraseIdx _).length < _
      rw [List.length_eraseIdx_of_lt hlt3]; omega
    have hdn : (k.dlv p ((k.there.length / 2 : Nat) : Int).toNat).next = k.next := rfl
    generalize k.dlv p ((k.there.length / 2 : Nat) : Int).toNat = x at *
    simp only [encL]
    refine J_run 100 ?_
    repeat' (first
      | (simp (disch := omega) only [go_sem, getD_map, encP, hq, hpp])
      | ((with_reducible refine CallA.pure c20 ?_ ?_); (· simp only [go_sem]); rintro _ _ ⟨rfl, rfl⟩)
      | (with_reducible refine J_seq ?_)
      | (refine J_reg (id := 17) 100 ?_))
    refine condW_dec (fun hf => ?_) (fun hf => ?_)
    · rw [if_pos hf] at hde
      simp (disch := omega) only [go_sem]
      exact .mk (fr + 1, x) ⟨h2, by show x.expected = l.expected + ((fr + 1 : Nat) : Int); omega, by show x.next = l.next; omega⟩ hdl (by simp [go_sem, encL]) (by simp)
    · rw [if_neg hf] at hde
      simp (disch := omega) only [go_sem]
      exact .mk (fr, x) ⟨h2, by show x.expected = l.expected + ((fr : Nat) : Int); omega, by show x.next = l.next; omega⟩ hdl (by simp [go_sem, encL]) (by simp)
  · simp only [encL]
    refine J_run 100 ?_
    simp (disch := omega) only [go_sem]
    refine J_run 100 ?_
    repeat' (first
      | (simp (disch := omega) only [go_sem])
      | (with_reducible refine guardW_dect (fun h => ?_) (fun h => ?_))
      | (with_reducible refine J_seq ?_)
      | (refine J_reg (id := 22) 100 ?_)
      | (with_reducible refine FinQ.now ?_))
end Go.Proofs.Ytfkfehlnjcbcbaa.Abs
