/- LineOnce: what the program's code computes. -/
import Derived.Test.YtfkfehlnjcbcbaaLX
import Derived.Test.YtfkfehlnjcbcbaaLU
namespace Go.Proofs.Ytfkfehlnjcbcbaa.Abs
set_option linter.unusedSimpArgs false
set_option linter.unusedVariables false
open Go Go.RowKit

theorem W_zero {P : Program} {GT : Ctx} {s : St} {k : List Item} {Q : Exit → St → Prop} : W P GT Q 0 (.code k) s = J P GT k s Q := by simp only [W, Job.sem]

/-- What was offered and what arrived, behind a move. -/
def onO (o : List ByteArray) (m : Int) (s : ByteArray) (e : Int) : List ByteArray := if m = 0 ∧ e = 0 then o ++ [s] else o
def onF (f : List ByteArray) (r : Ln × ByteArray × Bool × Int) : List ByteArray := if r.2.2.2 = 0 ∧ r.2.2.1 = true then f ++ [r.2.1] else f
theorem onc_step {o f : List ByteArray} {l : Ln} (h : Onc o f l) (hb : l.expected < 4611686018427387904) {m i : Int} {s : ByteArray} (e : (l.step m i s).2.2.2 = 0) :
    Onc (onO o m s (l.step m i s).2.2.2) (onF f (l.step m i s)) (l.step m i s).1 := by
  rcases step_cases l m i s with ⟨hm, es⟩ | ⟨hm, es⟩ | ⟨hm, es⟩ | ⟨hm, es⟩ | ⟨hm, es⟩ | ⟨hm, es⟩ | ⟨hm, es⟩ <;> rw [es] at e ⊢ <;> (try simp only at e) <;> simp only [onO, onF, e, Bool.false_eq_true, and_false, and_true, true_and, if_false]
  · rw [if_pos hm]; exact onc_offer h e
  · rw [if_neg (show ¬ m = 0 by omega)]; exact onc_send h e
  · rw [if_neg (show ¬ m = 0 by omega)]; exact onc_lose h e
  · rw [if_neg (show ¬ m = 0 by omega)]; exact onc_repeat h e
  · rw [if_neg (show ¬ m = 0 by omega)]; exact onc_deliver h hb e
  · rw [if_neg (show ¬ m = 0 by omega)]; exact onc_loseBack h e
  · rw [if_neg (show ¬ m = 0 by omega)]; exact onc_backs h hb e

set_option maxRecDepth 100000 in
set_option maxHeartbeats 8000000 in
theorem once5 (ms : List Int) (hms : ∀ m, m ∈ ms → 0 ≤ m ∧ m ≤ 65535) : Fn1 Try.prog [] 5 [.lst 1 (ms.map (encI .u16))] (.raw (.bool true)) [] := by
  refine holds_bnd (enters_of Try.func5 rfl rfl) fun hb _ => ?_
  have hlen : ms.length ≤ 9223372036854775807 := by
    have := (hb _ (List.mem_cons_self ..)).len
    simpa [maxLen] using this
  clear hb
  have c9 := awake9
  have c0 := new10
  simp only [encL] at c0
  refine holds_of Try.func5 rfl rfl ?_
  refine J_run 100 ?_
  delta Try.f5
  repeat' (first
    | (simp (disch := omega) only [go_sem])
    | (with_reducible refine condW_dec (fun h300 => ?_) (fun h300 => ?_))
    | ((with_reducible refine CallA.pure c9 ?_ ?_); (· simp only [go_sem]); rintro _ _ ⟨rfl, rfl⟩)
    | ((with_reducible refine CallA.pure c0 ?_ ?_); (· simp only [go_sem]); rintro _ _ ⟨rfl, rfl⟩)
    | (with_reducible refine J_seq ?_)
    | (refine J_reg (id := 1) 100 ?_))
  · refine .now ?_
    simp only [go_sem]
  refine J_nilName 4 1 (by simp only [go_sem]) ?_
  simp only [go_sem, St.nilName]
  refine J_nilName 5 1 (by simp only [go_sem]) ?_
  simp only [go_sem, St.nilName]
  refine J_for (upto 29 154 ++ upto 6 15) (fun x : Nat × Ln × List ByteArray × List ByteArray => [(28, .raw (.int .i64 x.1)), (4, .own 1 1 0 x.2.2.1.length), (5, .own 2 1 0 x.2.2.2.length)]) (fun x => [.box (encL x.2.1), .arr 1 (x.2.2.1.map encS), .arr 1 (x.2.2.2.map encS)]) (fun x => x.1 ≤ ms.length ∧ Onc x.2.2.1 x.2.2.2 x.2.1 ∧ x.2.1.expected ≤ 1 + x.1 ∧ x.2.2.1.length ≤ x.1) (fun x => ms.length - x.1) (0, Ln.new, [], []) ⟨by omega, onc_new, by decide, by simp⟩ (.le (by simp [go_sem, encL]) (by simp)) ?_
  rintro ⟨i, l, o, f⟩ ⟨hi, hon, hex, hol⟩
  simp only at hi hon hex hol
  have hok := hon.ok
  have hl1 := hok.n1; have hl2 := hok.ne; have hl3 := hok.w; have hl4 := hok.t; have hl5 := hok.b
  have hofl := (onc_len hon).1
  by_cases hlt : i < ms.length
  · have hm := hms ms[i] (List.getElem_mem hlt)
    have e1 := u16_mv hm
    have e2 := u16_at hm
    have hfit := ok_fit hok (by omega)
    have hsho := ok_short hok
    have hat := at_in hm (d := 5) (.inr rfl)
    simp only [encL]
    refine J_run 52 ?_
    simp (maxSteps := 1000000) (disch := omega) only [go_sem, getD_map, encI, e1, e2, W_zero]
    generalize strOfNums [IntKind.u8.wrap (IntKind.i64.wrap (97 + (i : Int).tmod 26)), IntKind.u8.wrap (IntKind.i64.wrap (97 + IntKind.i64.wrap ((i : Int).tdiv 26)))] = s
    generalize (ms[i].tdiv 8).tmod 5 = at_ at hat
    generalize ms[i].tmod 8 = mv
    have hst := fun e => onc_step hon (by omega : l.expected < 4611686018427387904) (m := mv) (i := at_) (s := s) e
    have hso := fun e => step_ok hok (by omega : l.expected < 4611686018427387904) (m := mv) (i := at_) (s := s) e
    have c11 := offer11 l hfit s
    have c12 := send12 l hfit
    have c19 := lose19 l hfit (by omega) at_ hat
    have c13 := repeat13 l hfit hsho at_ hat
    have c20 := deliver20 l hfit hsho at_ hat
    have c21 := loseBack21 l hfit hsho at_ hat
    have c22 := back22 l hfit hsho at_ hat
    simp only [encL, encR, encD] at c11 c12 c19 c13 c20 c21 c22
    refine J_merge (upto 29 122 ++ upto 12 15) [(4, .own 1 1 0 (onO o mv s (l.step mv at_ s).2.2.2).length), (5, .own 2 1 0 (onF f (l.step mv at_ s)).length), (11, .raw (.int .i64 (l.step mv at_ s).2.2.2))]
      [.box (encL l), .arr 1 ((onO o mv s (l.step mv at_ s).2.2.2).map encS), .arr 1 ((onF f (l.step mv at_ s)).map encS), .dead, .box (encL (l.step mv at_ s).1)] ?_ ?_
    · refine J_run 200 ?_
      repeat' (first
        | (simp (maxSteps := 1000000) (disch := omega) only [go_sem])
        | (with_reducible refine condW_dec (fun h => ?_) (fun h => ?_))
        | ((with_reducible refine CallA.pure c11 ?_ ?_); (· simp only [go_sem]); rintro _ _ ⟨rfl, rfl⟩)
        | ((with_reducible refine CallA.pure c12 ?_ ?_); (· simp only [go_sem]); rintro _ _ ⟨rfl, rfl⟩)
        | ((with_reducible refine CallA.pure c19 ?_ ?_); (· simp only [go_sem]); rintro _ _ ⟨rfl, rfl⟩)
        | ((with_reducible refine CallA.pure c13 ?_ ?_); (· simp only [go_sem]); rintro _ _ ⟨rfl, rfl⟩)
        | ((with_reducible refine CallA.pure c20 ?_ ?_); (· simp only [go_sem]); rintro _ _ ⟨rfl, rfl⟩)
        | ((with_reducible refine CallA.pure c21 ?_ ?_); (· simp only [go_sem]); rintro _ _ ⟨rfl, rfl⟩)
        | ((with_reducible refine CallA.pure c22 ?_ ?_); (· simp only [go_sem]); rintro _ _ ⟨rfl, rfl⟩)
        | (with_reducible refine guardW_dect (fun h => ?_) (fun h => ?_))
        | (with_reducible refine condW_by (fun h => ?_) (fun h => ?_))
        | (with_reducible refine J_seq ?_)
        | (refine J_reg (id := 27) 200 ?_)
        | (with_reducible refine SemLe.le ?_ ?_))
      all_goals clear c11 c12 c19 c13 c20 c21 c22 hst hso hfit hsho hat e1 e2 hm c9 c0
      all_goals simp_all [Ln.step, onO, onF, encL, encS, go_sem]
    clear c11 c12 c19 c13 c20 c21 c22 c9 c0 e1 e2
    have hoo : (onO o mv s (l.step mv at_ s).2.2.2).length ≤ i + 1 := by unfold onO; split <;> (try simp) <;> omega
    have hne : (l.step mv at_ s).2.2.2 ≠ 0 → onO o mv s (l.step mv at_ s).2.2.2 = o ∧ onF f (l.step mv at_ s) = f := fun h => by simp [onO, onF, h]
    generalize onF f (l.step mv at_ s) = f' at *
    generalize hO : onO o mv s (l.step mv at_ s).2.2.2 = o' at *
    clear hO
    generalize l.step mv at_ s = r at *
    obtain ⟨x, a, fr, er⟩ := r
    simp only at hst hso hne
    simp only [encL]
    refine J_run 200 ?_
    simp (maxSteps := 1000000) (disch := omega) only [go_sem]
    refine condW_dec (fun he => ?_) (fun he => ?_)
    · have hx := hst he
      obtain ⟨hxo, hxe⟩ := hso he
      obtain ⟨n1, n2, n3⟩ := onc_len hx
      have hx1 := hxo.n1; have hx2 := hxo.ne; have hx3 := hxo.w
      have hxl : x.expected ≤ 1 + ((i + 1 : Nat) : Int) := by rw [hxe]; split <;> omega
      clear hst hso hne
      repeat' (first
        | (exfalso; omega)
        | (simp (maxSteps := 1000000) (disch := omega) only [go_sem])
        | (with_reducible refine guardW_dect (fun h => ?_) (fun h => ?_))
        | (with_reducible refine guardW_decf (fun h => ?_) (fun h => ?_))
        | (with_reducible refine condW_dec (fun h => ?_) (fun h => ?_))
        | (with_reducible refine J_seq ?_)
        | (refine J_reg (id := 33) 200 ?_))
      all_goals exact .mk (i + 1, x, o', f') ⟨hlt, hx, hxl, hoo⟩ (by simp only; omega) (by simp [go_sem, encL]) (by simp)
    · obtain ⟨rfl, rfl⟩ := hne he
      obtain ⟨n1, n2, n3⟩ := onc_len hon
      clear hst hso
      repeat' (first
        | (exfalso; omega)
        | (simp (maxSteps := 1000000) (disch := omega) only [go_sem])
        | (with_reducible refine guardW_dect (fun h => ?_) (fun h => ?_))
        | (with_reducible refine guardW_decf (fun h => ?_) (fun h => ?_))
        | (with_reducible refine condW_dec (fun h => ?_) (fun h => ?_))
        | (with_reducible refine J_seq ?_)
        | (refine J_reg (id := 33) 200 ?_))
      all_goals exact .mk (i + 1, l, o', f') ⟨hlt, hon, by show l.expected ≤ 1 + ((i + 1 : Nat) : Int); omega, hoo⟩ (by simp only; omega) (by simp [go_sem, encL]) (by simp)
  have hi' : i = ms.length := by omega
  subst hi'
  have c14 := check14 l (ok_fit hok (by omega))
  rw [chk_ok.2 hok] at c14
  simp only [encL] at c14 ⊢
  refine J_run 100 ?_
  simp (maxSteps := 1000000) (disch := omega) only [go_sem]
  refine J_run 100 ?_
  simp (maxSteps := 1000000) (disch := omega) only [go_sem]
  refine J_for (upto 158 168 ++ [16]) (fun j : Nat => [(157, .raw (.int .i64 j))]) (fun _ => [.box (encL l), .arr 1 (o.map encS), .arr 1 (f.map encS)]) (fun j => j ≤ f.length) (fun j => f.length - j) 0 (by omega) (.le (by simp [go_sem, encL]) (by simp)) ?_
  intro j hj
  simp only [encL]
  by_cases hjl : j < f.length
  · have hjo : j < o.length := by omega
    have heq : f[j] = o[j] := by
      have := hon.fr j hjl
      rw [List.getElem?_eq_getElem hjl, List.getElem?_eq_getElem hjo] at this
      exact Option.some.inj this
    refine J_run 100 ?_
    simp (maxSteps := 1000000) (disch := omega) only [go_sem]
    refine J_draw 100 [] plan5_39 (by kernel_rfl) (by kernel_rfl) ?_
    delta plan5_39
    repeat' (first
      | (simp (maxSteps := 1000000) (disch := omega) only [go_sem, getD_map, encS, heq])
      | (with_reducible refine And.intro ?_ ?_)
      | (exact .mk (j + 1) hjl (by omega) (by simp [go_sem, encL, encS]) (by simp)))
  · refine J_run 100 ?_
    simp (maxSteps := 1000000) (disch := omega) only [go_sem]
    refine J_run 100 ?_
    repeat' (first
      | (simp (maxSteps := 1000000) (disch := omega) only [go_sem])
      | ((with_reducible refine CallA.pure c14 ?_ ?_); (· simp only [go_sem]); rintro _ _ ⟨rfl, rfl⟩)
      | (with_reducible refine FinQ.now ?_))
end Go.Proofs.Ytfkfehlnjcbcbaa.Abs
