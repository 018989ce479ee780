/- LineExact: what the program's code computes. -/
import Derived.Test.YtfkfehlnjcbcbaaLX
import Derived.Test.YtfkfehlnjcbcbaaAbsO
namespace Go.Proofs.Ytfkfehlnjcbcbaa.Abs
set_option linter.unusedSimpArgs false
set_option linter.unusedVariables false
open Go Go.RowKit

/- What comes in. -/
abbrev shP : Sh := .pair .bool (.pair (.int .i64) (.pair .str .unit))
abbrev shL : Sh := .pair (.slice .str) (.pair (.int .i64) (.pair .bool (.pair (.int .i64) (.pair (.slice shP) (.pair (.slice shP) .unit)))))
def toP (d : shP.Den) : Pk := ⟨d.1, d.2.1, d.2.2.1⟩
def toL (d : shL.Den) : Ln := ⟨d.1, d.2.1, d.2.2.1, d.2.2.2.1, d.2.2.2.2.1.map toP, d.2.2.2.2.2.1.map toP⟩
theorem enc_toP (d : shP.Den) : shP.enc d = encP (toP d) := rfl
theorem enc_toL (d : shL.Den) : shL.enc d = encL (toL d) := by
  obtain ⟨w, n, s, e, t, b, _⟩ := d
  have h : ∀ l : List shP.Den, l.map shP.enc = (l.map toP).map encP := fun l => by rw [List.map_map]; rfl
  simp only [encL, toL]
  rw [← h t, ← h b]
  rfl
theorem fit_toL (d : shL.Den) (h : shL.Ok d) : (toL d).fit := by
  obtain ⟨_, h1, _, h2, _⟩ := h
  exact ⟨bounds_i64 h1, bounds_i64 h2⟩

theorem extract_all (s : ByteArray) (k : Nat) : (s.extract 0 k).size ≤ s.size := by simp [ByteArray.size_extract]; omega

theorem step_short60 {l : Ln} (h1 : l.waiting.length ≤ 60) (h2 : l.there.length ≤ 60) (h3 : l.back.length ≤ 60) (m i : Int) (s : ByteArray) : (l.step m i s).1.short := by
  have he : ∀ (xs : List Pk) (k : Nat), (xs.eraseIdx k).length ≤ xs.length := fun xs k => List.length_eraseIdx_le ..
  have h4 := he l.there i.toNat
  have h5 := he l.back i.toNat
  rcases step_cases l m i s with ⟨_, es⟩ | ⟨_, es⟩ | ⟨_, es⟩ | ⟨_, es⟩ | ⟨_, es⟩ | ⟨_, es⟩ | ⟨_, es⟩ <;> rw [es]
  · unfold Ln.offer; repeat' split
    all_goals first | exact zero_short | (refine ⟨?_, ?_, ?_⟩ <;> simp <;> omega)
  · unfold Ln.send; repeat' split
    all_goals first | exact zero_short | (refine ⟨?_, ?_, ?_⟩ <;> simp <;> omega)
  · unfold Ln.lose; repeat' split
    all_goals first | exact zero_short | (refine ⟨?_, ?_, ?_⟩ <;> simp only <;> omega)
  · unfold Ln.repeat'; repeat' split
    all_goals first | exact zero_short | (refine ⟨?_, ?_, ?_⟩ <;> simp <;> omega)
  · unfold Ln.deliver; split
    · exact zero_short
    · refine ⟨by simp only; omega, by simp only; omega, ?_⟩
      simp only
      split <;> (try simp) <;> omega
  · unfold Ln.loseBack; repeat' split
    all_goals first | exact zero_short | (refine ⟨?_, ?_, ?_⟩ <;> simp only <;> omega)
  · unfold Ln.backs; split
    · exact zero_short
    · simp only
      split <;> refine ⟨?_, ?_, ?_⟩ <;> (try simp) <;> omega
theorem u16_32 {m : Int} (h : 0 ≤ m ∧ m ≤ 65535) : IntKind.i64.wrap (IntKind.u16.wrap (m.tdiv 32)) = m.tdiv 32 := by
  have h1 : m.tdiv 32 = m / 32 := Int.tdiv_eq_ediv_of_nonneg h.1
  have h2 : IntKind.u16.wrap (m / 32) = m / 32 := by
    have : IntKind.u16.wrap (m / 32) = (m / 32) % 65536 := by simp [IntKind.wrap, IntKind.bits, IntKind.signed]
    omega
  rw [h1, h2]
  exact wrap_in (by omega) (by omega)
theorem cut_in {m : Int} (h : 0 ≤ m ∧ m ≤ 65535) : 0 ≤ (m.tdiv 32).tmod 9 := by
  have h1 : m.tdiv 32 = m / 32 := Int.tdiv_eq_ediv_of_nonneg h.1
  rw [h1, Int.tmod_eq_emod_of_nonneg (by omega)]
  omega

set_option maxRecDepth 100000 in
set_option maxHeartbeats 8000000 in
theorem exact4 (ms : List Int) (hms : ∀ m, m ∈ ms → 0 ≤ m ∧ m ≤ 65535) (raw : Ln) (hraw : raw.fit) (pay : ByteArray) (hpay : pay.size ≤ maxLen) (at_ : Int) (hat : inI at_) :
    Fn1 Try.prog [] 4 [.lst 1 (ms.map (encI .u16)), .agg (encL raw), .raw (.string pay), .raw (.int .i64 at_)] (.raw (.bool true)) [] := by
  refine holds_bnd (enters_of Try.func4 rfl rfl) fun hb _ => ?_
  have hlen : ms.length ≤ 9223372036854775807 := by
    have := (hb _ (List.mem_cons_self ..)).len
    simpa [maxLen] using this
  have hra : ∀ a, a ∈ encL raw → Bnd a := fun a ha => (hb _ (List.mem_cons_of_mem _ (List.mem_cons_self ..))).agg_mem ha
  have hr1 : raw.waiting.length ≤ 9223372036854775807 := by simpa [maxLen] using (hra (.lst 1 (raw.waiting.map encS)) (by simp [encL])).len
  have hr2 : raw.there.length ≤ 9223372036854775807 := by simpa [maxLen] using (hra (.lst 3 (raw.there.map encP)) (by simp [encL])).len
  have hr3 : raw.back.length ≤ 9223372036854775807 := by simpa [maxLen] using (hra (.lst 3 (raw.back.map encP)) (by simp [encL])).len
  have hpl : pay.size ≤ 9223372036854775807 := by simpa [maxLen] using hpay
  clear hb hra
  have c9 := awake9
  have c10 := new10
  have c15 := new15
  have c14 := check14 raw hraw
  have c17 := check17 raw hraw
  have c16 := same16 Ln.new Ln.new ⟨by decide, by decide, by decide⟩ ⟨by decide, by decide, by decide⟩
  simp only [encL, decide_true] at c10 c15 c14 c17 c16
  refine holds_of Try.func4 rfl rfl ?_
  refine J_run 100 ?_
  delta Try.f4
  simp only [encL]
  repeat' (first
    | (simp (disch := omega) only [go_sem])
    | (with_reducible refine condW_dec (fun h => ?_) (fun h => ?_))
    | (with_reducible refine guardW_decf (fun h => ?_) (fun h => ?_))
    | ((with_reducible refine CallA.pure c9 ?_ ?_); (· simp only [go_sem]); rintro _ _ ⟨rfl, rfl⟩)
    | ((with_reducible refine CallA.pure c15 ?_ ?_); (· simp only [go_sem]); rintro _ _ ⟨rfl, rfl⟩)
    | (with_reducible refine J_seq ?_)
    | (refine J_reg (id := 1) 100 ?_)
    | (with_reducible refine FinQ.now ?_))
  refine J_draw 100 [] plan4_4 (by kernel_rfl) (by kernel_rfl) ?_
  delta plan4_4
  repeat' (first
    | (simp (disch := omega) only [go_sem])
    | ((with_reducible refine CallA.pure c10 ?_ ?_); (· simp only [go_sem]); rintro _ _ ⟨rfl, rfl⟩)
    | ((with_reducible refine CallA.pure c14 ?_ ?_); (· simp only [go_sem]); rintro _ _ ⟨rfl, rfl⟩)
    | ((with_reducible refine CallA.pure c16 ?_ ?_); (· simp only [go_sem]); rintro _ _ ⟨rfl, rfl⟩)
    | ((with_reducible refine CallA.pure c17 ?_ ?_); (· simp only [go_sem]); rintro _ _ ⟨rfl, rfl⟩)
    | (with_reducible refine And.intro ?_ ?_))
  have hst := fun m => step_short60 (l := raw) (by omega) (by omega) (by omega) m at_ pay
  have hrs : raw.short := ⟨by omega, by omega, by omega⟩
  clear c9 c10 c14 c17 c16 c15
  refine J_for (upto 72 108 ++ upto 11 18) (fun k : Nat => [(10, .raw (.int .i64 k))]) (fun _ => [.box (encL raw), .box (encL Ln.new)]) (fun k => k ≤ 8) (fun k => 8 - k) 0 (by omega) (.le (by simp [go_sem, encL]) (by simp)) ?_
  intro k hk
  by_cases hk8 : k < 8
  · have c18 := turn18 raw hraw hrs k at_ hat pay
    have hsh := hst k
    generalize raw.step k at_ pay = r at *
    obtain ⟨x, a, fr, er⟩ := r
    have c16 := same16 x x hsh hsh
    simp only [decide_true, encT, encL] at c16 c18
    simp only [encL]
    refine J_run 100 ?_
    repeat' (first
      | (simp (disch := omega) only [go_sem])
      | ((with_reducible refine CallA.pure c18 ?_ ?_); (· simp only [go_sem]); rintro _ _ ⟨rfl, rfl⟩)
      | ((with_reducible refine CallA.pure c16 ?_ ?_); (· simp only [go_sem]); rintro _ _ ⟨rfl, rfl⟩)
      | (with_reducible refine J_seq ?_)
      | (refine J_reg (id := 10) 100 ?_))
    exact .mk (k + 1) hk8 (by omega) (by simp [go_sem, encL]) (by simp)
  have hk' : k = 8 := by omega
  subst hk'
  clear hst
  simp only [encL]
  refine J_run 100 ?_
  simp (disch := omega) only [go_sem]
  refine J_run 100 ?_
  simp (disch := omega) only [go_sem]
  refine J_for (upto 112 167 ++ upto 20 28) (fun x : Nat × Ln => [(111, .raw (.int .i64 x.1))]) (fun x => [.box (encL raw), .box (encL x.2)]) (fun x => x.1 ≤ ms.length ∧ x.2.ok ∧ x.2.expected ≤ 1 + x.1) (fun x => ms.length - x.1) (0, Ln.new) ⟨by omega, new_ok, by decide⟩ (.le (by simp [go_sem, encL]) (by simp)) ?_
  rintro ⟨i, l⟩ ⟨hi, hok, hex⟩
  simp only at hi hok hex
  have hl1 := hok.n1; have hl2 := hok.ne
  by_cases hlt : i < ms.length
  · have hm := hms ms[i] (List.getElem_mem hlt)
    have hcut := cut_in hm
    have hsl : ∀ k : Nat, (pay.extract 0 k).size ≤ 9223372036854775807 := fun k => Nat.le_trans (extract_all pay k) hpl
    have c18 := fun s => turn18 l (ok_fit hok (by omega)) (ok_short hok) (ms[i].tmod 8) ((ms[i].tdiv 8).tmod 4) (at_in hm (.inl rfl)) s
    have hsh := fun s => step_short hok (by omega) (ms[i].tmod 8) ((ms[i].tdiv 8).tmod 4) s
    have c16 := fun s => same16 _ _ (hsh s) (hsh s)
    have hst := fun s => step_ok hok (by omega) (m := ms[i].tmod 8) (i := (ms[i].tdiv 8).tmod 4) (s := s)
    have c14 := fun s e => check14 _ (ok_fit (hst s e).1 (by rw [(hst s e).2]; split <;> omega))
    have c14' := check14 l (ok_fit hok (by omega))
    rw [chk_ok.2 hok] at c14'
    have e1 := u16_mv hm
    have e2 := u16_at hm
    have e3 := u16_32 hm
    simp only [encT, encL, decide_true] at c18 c16 c14 c14'
    simp only [encL]
    refine J_run 100 ?_
    simp (disch := omega) only [go_sem, getD_map, encI, e1, e2]
    refine J_draw 100 [] plan4_15 (by kernel_rfl) (by kernel_rfl) ?_
    delta plan4_15
    repeat' (first
      | (simp (maxSteps := 1000000) (disch := omega) only [go_sem, e1, e2, e3])
      | ((with_reducible refine CallA.pure (c18 _) ?_ ?_); (· simp only [go_sem]); rintro _ _ ⟨rfl, rfl⟩)
      | (with_reducible refine And.intro ?_ ?_))
    all_goals
      clear c18
      generalize pay.extract 0 (if (ms[i].tdiv 32).tmod 9 < (pay.size : Int) then (ms[i].tdiv 32).tmod 9 else (pay.size : Int)).toNat = s
      have c16 := c16 s
      have c14 := c14 s
      have hst := hst s
      clear hsh
      generalize l.step (ms[i].tmod 8) ((ms[i].tdiv 8).tmod 4) s = r at *
      obtain ⟨x, a, fr, er⟩ := r
      simp only at c16 c14 hst
      refine J_run 100 ?_
      repeat' (first
        | (simp (maxSteps := 1000000) (disch := omega) only [go_sem])
        | ((with_reducible refine CallA.pure c16 ?_ ?_); (· simp only [go_sem]); rintro _ _ ⟨rfl, rfl⟩)
        | (with_reducible refine J_seq ?_)
        | (refine J_reg (id := 16) 100 ?_))
      refine condW_dec (fun he => ?_) (fun he => ?_)
      · obtain ⟨hx, hxe⟩ := hst he
        have c14 := c14 he
        rw [chk_ok.2 hx] at c14
        have hxl : x.expected ≤ 1 + ((i + 1 : Nat) : Int) := by rw [hxe]; split <;> omega
        repeat' (first
          | (simp (maxSteps := 1000000) (disch := omega) only [go_sem])
          | ((with_reducible refine CallA.pure c14 ?_ ?_); (· simp only [go_sem]); rintro _ _ ⟨rfl, rfl⟩))
        exact .mk (i + 1, x) ⟨hlt, hx, hxl⟩ (by simp only; omega) (by simp [go_sem, encL]) (by simp)
      · repeat' (first
          | (simp (maxSteps := 1000000) (disch := omega) only [go_sem])
          | ((with_reducible refine CallA.pure c14' ?_ ?_); (· simp only [go_sem]); rintro _ _ ⟨rfl, rfl⟩))
        exact .mk (i + 1, l) ⟨hlt, hok, by show l.expected ≤ 1 + ((i + 1 : Nat) : Int); omega⟩ (by simp only; omega) (by simp [go_sem, encL]) (by simp)
  · simp only [encL]
    refine J_run 100 ?_
    simp (disch := omega) only [go_sem]
    refine J_run 100 ?_
    simp (disch := omega) only [go_sem]
    refine .now ?_
    simp only [go_sem]
theorem exactO (x0 : (Sh.slice (.int .u16)).Den) (o0 : (Sh.slice (.int .u16)).Ok x0) (x1 : shL.Den) (o1 : shL.Ok x1) (x2 : Sh.str.Den) (o2 : Sh.str.Ok x2) (x3 : (Sh.int .i64).Den) (o3 : (Sh.int .i64).Ok x3) :
    Fn1 Try.prog [] 4 [Sh.av (.slice (.int .u16)) x0, shL.av x1, Sh.str.av x2, Sh.av (.int .i64) x3] (.raw (.bool true)) [] := by
  have e : shL.av x1 = .agg (encL (toL x1)) := congrArg AV.agg (enc_toL x1)
  rw [e]
  exact exact4 x0 (fun m hm => bounds_u16 (o0.2 m hm)) (toL x1) (fit_toL x1 o1) x2 o2 x3 (bounds_i64 o3)
end Go.Proofs.Ytfkfehlnjcbcbaa.Abs
