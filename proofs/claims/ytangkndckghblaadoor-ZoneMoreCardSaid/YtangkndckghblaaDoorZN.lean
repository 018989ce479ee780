/- network.Flood: what it computes. -/
import Derived.Test.YtangkndckghblaaDoorZL
namespace Go.Proofs.YtangkndckghblaaDoor.Abs
set_option linter.unusedSimpArgs false
set_option linter.unusedVariables false
set_option maxRecDepth 100000
open Go Go.RowKit

theorem acrossV_lt {n : Net} (hn : n.ok) {v : Int} {i : Nat} (hi : i < n.devs.length) : acrossV n.devs[i] v < n.nodes.length ∧ -1 ≤ acrossV n.devs[i] v := by
  have hd := hn.dev' hi
  have ha := hd.a0; have hal := hd.al
  unfold acrossV
  cases hj : joinsK n.devs[i].kind with
  | false => simp; omega
  | true =>
    have hb := hd.j hj
    simp
    split
    · omega
    · split <;> omega
theorem set_encB {out : List Bool} {k : Nat} (hk : k < out.length) : (out.map encB).set k (.raw (.bool true) :: List.drop 1 ((out.map encB).getD k [])) = (out.set k true).map encB := by
  rw [getD_B hk, List.map_set]; rfl
set_option maxHeartbeats 8000000 in
theorem floodF (n : Net) (hn : n.ok) (fr : List Int) (hfr : ∀ x, x ∈ fr → 0 ≤ x ∧ x < n.nodes.length) (hfl : fr.length ≤ 1000000) (fu : FuncId) (cu : List AV) (hcu : AV.immL cu = true) (use : Nat → Prop)
    (hu : ∀ i, i < n.devs.length → ∃ b : Bool, (b = true ↔ use i) ∧ Fn1 Tryd.prog GT0 fu (.raw (.int .i64 i) :: cu) (.raw (.bool b)) [])
    (fs : FuncId) (cs : List AV) (hcs : AV.immL cs = true) (stop : Nat → Prop) (hst : ∀ v : Int, 0 ≤ v → v < n.nodes.length → ∃ b : Bool, (b = true ↔ stop v.toNat) ∧ Fn1 Tryd.prog GT0 fs (.raw (.int .i64 v) :: cs) (.raw (.bool b)) []) :
    Fn1 Tryd.prog GT0 67 [.agg (encNet n), .lst 1 (fr.map encN), .clo (.func fu) [] cu, .clo (.func fs) [] cs] (.own 0 1 0 n.nodes.length) [.arr 1 ((flood n use stop (fun v => (v : Int) ∈ fr)).map encB)] := by
  have hku := fun s => AV.keepsL_imm s cu hcu
  have hks := fun s => AV.keepsL_imm s cs hcs
  have hlu := fun f => AV.leafsL_imm f cu hcu
  have hls := fun f => AV.leafsL_imm f cs hcs
  have hnl := hn.nl; have hdl := hn.dl
  have cc := cloneN (fr.map encN) (by simpa using hfl)
  refine holds_of Tryd.func67 rfl rfl ?_
  refine J_run 200 ?_
  delta Tryd.f67
  simp only [encNet]
  repeat' (first
    | (simp (maxSteps := 1000000) (disch := omega) only [go_sem])
    | ((with_reducible refine CallA.pure cc ?_ ?_); (· simp only [go_sem]); rintro _ _ ⟨rfl, rfl⟩)
    | ((with_reducible first | refine gDt ?_ ?_ | refine gDf ?_ ?_ | refine gNt ?_ ?_ | refine gNf ?_ ?_ | refine cD ?_ ?_ | refine cN ?_ ?_ | refine cB ?_ ?_ | refine gB ?_ ?_) <;> intro h)
    | with_reducible first | refine And.intro ?_ ?_ | refine J_seq ?_ | refine J_block ?_ | refine J_inBlock ?_ | refine rC ?_ | refine rR ?_ | refine rE ?_ | refine rG ?_ | refine FinQ.now ?_ | refine FinQ.end ?_)
  refine J_for ([12] ++ upto 25 31) (fun x : Nat × List Bool => [(24, .raw (.int .i64 x.1))]) (fun x => [.box (encNet n), .arr 1 (x.2.map encB), .arr 1 (fr.map encN)]) (fun x => x.1 ≤ fr.length ∧ x.2.length = n.nodes.length ∧ ∀ v, x.2.getD v false = true ↔ ∃ j, ∃ (_ : j < x.1) (h : j < fr.length), fr[j] = (v : Int)) (fun x => fr.length - x.1) (0, List.replicate n.nodes.length false) ⟨by omega, by simp, by simp [List.getD_eq_getElem?_getD, List.getElem?_replicate]; intro v; split <;> simp⟩ (.le (by simp [go_sem, encNet, encB, hku, hks]) (by simp)) ?_
  rintro ⟨i, out⟩ ⟨hi, hol, hov⟩
  simp only at hi hol hov
  by_cases hlt : i < fr.length
  · have hx := hfr _ (List.getElem_mem hlt)
    simp only [encNet]
    refine J_run 200 ?_
    repeat' (first
      | (simp (maxSteps := 1000000) (disch := omega) only [go_sem, getD_N])
      | ((with_reducible first | refine gDt ?_ ?_ | refine gDf ?_ ?_ | refine gNt ?_ ?_ | refine gNf ?_ ?_ | refine cD ?_ ?_ | refine cN ?_ ?_ | refine cB ?_ ?_ | refine gB ?_ ?_) <;> intro h)
      | with_reducible first | refine And.intro ?_ ?_ | refine J_seq ?_ | refine J_block ?_ | refine J_inBlock ?_ | refine rC ?_ | refine rR ?_ | refine rE ?_ | refine rG ?_ | refine FinQ.now ?_ | refine FinQ.end ?_)
    have hk : fr[i].toNat < out.length := by omega
    refine .mk (i + 1, out.set fr[i].toNat true) ⟨hlt, by simp [hol], fun v => ?_⟩ (by simp only; omega) (by simp only [set_encB hk]; simp [go_sem, hku, hks]) (by simp)
    simp only
    rw [getD_set]
    split
    · rename_i e
      exact ⟨fun _ => ⟨i, by omega, hlt, by omega⟩, fun _ => rfl⟩
    · rename_i e
      rw [hov]
      constructor
      · rintro ⟨j, h1, h2, h3⟩
        exact ⟨j, by omega, h2, h3⟩
      · rintro ⟨j, h1, h2, h3⟩
        rcases Nat.lt_succ_iff_lt_or_eq.1 h1 with h4 | rfl
        · exact ⟨j, h4, h2, h3⟩
        · exact absurd ⟨by omega, hk⟩ e
  have hil : i = fr.length := by omega
  subst hil
  have hf0 : Fld n use stop (fun v => (v : Int) ∈ fr) out fr := by
    refine ⟨hol, hfr, fun v hv => ?_, fun v hv => ?_, fun x hx => ?_⟩
    · obtain ⟨j, h1, h2, h3⟩ := (hov v).1 hv
      exact .base (by rw [← h3]; exact List.getElem_mem h2)
    · obtain ⟨j, h2, h3⟩ := List.mem_iff_getElem.1 hv
      exact (hov v).2 ⟨j, h2, h2, h3⟩
    · obtain ⟨j, h2, h3⟩ := List.mem_iff_getElem.1 hx
      exact (hov _).2 ⟨j, h2, h2, by rw [h3]; have := (hfr x hx).1; omega⟩
  have hd0 : Done n use stop out fr := fun u hu => .inl (by
    obtain ⟨j, h1, h2, h3⟩ := (hov u).1 hu
    rw [← h3]; exact List.getElem_mem h2)
  clear hov
  simp only [encNet]
  refine J_run 200 ?_
  repeat' (first
    | (simp (maxSteps := 1000000) (disch := omega) only [go_sem])
    | ((with_reducible first | refine gDt ?_ ?_ | refine gDf ?_ ?_ | refine gNt ?_ ?_ | refine gNf ?_ ?_ | refine cD ?_ ?_ | refine cN ?_ ?_ | refine cB ?_ ?_ | refine gB ?_ ?_) <;> intro h)
    | with_reducible first | refine And.intro ?_ ?_ | refine J_seq ?_ | refine J_block ?_ | refine J_inBlock ?_ | refine rC ?_ | refine rR ?_ | refine rE ?_ | refine rG ?_ | refine FinQ.now ?_ | refine FinQ.end ?_)
  refine J_for (upto 11 15 ++ [21] ++ upto 32 76) (fun x : List Bool × List Int × List Int => [(10, .own 2 1 x.2.1.length x.2.2.length)]) (fun x => [.box (encNet n), .arr 1 (x.1.map encB), .arr 1 (x.2.1.map encN ++ x.2.2.map encN)]) (fun x => Fld n use stop (fun v => (v : Int) ∈ fr) x.1 x.2.2 ∧ Done n use stop x.1 x.2.2 ∧ 2 * x.1.count false + x.2.2.length ≤ 2000000) (fun x => 2 * x.1.count false + x.2.2.length) (out, [], fr) ⟨hf0, hd0, by have := List.count_le_length (a := false) (l := out); simp only; omega⟩ (.le (by simp [go_sem, encNet, hku, hks]) (by simp)) ?_
  rintro ⟨out, pre, q⟩ ⟨hf, hd, hql⟩
  simp only at hf hd hql
  clear hf0 hd0 hol
  rcases q with _ | ⟨u, t⟩
  · have he := hf.eq hd
    subst he
    simp only [encNet]
    refine J_run 200 ?_
    repeat' (first
      | (simp (maxSteps := 1000000) (disch := omega) only [go_sem])
      | ((with_reducible first | refine gDt ?_ ?_ | refine gDf ?_ ?_ | refine gNt ?_ ?_ | refine gNf ?_ ?_ | refine cD ?_ ?_ | refine cN ?_ ?_ | refine cB ?_ ?_ | refine gB ?_ ?_) <;> intro h)
      | with_reducible first | refine And.intro ?_ ?_ | refine J_seq ?_ | refine J_block ?_ | refine J_inBlock ?_ | refine rC ?_ | refine rR ?_ | refine rE ?_ | refine rG ?_ | refine FinQ.now ?_ | refine FinQ.end ?_)
  have hu0 := hf.ql u (List.mem_cons_self ..)
  obtain ⟨b, hb, hbc⟩ := hst u hu0.1 hu0.2
  simp only [encNet]
  refine J_run 200 ?_
  have hhd : (List.map encN pre ++ encN u :: List.map encN t).getD pre.length [] = [.raw (.int .i64 u)] := by simp [List.getD_eq_getElem?_getD, encN]
  simp (maxSteps := 1000000) (disch := omega) only [go_sem, hhd]
  refine CallA.pure hbc (by simp [go_sem, hcs]) ?_
  rintro _ _ ⟨rfl, rfl⟩
  simp (maxSteps := 1000000) (disch := omega) only [go_sem]
  refine condW_by (fun hbt => ?_) (fun hbf => ?_)
  · repeat' (first
      | (simp (maxSteps := 1000000) (disch := omega) only [go_sem])
      | ((with_reducible first | refine gDt ?_ ?_ | refine gDf ?_ ?_ | refine gNt ?_ ?_ | refine gNf ?_ ?_ | refine cD ?_ ?_ | refine cN ?_ ?_ | refine cB ?_ ?_ | refine gB ?_ ?_) <;> intro h)
      | with_reducible first | refine And.intro ?_ ?_ | refine J_seq ?_ | refine J_block ?_ | refine J_inBlock ?_ | refine rC ?_ | refine rR ?_ | refine rE ?_ | refine rG ?_ | refine FinQ.now ?_ | refine FinQ.end ?_)
    refine .mk (out, pre ++ [u], t) ⟨⟨hf.len, fun x hx => hf.ql x (List.mem_cons_of_mem _ hx), hf.snd, hf.S, fun x hx => hf.qo x (List.mem_cons_of_mem _ hx)⟩, hd.stop (hb.1 hbt), by simp at hql; simp only; omega⟩ (by simp) (by simp [go_sem, hku, hks]) (by simp)
  have hns : ¬ stop u.toNat := fun h => by rw [hb.2 h] at hbf; cases hbf
  repeat' (first
    | (simp (maxSteps := 1000000) (disch := omega) only [go_sem])
    | ((with_reducible first | refine gDt ?_ ?_ | refine gDf ?_ ?_ | refine gNt ?_ ?_ | refine gNf ?_ ?_ | refine cD ?_ ?_ | refine cN ?_ ?_ | refine cB ?_ ?_ | refine gB ?_ ?_) <;> intro h)
    | with_reducible first | refine And.intro ?_ ?_ | refine J_seq ?_ | refine J_block ?_ | refine J_inBlock ?_ | refine rC ?_ | refine rR ?_ | refine rE ?_ | refine rG ?_ | refine FinQ.now ?_ | refine FinQ.end ?_)
  clear hhd hbf hbc hb b
  simp only [List.length_cons] at hql
  refine J_for ([13, 14, 15, 32, 38, 39] ++ upto 46 76) (fun x : Nat × List Bool × List Int × List Int => [(10, .own 2 1 x.2.2.1.length (x.2.2.2.length + 1)), (45, .raw (.int .i64 x.1))]) (fun x => [.box (encNet n), .arr 1 (x.2.1.map encB), .arr 1 (x.2.2.1.map encN ++ encN u :: x.2.2.2.map encN)]) (fun x => x.1 ≤ n.devs.length ∧ Inn n use stop (fun v => (v : Int) ∈ fr) u x.1 x.2.1 x.2.2.2 ∧ 2 * x.2.1.count false + x.2.2.2.length ≤ 2 * out.count false + t.length) (fun x => n.devs.length - x.1) (0, out, pre, t) ⟨by simp only; omega, ⟨hf, hd, fun k hk h => absurd h (by omega)⟩, by simp only; omega⟩ (.le (by simp [go_sem, encNet, hku, hks]) (by simp)) ?_
  rintro ⟨i, out', pre', t'⟩ ⟨hi', hI, hM⟩
  simp only at hi' hI hM
  have hol' := hI.f.len
  by_cases hlt : i < n.devs.length
  · obtain ⟨b, hb, hbc⟩ := hu i hlt
    have hac := across n.devs[i] u
    simp only [encDv] at hac
    have hal := acrossV_lt hn (v := u) hlt
    have hhd : (List.map encN pre' ++ encN u :: List.map encN t').getD pre'.length [] = [.raw (.int .i64 u)] := by simp [List.getD_eq_getElem?_getD, encN]
    have hdv := getD_DvL hlt
    by_cases h0 : 0 ≤ acrossV n.devs[i] u
    · have hwl : (acrossV n.devs[i] u).toNat < out'.length := by omega
      have hg := getD_B hwl
      have hgd : out'.getD (acrossV n.devs[i] u).toNat false = out'[(acrossV n.devs[i] u).toNat] := by simp [List.getD_eq_getElem?_getD, hwl]
      obtain ⟨o, ho⟩ : ∃ o, out'[(acrossV n.devs[i] u).toNat] = o := ⟨_, rfl⟩
      rw [ho] at hg hgd
      cases o with
      | true =>
        simp only [encNet]
        refine J_run 200 ?_
        repeat' (first
          | ((with_reducible refine J_draw (id := 14) 200 [] plan67_14 (by kernel_rfl) (by kernel_rfl) ?_); delta plan67_14)
          | (simp (maxSteps := 1000000) (disch := omega) only [go_sem, hdv, hhd, hg])
          | ((with_reducible refine CallA.pure hac ?_ ?_); (· simp only [go_sem]); rintro _ _ ⟨rfl, rfl⟩)
          | ((with_reducible refine CallA.pure hbc ?_ ?_); (· simp only [go_sem]); rintro _ _ ⟨rfl, rfl⟩)
          | ((with_reducible first | refine gDt ?_ ?_ | refine gDf ?_ ?_ | refine gNt ?_ ?_ | refine gNf ?_ ?_ | refine cD ?_ ?_ | refine cN ?_ ?_ | refine cB ?_ ?_ | refine gB ?_ ?_) <;> intro h)
          | with_reducible first | refine And.intro ?_ ?_ | refine J_seq ?_ | refine J_block ?_ | refine J_inBlock ?_ | refine rC ?_ | refine rR ?_ | refine rE ?_ | refine rG ?_ | refine FinQ.now ?_ | refine FinQ.end ?_)
        refine .mk (i + 1, out', pre', t') ⟨by simp only; omega, hI.next fun hk hu0 h1 => hgd, hM⟩ (by simp only; omega) ?_ ?_
        · simp [go_sem, hku, hks]
        · simp
      | false =>
        cases b with
        | false =>
          simp only [encNet]
          refine J_run 200 ?_
          repeat' (first
            | ((with_reducible refine J_draw (id := 14) 200 [] plan67_14 (by kernel_rfl) (by kernel_rfl) ?_); delta plan67_14)
            | (simp (maxSteps := 1000000) (disch := omega) only [go_sem, hdv, hhd, hg])
            | ((with_reducible refine CallA.pure hac ?_ ?_); (· simp only [go_sem]); rintro _ _ ⟨rfl, rfl⟩)
            | ((with_reducible refine CallA.pure hbc ?_ ?_); (· simp only [go_sem]); rintro _ _ ⟨rfl, rfl⟩)
            | ((with_reducible first | refine gDt ?_ ?_ | refine gDf ?_ ?_ | refine gNt ?_ ?_ | refine gNf ?_ ?_ | refine cD ?_ ?_ | refine cN ?_ ?_ | refine cB ?_ ?_ | refine gB ?_ ?_) <;> intro h)
            | with_reducible first | refine And.intro ?_ ?_ | refine J_seq ?_ | refine J_block ?_ | refine J_inBlock ?_ | refine rC ?_ | refine rR ?_ | refine rE ?_ | refine rG ?_ | refine FinQ.now ?_ | refine FinQ.end ?_)
          refine CallA.pure hbc (by simp [go_sem, hcu]) ?_
          rintro _ _ ⟨rfl, rfl⟩
          repeat' (first
            | (exfalso; omega)
            | (simp (maxSteps := 1000000) (disch := omega) only [go_sem])
            | ((with_reducible first | refine gDt ?_ ?_ | refine gDf ?_ ?_ | refine gNt ?_ ?_ | refine gNf ?_ ?_ | refine cD ?_ ?_ | refine cN ?_ ?_ | refine cB ?_ ?_ | refine gB ?_ ?_) <;> intro h)
            | with_reducible first | refine And.intro ?_ ?_ | refine J_seq ?_ | refine J_block ?_ | refine J_inBlock ?_ | refine rC ?_ | refine rR ?_ | refine rE ?_ | refine rG ?_ | refine FinQ.now ?_ | refine FinQ.end ?_)
          refine .mk (i + 1, out', pre', t') ⟨by simp only; omega, hI.next fun hk hu0 h1 => absurd (hb.2 hu0) (by simp), hM⟩ (by simp only; omega) ?_ ?_
          · simp [go_sem, hku, hks]
          · simp
        | true =>
          simp only [encNet]
          refine J_run 200 ?_
          repeat' (first
            | ((with_reducible refine J_draw (id := 14) 200 [] plan67_14 (by kernel_rfl) (by kernel_rfl) ?_); delta plan67_14)
            | (simp (maxSteps := 1000000) (disch := omega) only [go_sem, hdv, hhd, hg])
            | ((with_reducible refine CallA.pure hac ?_ ?_); (· simp only [go_sem]); rintro _ _ ⟨rfl, rfl⟩)
            | ((with_reducible refine CallA.pure hbc ?_ ?_); (· simp only [go_sem]); rintro _ _ ⟨rfl, rfl⟩)
            | ((with_reducible first | refine gDt ?_ ?_ | refine gDf ?_ ?_ | refine gNt ?_ ?_ | refine gNf ?_ ?_ | refine cD ?_ ?_ | refine cN ?_ ?_ | refine cB ?_ ?_ | refine gB ?_ ?_) <;> intro h)
            | with_reducible first | refine And.intro ?_ ?_ | refine J_seq ?_ | refine J_block ?_ | refine J_inBlock ?_ | refine rC ?_ | refine rR ?_ | refine rE ?_ | refine rG ?_ | refine FinQ.now ?_ | refine FinQ.end ?_)
          refine CallA.pure hbc (by simp [go_sem, hcu]) ?_
          rintro _ _ ⟨rfl, rfl⟩
          repeat' (first
            | (exfalso; omega)
            | (simp (maxSteps := 1000000) (disch := omega) only [go_sem, hlu, hls])
            | ((with_reducible first | refine gDt ?_ ?_ | refine gDf ?_ ?_ | refine gNt ?_ ?_ | refine gNf ?_ ?_ | refine cD ?_ ?_ | refine cN ?_ ?_ | refine cB ?_ ?_ | refine gB ?_ ?_) <;> intro h)
            | with_reducible first | refine And.intro ?_ ?_ | refine J_seq ?_ | refine J_block ?_ | refine J_inBlock ?_ | refine rC ?_ | refine rR ?_ | refine rE ?_ | refine rG ?_ | refine FinQ.now ?_ | refine FinQ.end ?_)
          have hcs1 := count_set hwl ho
          have hse := set_encB hwl
          refine .mk (i + 1, out'.set (acrossV n.devs[i] u).toNat true, [], t' ++ [acrossV n.devs[i] u]) ⟨by simp only; omega, hI.push hn hlt h0 (hb.1 rfl) hns, by simp only [List.length_append, List.length_cons, List.length_nil]; omega⟩ (by simp only; omega) ?_ ?_
          · simp only [hse]
            simp [go_sem, hku, hks, encN]
          · simp
    · simp only [encNet]
      refine J_run 200 ?_
      repeat' (first
        | ((with_reducible refine J_draw (id := 14) 200 [] plan67_14 (by kernel_rfl) (by kernel_rfl) ?_); delta plan67_14)
        | (simp (maxSteps := 1000000) (disch := omega) only [go_sem, hdv, hhd])
        | ((with_reducible refine CallA.pure hac ?_ ?_); (· simp only [go_sem]); rintro _ _ ⟨rfl, rfl⟩)
        | ((with_reducible refine CallA.pure hbc ?_ ?_); (· simp only [go_sem]); rintro _ _ ⟨rfl, rfl⟩)
        | ((with_reducible first | refine gDt ?_ ?_ | refine gDf ?_ ?_ | refine gNt ?_ ?_ | refine gNf ?_ ?_ | refine cD ?_ ?_ | refine cN ?_ ?_ | refine cB ?_ ?_ | refine gB ?_ ?_) <;> intro h)
        | with_reducible first | refine And.intro ?_ ?_ | refine J_seq ?_ | refine J_block ?_ | refine J_inBlock ?_ | refine rC ?_ | refine rR ?_ | refine rE ?_ | refine rG ?_ | refine FinQ.now ?_ | refine FinQ.end ?_)
      refine .mk (i + 1, out', pre', t') ⟨by simp only; omega, hI.next fun hk hu0 h1 => absurd h1 h0, hM⟩ (by simp only; omega) ?_ ?_
      · simp [go_sem, hku, hks]
      · simp
  have hie : i = n.devs.length := by omega
  subst hie
  simp only [encNet]
  refine J_run 200 ?_
  have hI' := hI.end_ hn
  repeat' (first
    | (simp (maxSteps := 1000000) (disch := omega) only [go_sem])
    | ((with_reducible first | refine gDt ?_ ?_ | refine gDf ?_ ?_ | refine gNt ?_ ?_ | refine gNf ?_ ?_ | refine cD ?_ ?_ | refine cN ?_ ?_ | refine cB ?_ ?_ | refine gB ?_ ?_) <;> intro h)
    | with_reducible first | refine And.intro ?_ ?_ | refine J_seq ?_ | refine J_block ?_ | refine J_inBlock ?_ | refine rC ?_ | refine rR ?_ | refine rE ?_ | refine rG ?_ | refine FinQ.now ?_ | refine FinQ.end ?_)
  refine .mk (out', pre' ++ [u], t') ⟨hI'.1, hI'.2, by simp only; omega⟩ (by simp only [List.length_cons]; omega) ?_ ?_
  · simp [go_sem, hku, hks]
  · simp
end Go.Proofs.YtangkndckghblaaDoor.Abs
