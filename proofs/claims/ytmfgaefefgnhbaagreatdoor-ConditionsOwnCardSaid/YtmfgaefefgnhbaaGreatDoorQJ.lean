/- Conditions: covered, stowed, foreign. -/
import Derived.Test.YtmfgaefefgnhbaaGreatDoorC2
namespace Go.Proofs.YtmfgaefefgnhbaaGreatDoor.Abs
set_option linter.unusedSimpArgs false
set_option linter.unusedVariables false
set_option maxRecDepth 100000
open Go Go.RowKit

theorem skillF (k : Int) : Fn1 Tryz.prog GT0 23 [.raw (.int .i64 k)] (.raw (.int .i64 (skillOf k))) [] := by
  unfold skillOf
  refine holds_of Tryz.func23 rfl rfl ?_
  refine J_run 200 ?_
  delta Tryz.f23
  repeat' (first
    | (simp (maxSteps := 1000000) (disch := omega) only [go_sem])
    | ((with_reducible first | refine gDt ?_ ?_ | refine gDf ?_ ?_ | refine gNt ?_ ?_ | refine gNf ?_ ?_ | refine cD ?_ ?_ | refine cN ?_ ?_ | refine cB ?_ ?_ | refine gB ?_ ?_) <;> intro h)
    | with_reducible first | refine And.intro ?_ ?_ | refine J_seq ?_ | refine J_block ?_ | refine J_inBlock ?_ | refine rC ?_ | refine rR ?_ | refine rE ?_ | refine rG ?_ | refine FinQ.now ?_ | refine FinQ.end ?_)
  all_goals first | (simp_all []; done) | (simp_all []; omega) | omega
set_option maxHeartbeats 2000000 in
theorem foreignF (l : List Pers) (hl : l.length ≤ 1000000) (hs : ∀ p, p ∈ l → p.sized) (s : ByteArray) (c : Int) : Fn1 Tryz.prog GT0 21 [.agg (encReg l), .raw (.string s), .raw (.int .i64 c)] (.raw (.bool (foreignB l s c))) [] := by
  have cf := regFindF l hl hs s
  unfold foreignB
  by_cases h0 : 0 ≤ regFind l s
  · obtain ⟨h1, h2⟩ := regFind_lt h0
    have hg := getD_Pers h1
    rw [decide_eq_true h0, getD_get h1, Bool.true_and]
    obtain ⟨i, hi⟩ : ∃ i, (regFind l s).toNat = i := ⟨_, rfl⟩
    rw [h2] at cf
    simp only [hi] at cf hg ⊢
    simp only [encReg, encPers] at cf hg ⊢
    refine holds_of Tryz.func21 rfl rfl ?_
    refine J_run 200 ?_
    delta Tryz.f21
    repeat' (first
      | (simp (maxSteps := 1000000) (disch := omega) only [go_sem, hg])
      | ((with_reducible refine CallA.pure cf ?_ ?_); (· simp (disch := omega) only [go_sem, hg]); rintro _ _ ⟨rfl, rfl⟩)
      | ((with_reducible first | refine gDt ?_ ?_ | refine gDf ?_ ?_ | refine gNt ?_ ?_ | refine gNf ?_ ?_ | refine cD ?_ ?_ | refine cN ?_ ?_ | refine cB ?_ ?_ | refine gB ?_ ?_) <;> intro h)
      | with_reducible first | refine And.intro ?_ ?_ | refine J_seq ?_ | refine J_block ?_ | refine J_inBlock ?_ | refine rC ?_ | refine rR ?_ | refine rE ?_ | refine rG ?_ | refine FinQ.now ?_ | refine FinQ.end ?_)
    all_goals first | (rw [Bool.eq_iff_iff]; simp []; omega) | (simp_all []; done) | (rw [Bool.eq_iff_iff]; simp_all []; omega) | (simp_all []; omega) | omega
  · rw [decide_eq_false h0]
    obtain ⟨i, hi⟩ : ∃ i, regFind l s = i := ⟨_, rfl⟩
    rw [hi] at cf h0
    simp only [encReg] at cf ⊢
    refine holds_of Tryz.func21 rfl rfl ?_
    refine J_run 200 ?_
    delta Tryz.f21
    repeat' (first
      | (simp (maxSteps := 1000000) (disch := omega) only [go_sem])
      | ((with_reducible refine CallA.pure cf ?_ ?_); (· simp (disch := omega) only [go_sem]); rintro _ _ ⟨rfl, rfl⟩)
      | ((with_reducible first | refine gDt ?_ ?_ | refine gDf ?_ ?_ | refine gNt ?_ ?_ | refine gNf ?_ ?_ | refine cD ?_ ?_ | refine cN ?_ ?_ | refine cB ?_ ?_ | refine gB ?_ ?_) <;> intro h)
      | with_reducible first | refine And.intro ?_ ?_ | refine J_seq ?_ | refine J_block ?_ | refine J_inBlock ?_ | refine rC ?_ | refine rR ?_ | refine rE ?_ | refine rG ?_ | refine FinQ.now ?_ | refine FinQ.end ?_)
set_option maxHeartbeats 4000000 in
theorem stowedF (o : Off) (ho : o.sized) (d : Doc) (k : Lk) : Fn1 Tryz.prog GT0 31 [.agg (encOff o), .agg (encDoc d), .agg (encLk k)] (.raw (.bool (stowedB o d k))) [] := by
  have cf := findF o.keys ho.kl ho.ks k.key
  have ci := inSafeF o.safes ho.sl ho.ss k.key
  have cp := portPlace o.ports ho.ol ho.ps k.key
  unfold stowedB stowKey
  generalize placeOf o.ports k.key = pl at cp ⊢
  generalize inSafe o.safes k.key = si at ci ⊢
  generalize findRow o.keys k.key = fr at cf ⊢
  have pd : decide (pl = some k.dev) = (pl.isSome && decide (encOpt pl = k.dev)) := by
    cases pl with
    | none => simp
    | some v =>
      rw [Bool.eq_iff_iff]
      simp only [encOpt, Option.some.injEq, Option.isSome_some, Option.getD_some, Bool.true_and]
      exact ⟨fun h => decide_eq_true (of_decide_eq_true h), fun h => decide_eq_true (of_decide_eq_true h)⟩
  rw [pd]
  generalize encOpt pl = pv at cp ⊢
  generalize pl.isSome = pb at cp ⊢
  simp only [encOff, encDoc, encLk] at cf ci cp ⊢
  cases fr with
  | none =>
    simp only [encHold, Option.isSome] at cf ⊢
    refine holds_of Tryz.func31 rfl rfl ?_
    refine J_run 200 ?_
    delta Tryz.f31
    cases pb
    · repeat' (first
        | ((with_reducible refine J_draw (id := 2) 200 [] plan31_2 (by kernel_rfl) (by kernel_rfl) ?_); delta plan31_2)
        | (simp (maxSteps := 1000000) (disch := omega) only [go_sem])
        | ((with_reducible refine CallA.pure cf ?_ ?_); (· simp (disch := omega) only [go_sem]); rintro _ _ ⟨rfl, rfl⟩)
        | ((with_reducible refine CallA.pure cp ?_ ?_); (· simp (disch := omega) only [go_sem]); rintro _ _ ⟨rfl, rfl⟩)
        | ((with_reducible first | refine gDt ?_ ?_ | refine gDf ?_ ?_ | refine gNt ?_ ?_ | refine gNf ?_ ?_ | refine cD ?_ ?_ | refine cN ?_ ?_ | refine cB ?_ ?_ | refine gB ?_ ?_ | refine stepGuard_dect ?_ ?_ | refine stepGuard_decf ?_ ?_ | refine stepGuard_ndect ?_ ?_ | refine stepGuard_ndecf ?_ ?_ | refine stepGuard_by ?_ ?_) <;> intro h)
        | with_reducible first | refine And.intro ?_ ?_ | refine J_seq ?_ | refine J_block ?_ | refine J_inBlock ?_ | refine rC ?_ | refine rR ?_ | refine rE ?_ | refine rG ?_ | refine FinQ.now ?_ | refine FinQ.end ?_)
    · repeat' (first
        | ((with_reducible refine J_draw (id := 2) 200 [] plan31_2 (by kernel_rfl) (by kernel_rfl) ?_); delta plan31_2)
        | (simp (maxSteps := 1000000) (disch := omega) only [go_sem])
        | ((with_reducible refine CallA.pure cf ?_ ?_); (· simp (disch := omega) only [go_sem]); rintro _ _ ⟨rfl, rfl⟩)
        | ((with_reducible refine CallA.pure cp ?_ ?_); (· simp (disch := omega) only [go_sem]); rintro _ _ ⟨rfl, rfl⟩)
        | ((with_reducible first | refine gDt ?_ ?_ | refine gDf ?_ ?_ | refine gNt ?_ ?_ | refine gNf ?_ ?_ | refine cD ?_ ?_ | refine cN ?_ ?_ | refine cB ?_ ?_ | refine gB ?_ ?_ | refine stepGuard_dect ?_ ?_ | refine stepGuard_decf ?_ ?_ | refine stepGuard_ndect ?_ ?_ | refine stepGuard_ndecf ?_ ?_ | refine stepGuard_by ?_ ?_) <;> intro h)
        | with_reducible first | refine And.intro ?_ ?_ | refine J_seq ?_ | refine J_block ?_ | refine J_inBlock ?_ | refine rC ?_ | refine rR ?_ | refine rE ?_ | refine rG ?_ | refine FinQ.now ?_ | refine FinQ.end ?_)
  | some r =>
    simp only [encHold, Option.isSome] at cf ⊢
    have hb : (decide (r.kind = 3) && (decide (r.idx = d.safe) && decide (r.name = (⟨#[]⟩ : ByteArray)))) = decide (r.kind = 3 ∧ r.idx = d.safe ∧ r.name = emptyS) := by
      rw [Bool.eq_iff_iff, Bool.and_eq_true, Bool.and_eq_true, decide_eq_true_eq, decide_eq_true_eq, decide_eq_true_eq]
      exact ⟨fun h => decide_eq_true h, fun h => of_decide_eq_true h⟩
    generalize decide (r.kind = 3 ∧ r.idx = d.safe ∧ r.name = emptyS) = b at hb ⊢
    obtain ⟨c, hc⟩ : ∃ c, decide (si = d.safe) = c := ⟨_, rfl⟩
    rw [hc]
    cases b
    · cases pb
      · refine holds_of Tryz.func31 rfl rfl ?_
        refine J_run 200 ?_
        delta Tryz.f31
        repeat' (first
          | ((with_reducible refine J_draw (id := 2) 200 [] plan31_2 (by kernel_rfl) (by kernel_rfl) ?_); delta plan31_2)
          | (simp (maxSteps := 1000000) (disch := omega) only [go_sem, hb])
          | ((with_reducible refine CallA.pure cf ?_ ?_); (· simp (disch := omega) only [go_sem, hb]); rintro _ _ ⟨rfl, rfl⟩)
          | ((with_reducible refine CallA.pure cp ?_ ?_); (· simp (disch := omega) only [go_sem, hb]); rintro _ _ ⟨rfl, rfl⟩)
          | ((with_reducible first | refine gDt ?_ ?_ | refine gDf ?_ ?_ | refine gNt ?_ ?_ | refine gNf ?_ ?_ | refine cD ?_ ?_ | refine cN ?_ ?_ | refine cB ?_ ?_ | refine gB ?_ ?_ | refine stepGuard_dect ?_ ?_ | refine stepGuard_decf ?_ ?_ | refine stepGuard_ndect ?_ ?_ | refine stepGuard_ndecf ?_ ?_ | refine stepGuard_by ?_ ?_) <;> intro h)
          | with_reducible first | refine And.intro ?_ ?_ | refine J_seq ?_ | refine J_block ?_ | refine J_inBlock ?_ | refine rC ?_ | refine rR ?_ | refine rE ?_ | refine rG ?_ | refine FinQ.now ?_ | refine FinQ.end ?_)
      · refine holds_of Tryz.func31 rfl rfl ?_
        refine J_run 200 ?_
        delta Tryz.f31
        repeat' (first
          | ((with_reducible refine J_draw (id := 2) 200 [] plan31_2 (by kernel_rfl) (by kernel_rfl) ?_); delta plan31_2)
          | (simp (maxSteps := 1000000) (disch := omega) only [go_sem, hb])
          | ((with_reducible refine CallA.pure cf ?_ ?_); (· simp (disch := omega) only [go_sem, hb]); rintro _ _ ⟨rfl, rfl⟩)
          | ((with_reducible refine CallA.pure cp ?_ ?_); (· simp (disch := omega) only [go_sem, hb]); rintro _ _ ⟨rfl, rfl⟩)
          | ((with_reducible first | refine gDt ?_ ?_ | refine gDf ?_ ?_ | refine gNt ?_ ?_ | refine gNf ?_ ?_ | refine cD ?_ ?_ | refine cN ?_ ?_ | refine cB ?_ ?_ | refine gB ?_ ?_ | refine stepGuard_dect ?_ ?_ | refine stepGuard_decf ?_ ?_ | refine stepGuard_ndect ?_ ?_ | refine stepGuard_ndecf ?_ ?_ | refine stepGuard_by ?_ ?_) <;> intro h)
          | with_reducible first | refine And.intro ?_ ?_ | refine J_seq ?_ | refine J_block ?_ | refine J_inBlock ?_ | refine rC ?_ | refine rR ?_ | refine rE ?_ | refine rG ?_ | refine FinQ.now ?_ | refine FinQ.end ?_)
    · cases c
      · cases pb
        · refine holds_of Tryz.func31 rfl rfl ?_
          refine J_run 200 ?_
          delta Tryz.f31
          repeat' (first
            | ((with_reducible refine J_draw (id := 2) 200 [] plan31_2 (by kernel_rfl) (by kernel_rfl) ?_); delta plan31_2)
            | (simp (maxSteps := 1000000) (disch := omega) only [go_sem, hb, hc])
            | ((with_reducible refine CallA.pure cf ?_ ?_); (· simp (disch := omega) only [go_sem, hb, hc]); rintro _ _ ⟨rfl, rfl⟩)
            | ((with_reducible refine CallA.pure ci ?_ ?_); (· simp (disch := omega) only [go_sem, hb, hc]); rintro _ _ ⟨rfl, rfl⟩)
            | ((with_reducible refine CallA.pure cp ?_ ?_); (· simp (disch := omega) only [go_sem, hb, hc]); rintro _ _ ⟨rfl, rfl⟩)
            | ((with_reducible first | refine gDt ?_ ?_ | refine gDf ?_ ?_ | refine gNt ?_ ?_ | refine gNf ?_ ?_ | refine cD ?_ ?_ | refine cN ?_ ?_ | refine cB ?_ ?_ | refine gB ?_ ?_ | refine stepGuard_dect ?_ ?_ | refine stepGuard_decf ?_ ?_ | refine stepGuard_ndect ?_ ?_ | refine stepGuard_ndecf ?_ ?_ | refine stepGuard_by ?_ ?_) <;> intro h)
            | with_reducible first | refine And.intro ?_ ?_ | refine J_seq ?_ | refine J_block ?_ | refine J_inBlock ?_ | refine rC ?_ | refine rR ?_ | refine rE ?_ | refine rG ?_ | refine FinQ.now ?_ | refine FinQ.end ?_)
        · refine holds_of Tryz.func31 rfl rfl ?_
          refine J_run 200 ?_
          delta Tryz.f31
          repeat' (first
            | ((with_reducible refine J_draw (id := 2) 200 [] plan31_2 (by kernel_rfl) (by kernel_rfl) ?_); delta plan31_2)
            | (simp (maxSteps := 1000000) (disch := omega) only [go_sem, hb, hc])
            | ((with_reducible refine CallA.pure cf ?_ ?_); (· simp (disch := omega) only [go_sem, hb, hc]); rintro _ _ ⟨rfl, rfl⟩)
            | ((with_reducible refine CallA.pure ci ?_ ?_); (· simp (disch := omega) only [go_sem, hb, hc]); rintro _ _ ⟨rfl, rfl⟩)
            | ((with_reducible refine CallA.pure cp ?_ ?_); (· simp (disch := omega) only [go_sem, hb, hc]); rintro _ _ ⟨rfl, rfl⟩)
            | ((with_reducible first | refine gDt ?_ ?_ | refine gDf ?_ ?_ | refine gNt ?_ ?_ | refine gNf ?_ ?_ | refine cD ?_ ?_ | refine cN ?_ ?_ | refine cB ?_ ?_ | refine gB ?_ ?_ | refine stepGuard_dect ?_ ?_ | refine stepGuard_decf ?_ ?_ | refine stepGuard_ndect ?_ ?_ | refine stepGuard_ndecf ?_ ?_ | refine stepGuard_by ?_ ?_) <;> intro h)
            | with_reducible first | refine And.intro ?_ ?_ | refine J_seq ?_ | refine J_block ?_ | refine J_inBlock ?_ | refine rC ?_ | refine rR ?_ | refine rE ?_ | refine rG ?_ | refine FinQ.now ?_ | refine FinQ.end ?_)
      · refine holds_of Tryz.func31 rfl rfl ?_
        refine J_run 200 ?_
        delta Tryz.f31
        repeat' (first
          | ((with_reducible refine J_draw (id := 2) 200 [] plan31_2 (by kernel_rfl) (by kernel_rfl) ?_); delta plan31_2)
          | (simp (maxSteps := 1000000) (disch := omega) only [go_sem, hb, hc])
          | ((with_reducible refine CallA.pure cf ?_ ?_); (· simp (disch := omega) only [go_sem, hb, hc]); rintro _ _ ⟨rfl, rfl⟩)
          | ((with_reducible refine CallA.pure ci ?_ ?_); (· simp (disch := omega) only [go_sem, hb, hc]); rintro _ _ ⟨rfl, rfl⟩)
          | ((with_reducible first | refine gDt ?_ ?_ | refine gDf ?_ ?_ | refine gNt ?_ ?_ | refine gNf ?_ ?_ | refine cD ?_ ?_ | refine cN ?_ ?_ | refine cB ?_ ?_ | refine gB ?_ ?_ | refine stepGuard_dect ?_ ?_ | refine stepGuard_decf ?_ ?_ | refine stepGuard_ndect ?_ ?_ | refine stepGuard_ndecf ?_ ?_ | refine stepGuard_by ?_ ?_) <;> intro h)
          | with_reducible first | refine And.intro ?_ ?_ | refine J_seq ?_ | refine J_block ?_ | refine J_inBlock ?_ | refine rC ?_ | refine rR ?_ | refine rE ?_ | refine rG ?_ | refine FinQ.now ?_ | refine FinQ.end ?_)
theorem covered1 (o : Off) (k : Int) (c : Cert) : Fn1 Tryz.prog GT0 71 [.agg (encCert c), .cptr [.raw (.int .i64 k)], .cptr (encOff o)] (.raw (.bool (forceB o k c))) [] := by
  unfold forceB
  simp only [encOff, encCert]
  refine holds_of Tryz.func71 rfl rfl ?_
  refine J_run 200 ?_
  delta Tryz.f71
  repeat' (first
    | (simp (maxSteps := 1000000) (disch := omega) only [go_sem])
    | ((with_reducible first | refine gDt ?_ ?_ | refine gDf ?_ ?_ | refine gNt ?_ ?_ | refine gNf ?_ ?_ | refine cD ?_ ?_ | refine cN ?_ ?_ | refine cB ?_ ?_ | refine gB ?_ ?_) <;> intro h)
    | with_reducible first | refine And.intro ?_ ?_ | refine J_seq ?_ | refine J_block ?_ | refine J_inBlock ?_ | refine rC ?_ | refine rR ?_ | refine rE ?_ | refine rG ?_ | refine FinQ.now ?_ | refine FinQ.end ?_)
  all_goals first | (rw [Bool.eq_iff_iff]; simp []; omega) | (simp_all []; done) | (rw [Bool.eq_iff_iff]; simp_all []; omega) | (simp_all []; omega) | omega
theorem covered2 (n : Net) (o : Off) (g : List Lk) (hg : g.length ≤ 1000000) (k : Lk) (h0 : 0 ≤ k.dev) (h1 : k.dev < n.devs.length) : Fn1 Tryz.prog GT0 72 [.agg (encLk k), .cptr (encNet n), .cptr (encOff o), .cptr [.lst 3 (g.map encLk)]] (.raw (.bool (decide (compOf n k ≠ o.comp) && !decide (k ∈ g)))) [] := by
  have hl : k.dev.toNat < n.devs.length := by omega
  have hgd := getD_Dv hl
  have cc := containsLk g hg k
  unfold compOf
  rw [getD_get hl]
  generalize decide (k ∈ g) = b at cc ⊢
  by_cases he : n.devs[k.dev.toNat].comp = o.comp
  · have hd := decide_eq_true he
    rw [decide_eq_false (by simp [he]), Bool.false_and]
    simp only [encLk, encNet, encOff, encDv] at hgd cc ⊢
    refine holds_of Tryz.func72 rfl rfl ?_
    refine J_run 200 ?_
    delta Tryz.f72
    repeat' (first
      | ((with_reducible refine J_draw (id := 1) 200 [] plan72_1 (by kernel_rfl) (by kernel_rfl) ?_); delta plan72_1)
      | (simp (maxSteps := 1000000) (disch := omega) only [go_sem, hgd, hd])
      | ((with_reducible first | refine gDt ?_ ?_ | refine gDf ?_ ?_ | refine gNt ?_ ?_ | refine gNf ?_ ?_ | refine cD ?_ ?_ | refine cN ?_ ?_ | refine cB ?_ ?_ | refine gB ?_ ?_ | refine stepGuard_dect ?_ ?_ | refine stepGuard_decf ?_ ?_ | refine stepGuard_ndect ?_ ?_ | refine stepGuard_ndecf ?_ ?_ | refine stepGuard_by ?_ ?_) <;> intro h)
      | with_reducible first | refine And.intro ?_ ?_ | refine J_seq ?_ | refine J_block ?_ | refine J_inBlock ?_ | refine rC ?_ | refine rR ?_ | refine rE ?_ | refine rG ?_ | refine FinQ.now ?_ | refine FinQ.end ?_)
    all_goals trace_state
  · have hd := decide_eq_false he
    rw [decide_eq_true (by simpa using he), Bool.true_and]
    simp only [encLk, encNet, encOff, encDv] at hgd cc ⊢
    refine holds_of Tryz.func72 rfl rfl ?_
    refine J_run 200 ?_
    delta Tryz.f72
    repeat' (first
      | ((with_reducible refine J_draw (id := 1) 200 [] plan72_1 (by kernel_rfl) (by kernel_rfl) ?_); delta plan72_1)
      | (simp (maxSteps := 1000000) (disch := omega) only [go_sem, hgd, hd])
      | ((with_reducible refine CallA.pure cc ?_ ?_); (· simp (disch := omega) only [go_sem, hgd, hd]); rintro _ _ ⟨rfl, rfl⟩)
      | ((with_reducible first | refine gDt ?_ ?_ | refine gDf ?_ ?_ | refine gNt ?_ ?_ | refine gNf ?_ ?_ | refine cD ?_ ?_ | refine cN ?_ ?_ | refine cB ?_ ?_ | refine gB ?_ ?_ | refine stepGuard_dect ?_ ?_ | refine stepGuard_decf ?_ ?_ | refine stepGuard_ndect ?_ ?_ | refine stepGuard_ndecf ?_ ?_ | refine stepGuard_by ?_ ?_) <;> intro h)
      | with_reducible first | refine And.intro ?_ ?_ | refine J_seq ?_ | refine J_block ?_ | refine J_inBlock ?_ | refine rC ?_ | refine rR ?_ | refine rE ?_ | refine rG ?_ | refine FinQ.now ?_ | refine FinQ.end ?_)
    all_goals trace_state
theorem inForce_at {o : Off} {k : Int} (h : 0 ≤ firstAt (forceB o k) o.certs) : ∃ hl : (firstAt (forceB o k) o.certs).toNat < o.certs.length, inForce o k = some o.certs[(firstAt (forceB o k) o.certs).toNat] := by
  have h1 := firstAt_lt _ h
  refine ⟨by omega, ?_⟩
  unfold inForce
  rw [firstAt_find h, List.getElem?_eq_getElem (by omega)]
theorem inForce_no {o : Off} {k : Int} (h : ¬ 0 ≤ firstAt (forceB o k) o.certs) : inForce o k = none := by
  unfold inForce
  rw [List.find?_eq_none]
  intro x hx hp
  exact h ((firstAt_ge' _).2 (List.any_eq_true.2 ⟨x, hx, hp⟩))
theorem givenL_next {o : Off} {l : List Int} {i : Nat} (hi : i < l.length) : givenL o (l.take (i + 1)) = givenL o (l.take i) ++ ((inForce o l[i]).getD .zero).locks := by
  unfold givenL
  rw [List.take_succ_eq_append_getElem hi, List.flatMap_append]
  congr 1
  simp
theorem inForce_mem {o : Off} {k : Int} {c : Cert} (h : inForce o k = some c) : c ∈ o.certs := List.mem_of_find?_eq_some h
theorem givenL_len {o : Off} (hcl : ∀ c, c ∈ o.certs → c.locks.length ≤ 128) (l : List Int) : (givenL o l).length ≤ l.length * 128 := by
  induction l with
  | nil => simp [givenL]
  | cons k l ih =>
    have h1 : (((inForce o k).getD .zero).locks).length ≤ 128 := by
      cases h : inForce o k with
      | none => simp [Cert.zero]
      | some c => exact hcl c (inForce_mem h)
    have e : givenL o (k :: l) = ((inForce o k).getD .zero).locks ++ givenL o l := rfl
    rw [e, List.length_append, List.length_cons]
    omega
theorem covered_no {n : Net} {o : Off} {d : Doc} {i : Nat} (hi : i < d.certs.length) (h : inForce o d.certs[i] = none) : coveredB n o d = false := by
  have : d.certs.all (fun k => (inForce o k).isSome) = false := by
    rw [List.all_eq_false]
    exact ⟨_, List.getElem_mem hi, by rw [h]; exact Bool.false_ne_true⟩
  unfold coveredB
  rw [this]; rfl
theorem covered_yes {n : Net} {o : Off} {d : Doc} (h : ∀ j (hj : j < d.certs.length), (inForce o d.certs[j]).isSome = true) : coveredB n o d = !(d.locks.any fun k => decide (compOf n k ≠ o.comp) && !decide (k ∈ givenL o d.certs)) := by
  have : d.certs.all (fun k => (inForce o k).isSome) = true := by
    rw [List.all_eq_true]
    intro x hx
    obtain ⟨j, hj, rfl⟩ := List.getElem_of_mem hx
    exact h j hj
  unfold coveredB
  rw [this, Bool.true_and]
set_option maxHeartbeats 8000000 in
theorem coveredF (n : Net) (hs : n.sized) (o : Off) (ho : o.sized) (hcl : ∀ c, c ∈ o.certs → c.locks.length ≤ 128) (d : Doc) (hd : d.sized) (hdc : d.certs.length ≤ 1000) (hdk : lockChk n d.locks = 0) : Fn1 Tryz.prog GT0 37 [.agg (encNet n), .agg (encOff o), .agg (encDoc d)] (.raw (.bool (coveredB n o d))) [] := by
  have hno := lockChk_dev hdk
  have hdll := hd.ll
  simp only [encNet, encOff, encDoc]
  refine holds_of Tryz.func37 rfl rfl ?_
  refine J_run 200 ?_
  delta Tryz.f37
  repeat' (first
    | ((with_reducible refine J_draw (id := 8) 200 [] plan37_8 (by kernel_rfl) (by kernel_rfl) ?_); delta plan37_8)
    | (simp (maxSteps := 1000000) (disch := omega) only [go_sem])
    | ((with_reducible first | refine gDt ?_ ?_ | refine gDf ?_ ?_ | refine gNt ?_ ?_ | refine gNf ?_ ?_ | refine cD ?_ ?_ | refine cN ?_ ?_ | refine cB ?_ ?_ | refine gB ?_ ?_ | refine stepGuard_dect ?_ ?_ | refine stepGuard_decf ?_ ?_ | refine stepGuard_ndect ?_ ?_ | refine stepGuard_ndecf ?_ ?_ | refine stepGuard_by ?_ ?_) <;> intro h)
    | with_reducible first | refine And.intro ?_ ?_ | refine J_seq ?_ | refine J_block ?_ | refine J_inBlock ?_ | refine rC ?_ | refine rR ?_ | refine rE ?_ | refine rG ?_ | refine FinQ.now ?_ | refine FinQ.end ?_)
  refine J_sem (SemLe.nilBox 3 0 3 (cs := [.raw (.slice none 0 0)]) rfl rfl) ?_
  simp only [go_sem]
  refine J_for ([9, 10] ++ upto 15 32) (fun i : Nat => [(14, .raw (.int .i64 i))]) (fun i => [.box (encNet n), .box (encOff o), .box (encDoc d), .box [.own 4 3 0 (givenL o (d.certs.take i)).length], .arr 3 ((givenL o (d.certs.take i)).map encLk)]) (fun i => i ≤ (d.certs).length ∧ (∀ j (hj : j < d.certs.length), j < i → (inForce o d.certs[j]).isSome = true)) (fun i => (d.certs).length - i) 0 ⟨by omega, fun j hj h => by omega⟩ (.le (by simp [go_sem, encNet, encOff, encDoc, givenL]) (by simp)) ?_
  rintro i ⟨hi, hpre⟩
  simp only [encNet, encOff, encDoc]
  have hgl := givenL_len hcl (d.certs.take i)
  rw [List.length_take] at hgl
  by_cases hlt : i < d.certs.length
  · have hg := getD_N hlt
    have ci := indexFuncC o.certs 71 [.cptr [.raw (.int .i64 d.certs[i])], .cptr (encOff o)] rfl (forceB o d.certs[i]) ho.cl fun c _ => covered1 o d.certs[i] c
    by_cases hf : 0 ≤ firstAt (forceB o d.certs[i]) o.certs
    · obtain ⟨hq, he⟩ := inForce_at hf
      have hnx := givenL_next (o := o) hlt
      obtain ⟨q, hqe⟩ : ∃ q : Nat, firstAt (forceB o d.certs[i]) o.certs = q := ⟨_, (Int.toNat_of_nonneg hf).symm⟩
      simp only [hqe, Int.toNat_natCast] at hq he
      rw [hqe] at ci
      rw [he, Option.getD_some] at hnx
      have hql := hcl _ (List.getElem_mem hq)
      have hgc := getD_Cert hq
      simp only [encOff] at ci
      simp only [encCert] at hgc
      refine J_run 200 ?_
      repeat' (first
        | ((with_reducible refine J_draw (id := 8) 200 [] plan37_8 (by kernel_rfl) (by kernel_rfl) ?_); delta plan37_8)
        | (simp (maxSteps := 1000000) (disch := omega) only [go_sem, hg, hgc, Nat.reduceLT])
        | ((with_reducible refine CallA.keep [1,5] ?_ ?_ ci ?_); (· simp (disch := omega) only [go_sem, hg, hgc, Nat.reduceLT]); (· simp (disch := omega) only [go_sem, hg, hgc, Nat.reduceLT]); rintro _ _ ⟨rfl, rfl⟩; refine ⟨⟨rfl, fun _ h => by cases h⟩, ?_⟩)
        | ((with_reducible first | refine gDt ?_ ?_ | refine gDf ?_ ?_ | refine gNt ?_ ?_ | refine gNf ?_ ?_ | refine cD ?_ ?_ | refine cN ?_ ?_ | refine cB ?_ ?_ | refine gB ?_ ?_ | refine stepGuard_dect ?_ ?_ | refine stepGuard_decf ?_ ?_ | refine stepGuard_ndect ?_ ?_ | refine stepGuard_ndecf ?_ ?_ | refine stepGuard_by ?_ ?_) <;> intro h)
        | with_reducible first | refine And.intro ?_ ?_ | refine J_seq ?_ | refine J_block ?_ | refine J_inBlock ?_ | refine rC ?_ | refine rR ?_ | refine rE ?_ | refine rG ?_ | refine FinQ.now ?_ | refine FinQ.end ?_)
      refine .mk (i + 1) ⟨hlt, fun j hj hji => ?_⟩ (by omega) (by rw [hnx]; simp [go_sem, encNet, encOff, encDoc]) (by simp)
      rcases Nat.lt_succ_iff_lt_or_eq.1 hji with h3 | rfl
      · exact hpre j hj h3
      · rw [he]; rfl
    · have he := inForce_no hf
      have hm : firstAt (forceB o d.certs[i]) o.certs = -1 := by have := firstAt_lo (p := forceB o d.certs[i]) o.certs; omega
      rw [hm] at ci
      rw [covered_no hlt he]
      simp only [encOff] at ci
      refine J_run 200 ?_
      repeat' (first
        | ((with_reducible refine J_draw (id := 8) 200 [] plan37_8 (by kernel_rfl) (by kernel_rfl) ?_); delta plan37_8)
        | (simp (maxSteps := 1000000) (disch := omega) only [go_sem, hg, Nat.reduceLT])
        | ((with_reducible refine CallA.keep [1,5] ?_ ?_ ci ?_); (· simp (disch := omega) only [go_sem, hg, Nat.reduceLT]); (· simp (disch := omega) only [go_sem, hg, Nat.reduceLT]); rintro _ _ ⟨rfl, rfl⟩; refine ⟨⟨rfl, fun _ h => by cases h⟩, ?_⟩)
        | ((with_reducible first | refine gDt ?_ ?_ | refine gDf ?_ ?_ | refine gNt ?_ ?_ | refine gNf ?_ ?_ | refine cD ?_ ?_ | refine cN ?_ ?_ | refine cB ?_ ?_ | refine gB ?_ ?_ | refine stepGuard_dect ?_ ?_ | refine stepGuard_decf ?_ ?_ | refine stepGuard_ndect ?_ ?_ | refine stepGuard_ndecf ?_ ?_ | refine stepGuard_by ?_ ?_) <;> intro h)
        | with_reducible first | refine And.intro ?_ ?_ | refine J_seq ?_ | refine J_block ?_ | refine J_inBlock ?_ | refine rC ?_ | refine rR ?_ | refine rE ?_ | refine rG ?_ | refine FinQ.now ?_ | refine FinQ.end ?_)
  · have hie : i = d.certs.length := by omega
    subst hie
    rw [List.take_length] at hgl ⊢
    have cf := containsFuncL d.locks 72 [.cptr (encNet n), .cptr (encOff o), .cptr [.lst 3 ((givenL o d.certs).map encLk)]] rfl (fun k => decide (compOf n k ≠ o.comp) && !decide (k ∈ givenL o d.certs)) (by omega) fun k hk => covered2 n o _ (by omega) k (hno k hk).1 (hno k hk).2
    rw [covered_yes fun j hj => hpre j hj hj]
    generalize (d.locks.any fun k => decide (compOf n k ≠ o.comp) && !decide (k ∈ givenL o d.certs)) = b at cf ⊢
    simp only [encNet, encOff] at cf
    refine J_run 200 ?_
    repeat' (first
      | ((with_reducible refine J_draw (id := 8) 200 [] plan37_8 (by kernel_rfl) (by kernel_rfl) ?_); delta plan37_8)
      | (simp (maxSteps := 1000000) (disch := omega) only [go_sem, take_lm, Nat.reduceLT])
      | ((with_reducible refine CallA.give [0,1,3,4] ?_ ?_ cf ?_); (· simp (disch := omega) only [go_sem, take_lm, Nat.reduceLT]); (· simp (disch := omega) only [go_sem, take_lm, Nat.reduceLT]); rintro _ _ ⟨rfl, rfl⟩)
      | ((with_reducible first | refine gDt ?_ ?_ | refine gDf ?_ ?_ | refine gNt ?_ ?_ | refine gNf ?_ ?_ | refine cD ?_ ?_ | refine cN ?_ ?_ | refine cB ?_ ?_ | refine gB ?_ ?_ | refine stepGuard_dect ?_ ?_ | refine stepGuard_decf ?_ ?_ | refine stepGuard_ndect ?_ ?_ | refine stepGuard_ndecf ?_ ?_ | refine stepGuard_by ?_ ?_) <;> intro h)
      | with_reducible first | refine And.intro ?_ ?_ | refine J_seq ?_ | refine J_block ?_ | refine J_inBlock ?_ | refine rC ?_ | refine rR ?_ | refine rE ?_ | refine rG ?_ | refine FinQ.now ?_ | refine FinQ.end ?_)
end Go.Proofs.YtmfgaefefgnhbaaGreatDoor.Abs
