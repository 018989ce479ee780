/- Documents: their parts' checks, in the program and in the reference. -/
import Derived.Test.YtmfgaefefgnhbaaGreatDoorOA
import Derived.Test.YtmfgaefefgnhbaaGreatDoorRV
import Derived.Test.YtmfgaefefgnhbaaGreatDoorR4
namespace Go.Proofs.YtmfgaefefgnhbaaGreatDoor.Abs
set_option linter.unusedSimpArgs false
set_option linter.unusedVariables false
set_option maxRecDepth 100000
open Go Go.RowKit

theorem numberedF (k : Int) : Fn1 Tryz.prog GT0 56 [.raw (.int .i64 k)] (.raw (.bool (decide (1 ≤ k ∧ k ≤ 65536)))) [] := by
  refine holds_of Tryz.func56 rfl rfl ?_
  refine J_run 200 ?_
  delta Tryz.f56
  repeat' (first
    | (simp (maxSteps := 1000000) (disch := omega) only [go_sem])
    | ((with_reducible first | refine gDt ?_ ?_ | refine gDf ?_ ?_ | refine gNt ?_ ?_ | refine gNf ?_ ?_ | refine cD ?_ ?_ | refine cN ?_ ?_ | refine cB ?_ ?_ | refine gB ?_ ?_) <;> intro h)
    | with_reducible first | refine And.intro ?_ ?_ | refine J_seq ?_ | refine J_block ?_ | refine J_inBlock ?_ | refine rC ?_ | refine rR ?_ | refine rE ?_ | refine rG ?_ | refine FinQ.now ?_ | refine FinQ.end ?_)
  all_goals first | (simp_all []; done) | (simp_all []; omega) | omega
theorem validSp (a b : Int) : Fn1 Tryz.prog GT0 59 [.agg [.raw (.int .i64 a), .raw (.int .i64 b)]] (.raw (.bool (spanB a b))) [] := by
  refine holds_of Tryz.func59 rfl rfl ?_
  refine J_run 200 ?_
  delta Tryz.f59
  repeat' (first
    | (simp (maxSteps := 1000000) (disch := omega) only [go_sem])
    | ((with_reducible first | refine gDt ?_ ?_ | refine gDf ?_ ?_ | refine gNt ?_ ?_ | refine gNf ?_ ?_ | refine cD ?_ ?_ | refine cN ?_ ?_ | refine cB ?_ ?_ | refine gB ?_ ?_) <;> intro h)
    | with_reducible first | refine And.intro ?_ ?_ | refine J_seq ?_ | refine J_block ?_ | refine J_inBlock ?_ | refine rC ?_ | refine rR ?_ | refine rE ?_ | refine rG ?_ | refine FinQ.now ?_ | refine FinQ.end ?_)
  all_goals first | (simp_all [spanB]; done) | (simp_all [spanB]; omega) | omega
theorem activeF (x : Doc) : Fn1 Tryz.prog GT0 73 [.agg (encDoc x)] (.raw (.bool (activeB x))) [] := by
  refine holds_of Tryz.func73 rfl rfl ?_
  refine J_run 200 ?_
  delta Tryz.f73
  simp only [encDoc]
  repeat' (first
    | (simp (maxSteps := 1000000) (disch := omega) only [go_sem])
    | ((with_reducible first | refine gDt ?_ ?_ | refine gDf ?_ ?_ | refine gNt ?_ ?_ | refine gNf ?_ ?_ | refine cD ?_ ?_ | refine cN ?_ ?_ | refine cB ?_ ?_ | refine gB ?_ ?_) <;> intro h)
    | with_reducible first | refine And.intro ?_ ?_ | refine J_seq ?_ | refine J_block ?_ | refine J_inBlock ?_ | refine rC ?_ | refine rR ?_ | refine rE ?_ | refine rG ?_ | refine FinQ.now ?_ | refine FinQ.end ?_)
  all_goals first | (simp_all [activeB]; done) | (simp_all [activeB]; omega) | omega
theorem certChk_hit {l : List Int} (h16 : ¬ 16 < l.length) {i : Nat} (hi : i < l.length) (hpre : ∀ j, j < i → cErr l j = 0) {e : Int} (he : cErr l i = e) (h0 : e ≠ 0) : certChk l = e := by
  unfold certChk
  rw [if_neg h16, firstE_hit hi hpre (by omega), he]
theorem cErr_at {l : List Int} {i : Nat} (hi : i < l.length) : cErr l i = if l[i] < 1 ∨ 65536 < l[i] ∨ (0 < i ∧ l[i] ≤ l[i - 1]'(by omega)) then 48 else 0 := by
  unfold cErr
  rw [getD_get hi, getD_get (show i - 1 < l.length by omega)]
set_option maxHeartbeats 4000000 in
theorem certsF (l : List Int) (hl : l.length ≤ 1000000) : Fn1 Tryz.prog GT0 60 [.lst 1 (l.map encN)] (.raw (.int .i64 (certChk l))) [] := by
  by_cases h16 : 16 < l.length
  · have e : certChk l = 1 := if_pos h16
    rw [e]
    refine holds_of Tryz.func60 rfl rfl ?_
    refine J_run 200 ?_
    delta Tryz.f60
    iterate 10 (all_goals (try (first
      | (simp (maxSteps := 1000000) (disch := omega) only [go_sem])
      | ((with_reducible first | refine gDt ?_ ?_ | refine gDf ?_ ?_ | refine gNt ?_ ?_ | refine gNf ?_ ?_ | refine cD ?_ ?_ | refine cN ?_ ?_ | refine cB ?_ ?_ | refine gB ?_ ?_) <;> intro h)
      | with_reducible first | refine And.intro ?_ ?_ | refine J_seq ?_ | refine J_block ?_ | refine J_inBlock ?_ | refine rC ?_ | refine rR ?_ | refine rE ?_ | refine rG ?_ | refine FinQ.now ?_ | refine FinQ.end ?_)))
  refine holds_of Tryz.func60 rfl rfl ?_
  refine J_run 200 ?_
  delta Tryz.f60
  iterate 10 (all_goals (try (first
    | (simp (maxSteps := 1000000) (disch := omega) only [go_sem])
    | ((with_reducible first | refine gDt ?_ ?_ | refine gDf ?_ ?_ | refine gNt ?_ ?_ | refine gNf ?_ ?_ | refine cD ?_ ?_ | refine cN ?_ ?_ | refine cB ?_ ?_ | refine gB ?_ ?_) <;> intro h)
    | with_reducible first | refine And.intro ?_ ?_ | refine J_seq ?_ | refine J_block ?_ | refine J_inBlock ?_ | refine rC ?_ | refine rR ?_ | refine rE ?_ | refine rG ?_ | refine FinQ.now ?_ | refine FinQ.end ?_)))
  refine J_for ([3, 4] ++ upto 11 31) (fun i : Nat => [(10, .raw (.int .i64 i))]) (fun i => []) (fun i => i ≤ l.length ∧ ∀ j, j < i → cErr l j = 0) (fun i => l.length - i) 0 ⟨by omega, by omega⟩ (.le (by simp [go_sem]) (by simp)) ?_
  rintro i ⟨hi, hpre⟩
  by_cases hlt : i < l.length
  · have hne := fun e => certChk_hit (e := e) h16 hlt hpre
    rw [cErr_at hlt] at hne
    have cn := numberedF l[i]
    have e1 : ((i : Int) - 1).toNat = i - 1 := by omega
    have hg' : (l.map encN).getD (i - 1) [] = [.raw (.int .i64 (l[i - 1]'(by omega)))] := getD_N (by omega)
    refine J_run 200 ?_
    iterate 14 (all_goals (try (first
      | (simp (maxSteps := 1000000) (disch := omega) only [go_sem, getD_N, e1, hg'])
      | ((with_reducible refine CallA.pure cn ?_ ?_); (· simp (disch := omega) only [go_sem, getD_N, e1, hg']); rintro _ _ ⟨rfl, rfl⟩)
      | ((with_reducible first | refine gDt ?_ ?_ | refine gDf ?_ ?_ | refine gNt ?_ ?_ | refine gNf ?_ ?_ | refine cD ?_ ?_ | refine cN ?_ ?_ | refine cB ?_ ?_ | refine gB ?_ ?_) <;> intro h)
      | with_reducible first | refine And.intro ?_ ?_ | refine J_seq ?_ | refine J_block ?_ | refine J_inBlock ?_ | refine rC ?_ | refine rR ?_ | refine rE ?_ | refine rG ?_ | refine FinQ.now ?_ | refine FinQ.end ?_)))
    all_goals first
      | (have e48 := hne 48 (if_pos (by omega)) (by decide); rw [e48]; done)
      | (refine .mk (i + 1) ⟨hlt, fun j hji => ?_⟩ (by omega) (by simp [go_sem]) (by simp); rcases Nat.lt_succ_iff_lt_or_eq.1 hji with h3 | rfl; (· exact hpre j h3); (· rw [cErr_at hlt]; exact if_neg (by omega)))
      | trace_state
  · have e : certChk l = 0 := by
      unfold certChk
      rw [if_neg h16]
      exact firstE_none fun j hj => hpre j (by omega)
    refine J_run 200 ?_
    rw [e]
    iterate 10 (all_goals (try (first
      | (simp (maxSteps := 1000000) (disch := omega) only [go_sem])
      | ((with_reducible first | refine gDt ?_ ?_ | refine gDf ?_ ?_ | refine gNt ?_ ?_ | refine gNf ?_ ?_ | refine cD ?_ ?_ | refine cN ?_ ?_ | refine cB ?_ ?_ | refine gB ?_ ?_) <;> intro h)
      | with_reducible first | refine And.intro ?_ ?_ | refine J_seq ?_ | refine J_block ?_ | refine J_inBlock ?_ | refine rC ?_ | refine rR ?_ | refine rE ?_ | refine rG ?_ | refine FinQ.now ?_ | refine FinQ.end ?_)))
set_option maxHeartbeats 16000000 in
theorem docCheck (n : Net) (hs : n.sized) (x : Doc) (hx : x.sized) : Fn1 Tryz.prog GT0 18 [.agg (encNet n), .agg (encDoc x)] (.raw (.int .i64 (docChk n x))) [] := by
  have c0 := netCheck n hs
  have cz := checkZ n hs x.zone hx.zl
  have cl := lockCheck n hs x.locks hx.ll
  have ci := nameF x.iss hx.il
  have ch := nameF x.hol hx.hl
  have cv := validSp x.frm x.til
  have cc := certsF x.certs hx.cl
  have cn := numberedF x.num
  unfold docChk headE peopleE
  obtain ⟨e0, h0⟩ : ∃ e, n.chk = e := ⟨_, rfl⟩
  obtain ⟨ez, hz⟩ : ∃ e, zoneChk n x.zone = e := ⟨_, rfl⟩
  obtain ⟨el, hl⟩ : ∃ e, lockChk n x.locks = e := ⟨_, rfl⟩
  obtain ⟨ec, hc⟩ : ∃ e, certChk x.certs = e := ⟨_, rfl⟩
  obtain ⟨bi, hbi⟩ : ∃ e, isName x.iss = e := ⟨_, rfl⟩
  obtain ⟨bh, hbh⟩ : ∃ e, isName x.hol = e := ⟨_, rfl⟩
  obtain ⟨bv, hbv⟩ : ∃ e, spanB x.frm x.til = e := ⟨_, rfl⟩
  rw [h0] at c0 ⊢; rw [hz] at cz ⊢; rw [hl] at cl ⊢; rw [hc] at cc ⊢; rw [hbi] at ci ⊢; rw [hbh] at ch ⊢; rw [hbv] at cv ⊢
  clear h0 hz hl hc hbi hbh hbv
  refine holds_of Tryz.func18 rfl rfl ?_
  refine J_run 200 ?_
  delta Tryz.f18
  simp only [encNet, encDoc] at c0 cz cl ci ch cv cc cn ⊢
  repeat' (first
    | (simp (maxSteps := 1000000) (disch := omega) only [go_sem])
    | ((with_reducible refine CallA.pure c0 ?_ ?_); (· simp (disch := omega) only [go_sem]); rintro _ _ ⟨rfl, rfl⟩)
    | ((with_reducible refine CallA.pure cn ?_ ?_); (· simp (disch := omega) only [go_sem]); rintro _ _ ⟨rfl, rfl⟩)
    | ((with_reducible refine CallA.pure cz ?_ ?_); (· simp (disch := omega) only [go_sem]); rintro _ _ ⟨rfl, rfl⟩)
    | ((with_reducible refine CallA.pure cl ?_ ?_); (· simp (disch := omega) only [go_sem]); rintro _ _ ⟨rfl, rfl⟩)
    | ((with_reducible refine CallA.pure ci ?_ ?_); (· simp (disch := omega) only [go_sem]); rintro _ _ ⟨rfl, rfl⟩)
    | ((with_reducible refine CallA.pure ch ?_ ?_); (· simp (disch := omega) only [go_sem]); rintro _ _ ⟨rfl, rfl⟩)
    | ((with_reducible refine CallA.pure cv ?_ ?_); (· simp (disch := omega) only [go_sem]); rintro _ _ ⟨rfl, rfl⟩)
    | ((with_reducible refine CallA.pure cc ?_ ?_); (· simp (disch := omega) only [go_sem]); rintro _ _ ⟨rfl, rfl⟩)
    | ((with_reducible first | refine gDt ?_ ?_ | refine gDf ?_ ?_ | refine gNt ?_ ?_ | refine gNf ?_ ?_ | refine cD ?_ ?_ | refine cN ?_ ?_ | refine cB ?_ ?_ | refine gB ?_ ?_) <;> intro h)
    | with_reducible first | refine And.intro ?_ ?_ | refine J_seq ?_ | refine J_block ?_ | refine J_inBlock ?_ | refine rC ?_ | refine rR ?_ | refine rE ?_ | refine rG ?_ | refine FinQ.now ?_ | refine FinQ.end ?_)
  all_goals first | (simp_all []; done) | (simp_all []; omega) | omega
end Go.Proofs.YtmfgaefefgnhbaaGreatDoor.Abs
