/- Documents: their check in the reference; lists of them. -/
import Derived.Test.YtfkiomkfoabnhaaDoorDA
import Derived.Test.YtfkiomkfoabnhaaDoorAbsX
namespace Go.Proofs.YtfkiomkfoabnhaaDoor.Abs
set_option linter.unusedSimpArgs false
set_option linter.unusedVariables false
set_option maxRecDepth 100000
open Go Go.RowKit

set_option maxHeartbeats 16000000 in
theorem rDocCheck (n : Net) (hs : n.sized) (x : Doc) (hx : x.sized) : Fn1 Tryd.prog GT0 19 [.agg (encNet n), .agg (encDoc x)] (.raw (.int .i64 (docChk n x))) [] := by
  have c0 := refCheck n hs
  have cz := rZone n hs x.zone hx.zl
  have cl := rLockChk n hs x.locks hx.ll
  have ci := rName x.iss hx.il
  have ch := rName x.hol hx.hl
  have cv := rValidSp x.frm x.til
  have hcl := hx.cl
  unfold docChk headE peopleE
  obtain ⟨e0, h0⟩ : ∃ e, n.chk = e := ⟨_, rfl⟩
  obtain ⟨ez, hz⟩ : ∃ e, zoneChk n x.zone = e := ⟨_, rfl⟩
  obtain ⟨el, hl⟩ : ∃ e, lockChk n x.locks = e := ⟨_, rfl⟩
  obtain ⟨ec, hc⟩ : ∃ e, certChk x.certs = e := ⟨_, rfl⟩
  obtain ⟨bi, hbi⟩ : ∃ e, isName x.iss = e := ⟨_, rfl⟩
  obtain ⟨bh, hbh⟩ : ∃ e, isName x.hol = e := ⟨_, rfl⟩
  obtain ⟨bv, hbv⟩ : ∃ e, spanB x.frm x.til = e := ⟨_, rfl⟩
  rw [h0] at c0 ⊢; rw [hz] at cz ⊢; rw [hl] at cl ⊢; rw [hc]; rw [hbi] at ci ⊢; rw [hbh] at ch ⊢; rw [hbv] at cv ⊢
  clear h0 hz hl hbi hbh hbv
  have h16 : 16 < x.certs.length → ec = 1 := fun h => by rw [← hc]; exact if_pos h
  obtain ⟨xnum, xkind, xstate, xround, xzone, xsafe, xlocks, xiss, xhol, xfrm, xtil, xcerts⟩ := x
  simp only at *
  clear hx
  refine holds_of Tryd.func19 rfl rfl ?_
  refine J_run 200 ?_
  delta Tryd.f19
  simp only [encNet, encDoc] at c0 cz cl ci ch cv ⊢
  repeat' (first
    | (simp (maxSteps := 1000000) (disch := omega) only [go_sem])
    | ((with_reducible refine CallA.pure c0 ?_ ?_); (· simp (disch := omega) only [go_sem]); rintro _ _ ⟨rfl, rfl⟩)
    | ((with_reducible refine CallA.pure cz ?_ ?_); (· simp (disch := omega) only [go_sem]); rintro _ _ ⟨rfl, rfl⟩)
    | ((with_reducible refine CallA.pure cl ?_ ?_); (· simp (disch := omega) only [go_sem]); rintro _ _ ⟨rfl, rfl⟩)
    | ((with_reducible refine CallA.pure ci ?_ ?_); (· simp (disch := omega) only [go_sem]); rintro _ _ ⟨rfl, rfl⟩)
    | ((with_reducible refine CallA.pure ch ?_ ?_); (· simp (disch := omega) only [go_sem]); rintro _ _ ⟨rfl, rfl⟩)
    | ((with_reducible refine CallA.pure cv ?_ ?_); (· simp (disch := omega) only [go_sem]); rintro _ _ ⟨rfl, rfl⟩)
    | ((with_reducible first | refine gDt ?_ ?_ | refine gDf ?_ ?_ | refine gNt ?_ ?_ | refine gNf ?_ ?_ | refine cD ?_ ?_ | refine cN ?_ ?_ | refine cB ?_ ?_ | refine gB ?_ ?_) <;> intro h)
    | with_reducible first | refine And.intro ?_ ?_ | refine J_seq ?_ | refine J_block ?_ | refine J_inBlock ?_ | refine rC ?_ | refine rR ?_ | refine rE ?_ | refine rG ?_ | refine FinQ.now ?_ | refine FinQ.end ?_)
  all_goals first
    | (with_reducible refine J_for ([9] ++ upto 100 132) (fun i : Nat => [(8, .raw (.int .i64 i))]) (fun i => [.box (encNet n), .box (encDoc ⟨xnum, xkind, xstate, xround, xzone, xsafe, xlocks, xiss, xhol, xfrm, xtil, xcerts⟩)]) (fun i => i ≤ xcerts.length ∧ ∀ j, j < i → cErr xcerts j = 0) (fun i => xcerts.length - i) 0 ⟨by omega, by omega⟩ (.le (by simp [go_sem, encNet, encDoc]) (by simp)) ?_)
    | (simp_all; done)
    | (simp_all; omega)
  have h16' : ¬ 16 < xcerts.length := by omega
  rintro i ⟨hi, hpre⟩
  simp only [encNet, encDoc]
  by_cases hlt : i < xcerts.length
  · have hne := fun e => certChk_hit (e := e) h16' hlt hpre
    rw [cErr_at hlt, hc] at hne
    have e1 : ((i : Int) - 1).toNat = i - 1 := by omega
    have hg' : (xcerts.map encN).getD (i - 1) [] = [.raw (.int .i64 (xcerts[i - 1]'(by omega)))] := getD_N (by omega)
    have hend : ¬ (xcerts[i] < 1 ∨ 65536 < xcerts[i] ∨ (0 < i ∧ xcerts[i] ≤ xcerts[i - 1]'(by omega))) → ∀ j, j < i + 1 → cErr xcerts j = 0 := fun h j hj => by
      rcases Nat.lt_succ_iff_lt_or_eq.1 hj with h3 | rfl
      · exact hpre j h3
      · rw [cErr_at hlt]; exact if_neg h
    refine J_run 200 ?_
    iterate 14 (all_goals (try (first
      | (simp (maxSteps := 1000000) (disch := omega) only [go_sem, getD_N, e1, hg'])
      | ((with_reducible first | refine gDt ?_ ?_ | refine gDf ?_ ?_ | refine gNt ?_ ?_ | refine gNf ?_ ?_ | refine cD ?_ ?_ | refine cN ?_ ?_ | refine cB ?_ ?_ | refine gB ?_ ?_) <;> intro h)
      | with_reducible first | refine And.intro ?_ ?_ | refine J_seq ?_ | refine J_block ?_ | refine J_inBlock ?_ | refine rC ?_ | refine rR ?_ | refine rE ?_ | refine rG ?_ | refine FinQ.now ?_ | refine FinQ.end ?_)))
    all_goals first
      | (have e48 := hne 48 (if_pos (by omega)) (by decide); clear hne hend hpre hc h16 e1 hg' c0 cz cl ci ch cv; subst e48; simp_all; done)
      | (have e48 := hne 48 (if_pos (by omega)) (by decide); clear hne hend hpre hc h16 e1 hg' c0 cz cl ci ch cv; subst e48; simp_all; omega)
      | (refine .mk (i + 1) ⟨hlt, hend (by omega)⟩ (by omega) (by simp [go_sem, encNet, encDoc]) (by simp))
      | trace_state
  · have e : ec = 0 := by
      rw [← hc]
      unfold certChk
      rw [if_neg h16']
      exact firstE_none fun j hj => hpre j (by omega)
    refine J_run 200 ?_
    iterate 10 (all_goals (try (first
      | (simp (maxSteps := 1000000) (disch := omega) only [go_sem])
      | ((with_reducible first | refine gDt ?_ ?_ | refine gDf ?_ ?_ | refine gNt ?_ ?_ | refine gNf ?_ ?_ | refine cD ?_ ?_ | refine cN ?_ ?_ | refine cB ?_ ?_ | refine gB ?_ ?_) <;> intro h)
      | with_reducible first | refine And.intro ?_ ?_ | refine J_seq ?_ | refine J_block ?_ | refine J_inBlock ?_ | refine rC ?_ | refine rR ?_ | refine rE ?_ | refine rG ?_ | refine FinQ.now ?_ | refine FinQ.end ?_)))
    clear hpre hc h16 c0 cz cl ci ch cv
    subst e
    simp_all
    (repeat' split) <;> omega
end Go.Proofs.YtfkiomkfoabnhaaDoor.Abs
