import Derived.Test.YtfkfehlnjcbcbaaLA
import Derived.Test.YtfkfehlnjcbcbaaLM
namespace Go.Proofs.Ytfkfehlnjcbcbaa.Abs
set_option linter.unusedSimpArgs false
set_option linter.unusedVariables false
open Go Go.RowKit

theorem indexFunc45 (ys : List ByteArray) (fn : FuncId) (cap : List AV) (hcap : AV.immL cap = true) (pr : ByteArray → Bool)
   (hp : ∀ y, y ∈ ys → Fn1 Try.prog [] fn (.raw (.string y) :: cap) (.raw (.bool (pr y))) []) :
   Fn1 Try.prog [] 45 [.lst 1 (ys.map encS), .clo (.func fn) [] cap] (.raw (.int .i64 (firstAt pr ys))) [] := by
  refine holds_bnd (enters_of Try.func45 rfl rfl) fun hb _ => ?_
  have hlen : ys.length ≤ 9223372036854775807 := by
    have := (hb _ (List.mem_cons_self ..)).len
    simpa [maxLen] using this
  clear hb
  have hcapk := fun s => AV.keepsL_imm s cap hcap
  refine holds_of Try.func45 rfl rfl ?_
  refine J_run 100 ?_
  delta Try.f45
  simp (disch := omega) only [go_sem]
  refine J_for (5 :: upto 9 18) (fun i : Nat => [(8, .raw (.int .i64 i))]) (fun _ => []) (fun i => i ≤ ys.length ∧ ∀ j (hj : j < i) (hx : j < ys.length), pr ys[j] = false) (fun i => ys.length - i) 0 ⟨by omega, by omega⟩ (.le (by simp [go_sem, hcapk]) (by simp)) ?_
  rintro i ⟨hi, hpre⟩
  by_cases hlt : i < ys.length
  · have hpx := hp _ (List.getElem_mem hlt)
    refine J_run 100 ?_
    simp (disch := omega) only [go_sem, getD_map, encS]
    refine CallA.pure hpx (by simp [go_sem, hcap]) ?_
    rintro _ _ ⟨rfl, rfl⟩
    simp (disch := omega) only [go_sem]
    refine condW_by (fun ht => ?_) (fun ht => ?_)
    · simp (disch := omega) only [go_sem]
      refine .now ?_
      simp only [go_sem]
      rw [firstAt_some hlt ht fun j hj => hpre j hj (by omega)]
    · simp (disch := omega) only [go_sem]
      refine .mk (i + 1) ⟨hlt, fun j hj hx => ?_⟩ (by omega) (by simp [go_sem, hcapk]) (by simp)
      rcases Nat.lt_succ_iff_lt_or_eq.1 hj with h | rfl
      · exact hpre j h hx
      · exact ht
  · refine J_run 100 ?_
    simp (disch := omega) only [go_sem]
    refine J_run 100 ?_
    simp (disch := omega) only [go_sem]
    refine .now ?_
    simp only [go_sem]
    rw [firstAt_none fun y hy => ?_]
    obtain ⟨j, hj, rfl⟩ := List.getElem_of_mem hy
    exact hpre j (by omega) hj

theorem containsFunc40 (ys : List ByteArray) (fn : FuncId) (cap : List AV) (hcap : AV.immL cap = true) (pr : ByteArray → Bool)
   (hp : ∀ y, y ∈ ys → Fn1 Try.prog [] fn (.raw (.string y) :: cap) (.raw (.bool (pr y))) []) :
   Fn1 Try.prog [] 40 [.lst 1 (ys.map encS), .clo (.func fn) [] cap] (.raw (.bool (ys.any pr))) [] := by
  refine holds_of Try.func40 rfl rfl ?_
  refine J_run 100 ?_
  delta Try.f40
  simp (disch := omega) only [go_sem]
  refine CallA.pure (indexFunc45 ys fn cap hcap pr hp) (by simp [go_sem, hcap]) ?_
  rintro _ _ ⟨rfl, rfl⟩
  simp (disch := omega) only [go_sem]
  refine .now ?_
  simp only [go_sem, firstAt_ge]

theorem long38 (s : ByteArray) : Fn1 Try.prog [] 38 [.raw (.string s)] (.raw (.bool (long s))) [] := by
  refine holds_of Try.func38 rfl rfl ?_
  refine J_run 100 ?_
  delta Try.f38
  simp (disch := omega) only [go_sem]
  refine .now ?_
  simp only [go_sem, long, AV.raw.injEq, Value.bool.injEq, decide_eq_decide]
  omega
theorem big39 (p : Pk) : Fn1 Try.prog [] 39 [.agg (encP p), .cptr [.clo (.func 38) [] []]] (.raw (.bool (long p.pay))) [] := by
  refine holds_of Try.func39 rfl rfl ?_
  refine J_run 100 ?_
  delta Try.f39
  simp (disch := omega) only [go_sem, encP]
  refine CallA.pure (long38 _) (by simp [go_sem]) ?_
  rintro _ _ ⟨rfl, rfl⟩
  simp (disch := omega) only [go_sem]
  refine .now ?_
  simp only [go_sem]
set_option maxHeartbeats 1000000 in
theorem message28 (l : Ln) (p : Pk) (h : l.sent = true → l.waiting ≠ []) : Fn1 Try.prog [] 28 [.agg (encL l), .agg (encP p)] (.raw (.bool (l.msg p))) [] := by
  have hw : l.sent = false ∨ (l.sent = true ∧ 0 < l.waiting.length) := by
    cases hs : l.sent
    · exact .inl rfl
    · exact .inr ⟨rfl, List.length_pos_iff.2 (h hs)⟩
  have hh : ∀ h : 0 < l.waiting.length, l.waiting[0] = l.waiting.headD emp := by
    cases l.waiting with
    | nil => intro h; simp at h
    | cons x xs => intro _; rfl
  refine holds_of Try.func28 rfl rfl ?_
  refine J_run 100 ?_
  delta Try.f28
  simp (disch := omega) only [go_sem, encP, encL]
  refine J_draw 100 [] plan28_1 (by kernel_rfl) (by kernel_rfl) ?_
  delta plan28_1
  rcases hw with hs | ⟨hs, hw⟩
  all_goals
    repeat' (first
      | (simp (disch := omega) only [go_sem, getD_map, hs, encS])
      | (with_reducible refine stepGuard_dect (fun h => ?_) (fun h => ?_))
      | (with_reducible refine stepGuard_decf (fun h => ?_) (fun h => ?_))
      | (with_reducible refine stepGuard_by (fun h => ?_) (fun h => ?_))
      | (with_reducible refine FinQ.now ?_))
  all_goals simp_all [Ln.msg]
  all_goals omega
end Go.Proofs.Ytfkfehlnjcbcbaa.Abs
