/- Gaps of a zone by company; the example of chapter 35. -/
import Derived.Test.YtfkiomkfoabnhaaDoorR4
import Derived.Test.YtfkiomkfoabnhaaDoorZ4
namespace Go.Proofs.YtfkiomkfoabnhaaDoor.Abs
set_option linter.unusedSimpArgs false
set_option linter.unusedVariables false
set_option maxRecDepth 100000
open Go Go.RowKit

def ownB (n : Net) (c : Int) (x : Int) : Bool := decide ((n.devs.getD x.toNat ⟨⟨#[]⟩, 0, 0, 0, 0⟩).comp = c)
/-- The gaps of a company, the others, the error. -/
noncomputable def gapsE (n : Net) (c : Int) (z : List Int) : Int := if (nearestR n z).2 ≠ 0 then (nearestR n z).2 else if c < 0 ∨ 7 < c then 5 else 0
theorem own_take {n : Net} {c : Int} {l : List Int} {i : Nat} (hi : i < l.length) (b : Bool) : (l.take (i + 1)).filter (fun x => ownB n c x == b) = (l.take i).filter (fun x => ownB n c x == b) ++ (if ownB n c l[i] = b then [l[i]] else []) := by
  rw [List.take_succ_eq_append_getElem hi, List.filter_append]
  congr 1
  cases h : ownB n c l[i] <;> cases b <;> simp [h]
theorem own_len {n : Net} {c : Int} {l : List Int} {b : Bool} {i : Nat} : ((l.take i).filter (fun x => ownB n c x == b)).length ≤ i := Nat.le_trans (List.length_filter_le _ _) (by rw [List.length_take]; omega)
set_option maxHeartbeats 8000000 in
theorem boundPts (n : Net) (hs : n.sized) (c : Int) (z : List Int) (hz : z.length ≤ 1000000) (h0 : (nearestR n z).2 = 0) (hc : 0 ≤ c ∧ c ≤ 7) (hm : ∀ x, x ∈ (nearestR n z).1 → 0 ≤ x ∧ x < n.devs.length) (hl : (nearestR n z).1.length ≤ 1000) :
    Fn1 Tryd.prog GT0 15 [.agg (encNet n), .raw (.int .i64 c), .lst 1 (z.map encN)] (.tup [.lst 1 (((nearestR n z).1.filter (fun x => ownB n c x == true)).map encN), .lst 1 (((nearestR n z).1.filter (fun x => ownB n c x == false)).map encN), .raw (.int .i64 0)]) [] := by
  have cn := NearestF n hs z hz
  rw [h0] at cn
  obtain ⟨l, hl'⟩ : ∃ l, (nearestR n z).1 = l := ⟨_, rfl⟩
  rw [hl'] at cn hm hl ⊢
  refine holds_of Tryd.func15 rfl rfl ?_
  refine J_run 200 ?_
  delta Tryd.f15
  simp only [encNet] at cn ⊢
  iterate 20 (all_goals (try (first
    | (simp (maxSteps := 1000000) (disch := omega) only [go_sem])
    | ((with_reducible refine CallA.pure cn ?_ ?_); (· simp (disch := omega) only [go_sem]); rintro _ _ ⟨rfl, rfl⟩)
    | ((with_reducible first | refine gDt ?_ ?_ | refine gDf ?_ ?_ | refine gNt ?_ ?_ | refine gNf ?_ ?_ | refine cD ?_ ?_ | refine cN ?_ ?_ | refine cB ?_ ?_ | refine gB ?_ ?_) <;> intro h)
    | with_reducible first | refine And.intro ?_ ?_ | refine J_seq ?_ | refine J_block ?_ | refine J_inBlock ?_ | refine rC ?_ | refine rR ?_ | refine rE ?_ | refine rG ?_ | refine FinQ.now ?_ | refine FinQ.end ?_)))
  refine J_nilName 6 1 (by simp only [go_sem]) ?_
  simp only [go_sem]
  refine J_nilName 7 1 (by simp only [go_sem]) ?_
  simp only [go_sem]
  refine J_for ([11] ++ upto 32 50) (fun i : Nat => [(31, .raw (.int .i64 i)), (6, .own 1 1 0 ((l.take i).filter (fun x => ownB n c x == true)).length), (7, .own 2 1 0 ((l.take i).filter (fun x => ownB n c x == false)).length)]) (fun i => [.box (encNet n), .arr 1 (((l.take i).filter (fun x => ownB n c x == true)).map encN), .arr 1 (((l.take i).filter (fun x => ownB n c x == false)).map encN)]) (fun i => i ≤ l.length) (fun i => l.length - i) 0 (by omega) (.le (by simp [go_sem, encNet]) (by simp)) ?_
  intro i hi
  simp only [encNet]
  have h1 := own_len (n := n) (c := c) (l := l) (b := true) (i := i)
  have h2 := own_len (n := n) (c := c) (l := l) (b := false) (i := i)
  by_cases hlt : i < l.length
  · have hg := getD_N hlt
    have hb := hm _ (List.getElem_mem hlt)
    have hdv := getD_Dv (l := n.devs) (i := l[i].toNat) (by omega)
    have t1 := own_take (n := n) (c := c) hlt true
    have t2 := own_take (n := n) (c := c) hlt false
    obtain ⟨b, hbb⟩ : ∃ b, decide ((n.devs[l[i].toNat]'(by omega)).comp = c) = b := ⟨_, rfl⟩
    have ho : ownB n c l[i] = b := by unfold ownB; rw [getD_get (show l[i].toNat < n.devs.length by omega)]; exact hbb
    rw [ho] at t1 t2
    cases b
    all_goals
      simp only [Bool.false_eq_true, Bool.true_eq_false, if_true, if_false, List.append_nil] at t1 t2
      refine J_run 200 ?_
      iterate 20 (all_goals (try (first
        | (simp (maxSteps := 1000000) (disch := omega) only [go_sem, hg, hdv, hbb, Nat.reduceLT])
        | ((with_reducible first | refine gDt ?_ ?_ | refine gDf ?_ ?_ | refine gNt ?_ ?_ | refine gNf ?_ ?_ | refine cD ?_ ?_ | refine cN ?_ ?_ | refine cB ?_ ?_ | refine gB ?_ ?_) <;> intro h)
        | with_reducible first | refine And.intro ?_ ?_ | refine J_seq ?_ | refine J_block ?_ | refine J_inBlock ?_ | refine rC ?_ | refine rR ?_ | refine rE ?_ | refine rG ?_ | refine FinQ.now ?_ | refine FinQ.end ?_)))
      refine .mk (i + 1) hlt (by omega) ?_ ?_
      · rw [t1, t2]; simp [go_sem, encNet, encN]
      · simp
  · have hie : i = l.length := by omega
    subst hie
    rw [List.take_length]
    refine J_run 200 ?_
    iterate 12 (all_goals (try (first
      | (simp (maxSteps := 1000000) (disch := omega) only [go_sem])
      | ((with_reducible first | refine gDt ?_ ?_ | refine gDf ?_ ?_ | refine gNt ?_ ?_ | refine gNf ?_ ?_ | refine cD ?_ ?_ | refine cN ?_ ?_ | refine cB ?_ ?_ | refine gB ?_ ?_) <;> intro h)
      | with_reducible first | refine And.intro ?_ ?_ | refine J_seq ?_ | refine J_block ?_ | refine J_inBlock ?_ | refine rC ?_ | refine rR ?_ | refine rE ?_ | refine rG ?_)))
    refine .frz [1, 2] (.now ?_)
    simp only [go_sem, take_lm]
end Go.Proofs.YtfkiomkfoabnhaaDoor.Abs
