/- zone.enough, zone.Enough: what they compute. zone.Enough: what it computes. zone.Region: what it computes. zone.Nearest: what it computes. zone.Nearest: what it computes. What is reached, computed: for networks that are given. No program in sight. The example of chapter 15. -/
import Derived.Test.YtmfgaefefgnhbaaGreatDoorZ3
import Derived.Test.YtmfgaefefgnhbaaGreatDoorZ1
namespace Go.Proofs.YtmfgaefefgnhbaaGreatDoor.Abs
set_option linter.unusedSimpArgs false
set_option linter.unusedVariables false
set_option maxRecDepth 100000
open Go Go.RowKit

set_option maxHeartbeats 2000000 in
theorem enoughF (n : Net) (hn : n.ok) (zone gaps : List Int) (hz : ∀ x, x ∈ zone → 0 ≤ x ∧ x < n.nodes.length) (hzl : zone.length ≤ 1000000) (hgl : gaps.length ≤ 1000000) :
    Fn1 Tryz.prog GT0 68 [.agg (encNet n), .lst 1 (zone.map encN), .lst 1 (gaps.map encN)] (.raw (.bool (enoughB n zone gaps))) [] := by
  have c := regionF n hn zone gaps hz hzl hgl
  have hdl := hn.dl
  refine holds_of Tryz.func68 rfl rfl ?_
  refine J_run 200 ?_
  delta Tryz.f68
  simp only [encNet] at c ⊢
  repeat' (first
    | (simp (maxSteps := 1000000) (disch := omega) only [go_sem])
    | ((with_reducible refine CallA.pure c ?_ ?_); (· simp only [go_sem]); rintro _ _ ⟨rfl, rfl⟩)
    | ((with_reducible first | refine gDt ?_ ?_ | refine gDf ?_ ?_ | refine gNt ?_ ?_ | refine gNf ?_ ?_ | refine cD ?_ ?_ | refine cN ?_ ?_ | refine cB ?_ ?_ | refine gB ?_ ?_) <;> intro h)
    | with_reducible first | refine And.intro ?_ ?_ | refine J_seq ?_ | refine J_block ?_ | refine J_inBlock ?_ | refine rC ?_ | refine rR ?_ | refine rE ?_ | refine rG ?_ | refine FinQ.now ?_ | refine FinQ.end ?_)
  refine J_for ([8, 9, 10] ++ upto 19 43) (fun i : Nat => [(18, .raw (.int .i64 i))]) (fun _ => [.box [.lst 3 (n.nodes.map encNd), .lst 5 (n.devs.map encDv)]]) (fun i => i ≤ n.devs.length ∧ ∀ j (hj : j < n.devs.length), j < i → (n.devs[j].kind = 5 ∨ (n.devs[j].kind = 6 ∧ (j : Int) ∉ gaps)) → ¬ RG n zone gaps n.devs[j].a.toNat) (fun i => n.devs.length - i) 0 ⟨by omega, fun j hj h => absurd h (by omega)⟩ (.le (by simp [go_sem]) (by simp)) ?_
  rintro i ⟨hi, hpre⟩
  by_cases hlt : i < n.devs.length
  · have hdv := getD_DvL hlt
    have ca := at_n n hn zone gaps i hlt
    simp only [encDv] at ca
    have cc := contains gaps i (by omega)
    have nxt : ¬ ((n.devs[i].kind = 5 ∨ (n.devs[i].kind = 6 ∧ (i : Int) ∉ gaps)) ∧ RG n zone gaps n.devs[i].a.toNat) → ∀ j (hj : j < n.devs.length), j < i + 1 → (n.devs[j].kind = 5 ∨ (n.devs[j].kind = 6 ∧ (j : Int) ∉ gaps)) → ¬ RG n zone gaps n.devs[j].a.toNat := fun hx j hj hji hk hr => by
      rcases Nat.lt_succ_iff_lt_or_eq.1 hji with h3 | rfl
      · exact hpre j hj h3 hk hr
      · exact hx ⟨hk, hr⟩
    have bad : (n.devs[i].kind = 5 ∨ (n.devs[i].kind = 6 ∧ (i : Int) ∉ gaps)) → RG n zone gaps n.devs[i].a.toNat → enoughB n zone gaps = false := fun hk hr => by
      simp only [enoughB, decide_eq_false_iff_not]
      exact fun h => h i _ (List.getElem?_eq_getElem hlt) hk hr
    by_cases h5 : n.devs[i].kind = 5
    · have h56 := at56 (zone := zone) (gaps := gaps) hlt (.inl h5)
      rw [h5] at hdv ca
      cases hat : atB n zone gaps i with
      | true =>
        rw [hat] at ca h56
        rw [bad (.inl h5) (h56.1 rfl)]
        refine J_run 200 ?_
        iterate 14 (all_goals (try (first
          | (simp (maxSteps := 1000000) (disch := omega) only [go_sem, hdv])
          | ((with_reducible refine CallA.pure ca ?_ ?_); (· simp only [go_sem]); rintro _ _ ⟨rfl, rfl⟩)
          | ((with_reducible first | refine gDt ?_ ?_ | refine gDf ?_ ?_ | refine gNt ?_ ?_ | refine gNf ?_ ?_ | refine cD ?_ ?_ | refine cN ?_ ?_ | refine cB ?_ ?_ | refine gB ?_ ?_) <;> intro h)
          | with_reducible first | refine And.intro ?_ ?_ | refine J_seq ?_ | refine J_block ?_ | refine J_inBlock ?_ | refine rC ?_ | refine rR ?_ | refine rE ?_ | refine rG ?_ | refine FinQ.now ?_ | refine FinQ.end ?_)))
      | false =>
        rw [hat] at ca h56
        refine J_run 200 ?_
        iterate 14 (all_goals (try (first
          | (simp (maxSteps := 1000000) (disch := omega) only [go_sem, hdv])
          | ((with_reducible refine CallA.pure ca ?_ ?_); (· simp only [go_sem]); rintro _ _ ⟨rfl, rfl⟩)
          | ((with_reducible first | refine gDt ?_ ?_ | refine gDf ?_ ?_ | refine gNt ?_ ?_ | refine gNf ?_ ?_ | refine cD ?_ ?_ | refine cN ?_ ?_ | refine cB ?_ ?_ | refine gB ?_ ?_) <;> intro h)
          | with_reducible first | refine And.intro ?_ ?_ | refine J_seq ?_ | refine J_block ?_ | refine J_inBlock ?_ | refine rC ?_ | refine rR ?_ | refine rE ?_ | refine rG ?_ | refine FinQ.now ?_ | refine FinQ.end ?_)))
        refine .mk (i + 1) ⟨hlt, nxt fun h => absurd (h56.2 h.2) (by simp)⟩ (by omega) ?_ ?_
        · simp [go_sem]
        · simp
    by_cases h6 : n.devs[i].kind = 6
    · have h56 := at56 (zone := zone) (gaps := gaps) hlt (.inr h6)
      rw [h6] at hdv ca
      by_cases hm : (i : Int) ∈ gaps
      · rw [decide_eq_true hm] at cc
        refine J_run 200 ?_
        iterate 14 (all_goals (try (first
          | (simp (maxSteps := 1000000) (disch := omega) only [go_sem, hdv])
          | ((with_reducible refine CallA.pure ca ?_ ?_); (· simp only [go_sem]); rintro _ _ ⟨rfl, rfl⟩)
          | ((with_reducible refine CallA.pure cc ?_ ?_); (· simp only [go_sem]); rintro _ _ ⟨rfl, rfl⟩)
          | ((with_reducible first | refine gDt ?_ ?_ | refine gDf ?_ ?_ | refine gNt ?_ ?_ | refine gNf ?_ ?_ | refine cD ?_ ?_ | refine cN ?_ ?_ | refine cB ?_ ?_ | refine gB ?_ ?_) <;> intro h)
          | with_reducible first | refine And.intro ?_ ?_ | refine J_seq ?_ | refine J_block ?_ | refine J_inBlock ?_ | refine rC ?_ | refine rR ?_ | refine rE ?_ | refine rG ?_ | refine FinQ.now ?_ | refine FinQ.end ?_)))
        refine .mk (i + 1) ⟨hlt, nxt fun h => h.1.elim h5 fun h => h.2 hm⟩ (by omega) ?_ ?_
        · simp [go_sem]
        · simp
      · rw [decide_eq_false hm] at cc
        cases hat : atB n zone gaps i with
        | true =>
          rw [hat] at ca h56
          rw [bad (.inr ⟨h6, hm⟩) (h56.1 rfl)]
          refine J_run 200 ?_
          iterate 14 (all_goals (try (first
            | (simp (maxSteps := 1000000) (disch := omega) only [go_sem, hdv])
            | ((with_reducible refine CallA.pure ca ?_ ?_); (· simp only [go_sem]); rintro _ _ ⟨rfl, rfl⟩)
            | ((with_reducible refine CallA.pure cc ?_ ?_); (· simp only [go_sem]); rintro _ _ ⟨rfl, rfl⟩)
            | ((with_reducible first | refine gDt ?_ ?_ | refine gDf ?_ ?_ | refine gNt ?_ ?_ | refine gNf ?_ ?_ | refine cD ?_ ?_ | refine cN ?_ ?_ | refine cB ?_ ?_ | refine gB ?_ ?_) <;> intro h)
            | with_reducible first | refine And.intro ?_ ?_ | refine J_seq ?_ | refine J_block ?_ | refine J_inBlock ?_ | refine rC ?_ | refine rR ?_ | refine rE ?_ | refine rG ?_ | refine FinQ.now ?_ | refine FinQ.end ?_)))
        | false =>
          rw [hat] at ca h56
          refine J_run 200 ?_
          iterate 14 (all_goals (try (first
            | (simp (maxSteps := 1000000) (disch := omega) only [go_sem, hdv])
            | ((with_reducible refine CallA.pure ca ?_ ?_); (· simp only [go_sem]); rintro _ _ ⟨rfl, rfl⟩)
            | ((with_reducible refine CallA.pure cc ?_ ?_); (· simp only [go_sem]); rintro _ _ ⟨rfl, rfl⟩)
            | ((with_reducible first | refine gDt ?_ ?_ | refine gDf ?_ ?_ | refine gNt ?_ ?_ | refine gNf ?_ ?_ | refine cD ?_ ?_ | refine cN ?_ ?_ | refine cB ?_ ?_ | refine gB ?_ ?_) <;> intro h)
            | with_reducible first | refine And.intro ?_ ?_ | refine J_seq ?_ | refine J_block ?_ | refine J_inBlock ?_ | refine rC ?_ | refine rR ?_ | refine rE ?_ | refine rG ?_ | refine FinQ.now ?_ | refine FinQ.end ?_)))
          refine .mk (i + 1) ⟨hlt, nxt fun h => absurd (h56.2 h.2) (by simp)⟩ (by omega) ?_ ?_
          · simp [go_sem]
          · simp
    refine J_run 200 ?_
    iterate 14 (all_goals (try (first
      | (simp (maxSteps := 1000000) (disch := omega) only [go_sem, hdv, h5, h6])
      | ((with_reducible refine CallA.pure ca ?_ ?_); (· simp only [go_sem]); rintro _ _ ⟨rfl, rfl⟩)
      | ((with_reducible refine CallA.pure cc ?_ ?_); (· simp only [go_sem]); rintro _ _ ⟨rfl, rfl⟩)
      | ((with_reducible first | refine gDt ?_ ?_ | refine gDf ?_ ?_ | refine gNt ?_ ?_ | refine gNf ?_ ?_ | refine cD ?_ ?_ | refine cN ?_ ?_ | refine cB ?_ ?_ | refine gB ?_ ?_) <;> intro h)
      | with_reducible first | refine And.intro ?_ ?_ | refine J_seq ?_ | refine J_block ?_ | refine J_inBlock ?_ | refine rC ?_ | refine rR ?_ | refine rE ?_ | refine rG ?_ | refine FinQ.now ?_ | refine FinQ.end ?_)))
    refine .mk (i + 1) ⟨hlt, nxt fun h => h.1.elim h5 fun h => h6 h.1⟩ (by omega) ?_ ?_
    · simp [go_sem]
    · simp
  · refine J_run 200 ?_
    repeat' (first
      | (simp (maxSteps := 1000000) (disch := omega) only [go_sem])
      | ((with_reducible first | refine gDt ?_ ?_ | refine gDf ?_ ?_ | refine gNt ?_ ?_ | refine gNf ?_ ?_ | refine cD ?_ ?_ | refine cN ?_ ?_ | refine cB ?_ ?_ | refine gB ?_ ?_) <;> intro h)
      | with_reducible first | refine And.intro ?_ ?_ | refine J_seq ?_ | refine J_block ?_ | refine J_inBlock ?_ | refine rC ?_ | refine rR ?_ | refine rE ?_ | refine rG ?_ | refine FinQ.now ?_ | refine FinQ.end ?_)
    have he : enoughB n zone gaps = true := by
      simp only [enoughB, decide_eq_true_eq]
      intro j d hd hk
      obtain ⟨hj, rfl⟩ := List.getElem?_eq_some_iff.1 hd
      exact hpre j hj (by omega) hk
    rw [he]
end Go.Proofs.YtmfgaefefgnhbaaGreatDoor.Abs
namespace Go.Proofs.YtmfgaefefgnhbaaGreatDoor.Abs
set_option linter.unusedSimpArgs false
set_option linter.unusedVariables false
set_option maxRecDepth 100000
open Go Go.RowKit

theorem fault_zone {n : Net} {zone gaps : List Int} (h : fault n zone gaps = 0) : zoneChk n zone = 0 := by
  unfold fault at h
  split at h
  · rename_i h1; exact absurd h h1
  · rename_i h1; simpa using h1
end Go.Proofs.YtmfgaefefgnhbaaGreatDoor.Abs
namespace Go.Proofs.YtmfgaefefgnhbaaGreatDoor.Abs
set_option linter.unusedSimpArgs false
set_option linter.unusedVariables false
set_option maxRecDepth 100000
open Go Go.RowKit

def truesTo (l : List Bool) (i : Nat) : List Int := ((List.range i).filter fun i => l.getD i false).map Int.ofNat
theorem truesTo_next {l : List Bool} {i : Nat} : truesTo l (i + 1) = truesTo l i ++ (if l.getD i false then [(i : Int)] else []) := by
  unfold truesTo
  rw [List.range_succ, List.filter_append, List.map_append]
  congr 1
  simp only [List.filter_cons, List.filter_nil]
  cases l.getD i false <;> rfl
theorem truesTo_len {l : List Bool} {i : Nat} : (truesTo l i).length ≤ i := by
  unfold truesTo
  rw [List.length_map]
  exact Nat.le_trans (List.length_filter_le _ _) (by simp)
set_option maxHeartbeats 2000000 in
theorem RegionF (n : Net) (hs : n.sized) (zone gaps : List Int) (hzl : zone.length ≤ 1000000) (hgl : gaps.length ≤ 1000000) :
    Fn1 Tryz.prog GT0 132 [.agg (encNet n), .lst 1 (zone.map encN), .lst 1 (gaps.map encN)] (.tup [.lst 1 ((regionR n zone gaps).1.map encN), .raw (.int .i64 (regionR n zone gaps).2)]) [] := by
  have c := faultF n hs zone gaps hzl hgl
  by_cases h0 : fault n zone gaps = 0
  · obtain ⟨hn, hz0, hz⟩ := zoneChk_zero (fault_zone h0)
    have hnl := hn.nl
    have ce := regionF n hn zone gaps (fun x hx => rising_mem hz hx) hzl hgl
    have hr : regionR n zone gaps = (regL n zone gaps, 0) := by unfold regionR; rw [if_neg (by simp [h0])]
    have hL := regB_len (n := n) (zone := zone) (gaps := gaps)
    rw [h0] at c
    rw [hr]
    refine holds_of Tryz.func132 rfl rfl ?_
    refine J_run 200 ?_
    delta Tryz.f132
    simp only [encNet] at c ce ⊢
    repeat' (first
      | (simp (maxSteps := 1000000) (disch := omega) only [go_sem])
      | ((with_reducible refine CallA.pure c ?_ ?_); (· simp only [go_sem]); rintro _ _ ⟨rfl, rfl⟩)
      | ((with_reducible refine CallA.pure ce ?_ ?_); (· simp only [go_sem]); rintro _ _ ⟨rfl, rfl⟩)
      | ((with_reducible first | refine gDt ?_ ?_ | refine gDf ?_ ?_ | refine gNt ?_ ?_ | refine gNf ?_ ?_ | refine cD ?_ ?_ | refine cN ?_ ?_ | refine cB ?_ ?_ | refine gB ?_ ?_) <;> intro h)
      | with_reducible first | refine And.intro ?_ ?_ | refine J_seq ?_ | refine J_block ?_ | refine J_inBlock ?_ | refine rC ?_ | refine rR ?_ | refine rE ?_ | refine rG ?_ | refine FinQ.now ?_ | refine FinQ.end ?_)
    refine J_nilName 9 1 (by simp only [go_sem]) ?_
    simp only [go_sem]
    refine J_for ([10, 11] ++ upto 25 34) (fun i : Nat => [(24, .raw (.int .i64 i)), (9, .own 1 1 0 (truesTo (regB n zone gaps) i).length)]) (fun i => [.box [.lst 3 (n.nodes.map encNd), .lst 5 (n.devs.map encDv)], .arr 1 ((truesTo (regB n zone gaps) i).map encN)]) (fun i => i ≤ n.nodes.length) (fun i => n.nodes.length - i) 0 (by omega) (.le (by simp [go_sem, truesTo]) (by simp)) ?_
    intro i hi
    have htl := truesTo_len (l := regB n zone gaps) (i := i)
    by_cases hlt : i < n.nodes.length
    · have hg := getD_B (l := regB n zone gaps) (i := i) (by omega)
      have hgd : (regB n zone gaps).getD i false = (regB n zone gaps)[i] := by simp [List.getD_eq_getElem?_getD, show i < (regB n zone gaps).length by omega]
      have ht := truesTo_next (l := regB n zone gaps) (i := i)
      obtain ⟨o, ho⟩ : ∃ o, (regB n zone gaps)[i]'(by omega) = o := ⟨_, rfl⟩
      rw [hgd, ho] at ht
      rw [ho] at hg
      cases o with
      | true =>
        refine J_run 200 ?_
        iterate 14 (all_goals (try (first
          | (simp (maxSteps := 1000000) (disch := omega) only [go_sem, hg])
          | ((with_reducible first | refine gDt ?_ ?_ | refine gDf ?_ ?_ | refine gNt ?_ ?_ | refine gNf ?_ ?_ | refine cD ?_ ?_ | refine cN ?_ ?_ | refine cB ?_ ?_ | refine gB ?_ ?_) <;> intro h)
          | with_reducible first | refine And.intro ?_ ?_ | refine J_seq ?_ | refine J_block ?_ | refine J_inBlock ?_ | refine rC ?_ | refine rR ?_ | refine rE ?_ | refine rG ?_ | refine FinQ.now ?_ | refine FinQ.end ?_)))
        refine .mk (i + 1) hlt (by omega) ?_ ?_
        · rw [ht]; simp [go_sem, encN]
        · simp
      | false =>
        refine J_run 200 ?_
        iterate 14 (all_goals (try (first
          | (simp (maxSteps := 1000000) (disch := omega) only [go_sem, hg])
          | ((with_reducible first | refine gDt ?_ ?_ | refine gDf ?_ ?_ | refine gNt ?_ ?_ | refine gNf ?_ ?_ | refine cD ?_ ?_ | refine cN ?_ ?_ | refine cB ?_ ?_ | refine gB ?_ ?_) <;> intro h)
          | with_reducible first | refine And.intro ?_ ?_ | refine J_seq ?_ | refine J_block ?_ | refine J_inBlock ?_ | refine rC ?_ | refine rR ?_ | refine rE ?_ | refine rG ?_ | refine FinQ.now ?_ | refine FinQ.end ?_)))
        refine .mk (i + 1) hlt (by omega) ?_ ?_
        · rw [ht]; simp [go_sem, encN]
        · simp
    have hie : i = n.nodes.length := by omega
    subst hie
    refine J_run 200 ?_
    iterate 12 (all_goals (try (first
      | (simp (maxSteps := 1000000) (disch := omega) only [go_sem])
      | ((with_reducible first | refine gDt ?_ ?_ | refine gDf ?_ ?_ | refine gNt ?_ ?_ | refine gNf ?_ ?_ | refine cD ?_ ?_ | refine cN ?_ ?_ | refine cB ?_ ?_ | refine gB ?_ ?_) <;> intro h)
      | with_reducible first | refine And.intro ?_ ?_ | refine J_seq ?_ | refine J_block ?_ | refine J_inBlock ?_ | refine rC ?_ | refine rR ?_ | refine rE ?_ | refine rG ?_)))
    refine .frz [1] (.now ?_)
    simp only [go_sem]
    have e : regL n zone gaps = truesTo (regB n zone gaps) n.nodes.length := by unfold regL trues truesTo; rw [hL]
    rw [e, List.take_of_length_le (by simp)]
  · have hr : regionR n zone gaps = ([], fault n zone gaps) := by unfold regionR; rw [if_pos h0]
    rw [hr]
    refine holds_ofV Tryz.func132 rfl rfl ?_
    refine J_run 200 ?_
    delta Tryz.f132
    simp only [encNet] at c ⊢
    iterate 12 (all_goals (try (first
      | (exfalso; omega)
      | (simp (maxSteps := 1000000) (disch := omega) only [go_sem])
      | ((with_reducible refine CallA.pure c ?_ ?_); (· simp only [go_sem]); rintro _ _ ⟨rfl, rfl⟩)
      | ((with_reducible first | refine gDt ?_ ?_ | refine gDf ?_ ?_ | refine gNt ?_ ?_ | refine gNf ?_ ?_ | refine cD ?_ ?_ | refine cN ?_ ?_ | refine cB ?_ ?_ | refine gB ?_ ?_) <;> intro h)
      | with_reducible first | refine And.intro ?_ ?_ | refine J_seq ?_ | refine J_block ?_ | refine J_inBlock ?_ | refine rC ?_ | refine rR ?_ | refine rE ?_ | refine rG ?_ | refine FinQ.now ?_ | refine FinQ.end ?_)))
    exact ⟨_, .tup (.cons (.nilLst 1) (VLes.refl _)), rfl, rfl⟩
end Go.Proofs.YtmfgaefefgnhbaaGreatDoor.Abs
namespace Go.Proofs.YtmfgaefefgnhbaaGreatDoor.Abs
set_option linter.unusedSimpArgs false
set_option linter.unusedVariables false
set_option maxRecDepth 100000
open Go Go.RowKit

def isCut (n : Net) (i : Nat) : Bool := decide ((n.devs.getD i ⟨⟨#[]⟩, 0, 0, 0, 0⟩).kind = 3 ∨ (n.devs.getD i ⟨⟨#[]⟩, 0, 0, 0, 0⟩).kind = 6)
def cutsTo (n : Net) (i : Nat) : List Int := ((List.range i).filter (isCut n)).map Int.ofNat
theorem cutsTo_next {n : Net} {i : Nat} : cutsTo n (i + 1) = cutsTo n i ++ (if isCut n i then [(i : Int)] else []) := by
  unfold cutsTo
  rw [List.range_succ, List.filter_append, List.map_append]
  congr 1
  simp only [List.filter_cons, List.filter_nil]
  cases isCut n i <;> rfl
theorem cutsTo_len {n : Net} {i : Nat} : (cutsTo n i).length ≤ i := by
  unfold cutsTo
  rw [List.length_map]
  exact Nat.le_trans (List.length_filter_le _ _) (by simp)
theorem cuts_eq {n : Net} : cuts n = cutsTo n n.devs.length := rfl
end Go.Proofs.YtmfgaefefgnhbaaGreatDoor.Abs
namespace Go.Proofs.YtmfgaefefgnhbaaGreatDoor.Abs
set_option linter.unusedSimpArgs false
set_option linter.unusedVariables false
set_option maxRecDepth 100000
open Go Go.RowKit

theorem flatN' (l m : List Int) : (Obj.arr 1 (l.map encN ++ m.map encN)).flat := by
  intro x hx
  rcases List.mem_append.1 hx with hx | hx <;> (obtain ⟨b, _, rfl⟩ := List.mem_map.1 hx; rfl)
theorem flatN0 (l : List Int) (k : Nat) : (Obj.arr 1 (l.map encN ++ List.replicate k (encN 0))).flat := by
  have := flatN' l (List.replicate k 0)
  rwa [List.map_replicate] at this
end Go.Proofs.YtmfgaefefgnhbaaGreatDoor.Abs
namespace Go.Proofs.YtmfgaefefgnhbaaGreatDoor.Abs
set_option linter.unusedSimpArgs false
set_option linter.unusedVariables false
open Go Go.RowKit

def dv0 : Dv := ⟨⟨#[]⟩, 0, 0, 0, 0⟩
def hopC (n : Net) (use stop : Nat → Bool) (T : List Bool) (v i : Nat) : Bool :=
  let d := n.devs.getD i dv0
  joinsK d.kind && use i && ((decide (0 ≤ d.a) && T.getD d.a.toNat false && !stop d.a.toNat && decide (d.b = v)) || (decide (0 ≤ d.b) && T.getD d.b.toNat false && !stop d.b.toNat && decide (d.a = v)))
def stepC (n : Net) (use stop : Nat → Bool) (T : List Bool) : List Bool :=
  (List.range n.nodes.length).map fun v => T.getD v false || (List.range n.devs.length).any (hopC n use stop T v)
def iterC (n : Net) (use stop S : Nat → Bool) : Nat → List Bool
  | 0 => (List.range n.nodes.length).map S
  | k + 1 => stepC n use stop (iterC n use stop S k)
theorem getD_range {f : Nat → Bool} {m v : Nat} : ((List.range m).map f).getD v false = (decide (v < m) && f v) := by
  simp only [List.getD_eq_getElem?_getD, List.getElem?_map]
  by_cases h : v < m
  · simp [List.getElem?_range, h]
  · simp [h]
theorem hopC_iff {n : Net} {use stop : Nat → Bool} {T : List Bool} {v : Nat} : (∃ i, i < n.devs.length ∧ hopC n use stop T v i = true) ↔ ∃ u, T.getD u false = true ∧ ¬ stop u = true ∧ Edge n (fun i => use i = true) u v := by
  constructor
  · rintro ⟨i, hi, h⟩
    simp only [hopC, Bool.and_eq_true, Bool.or_eq_true, decide_eq_true_eq, Bool.not_eq_true'] at h
    have e : n.devs.getD i dv0 = n.devs[i] := by simp [List.getD_eq_getElem?_getD, hi]
    rw [e] at h
    obtain ⟨⟨h1, h2⟩, ⟨⟨⟨h3, h4⟩, h5⟩, h6⟩ | ⟨⟨⟨h3, h4⟩, h5⟩, h6⟩⟩ := h
    · exact ⟨_, h4, by simp [h5], i, _, List.getElem?_eq_getElem hi, h1, h2, .inl ⟨(Int.toNat_of_nonneg h3).symm, h6⟩⟩
    · exact ⟨_, h4, by simp [h5], i, _, List.getElem?_eq_getElem hi, h1, h2, .inr ⟨(Int.toNat_of_nonneg h3).symm, h6⟩⟩
  · rintro ⟨u, h1, h2, i, d, h3, h4, h5, h6⟩
    obtain ⟨hi, rfl⟩ := List.getElem?_eq_some_iff.1 h3
    refine ⟨i, hi, ?_⟩
    have e : n.devs.getD i dv0 = n.devs[i] := by simp [List.getD_eq_getElem?_getD, hi]
    simp only [hopC, e, Bool.and_eq_true, Bool.or_eq_true, decide_eq_true_eq, Bool.not_eq_true']
    refine ⟨⟨h4, h5⟩, h6.imp (fun h => ?_) fun h => ?_⟩
    · rw [h.1]; exact ⟨⟨⟨Int.natCast_nonneg _, by simpa using h1⟩, by simpa using h2⟩, h.2⟩
    · rw [h.1]; exact ⟨⟨⟨Int.natCast_nonneg _, by simpa using h1⟩, by simpa using h2⟩, h.2⟩
theorem stepC_at {n : Net} {use stop : Nat → Bool} {T : List Bool} {v : Nat} : (stepC n use stop T).getD v false = true ↔ v < n.nodes.length ∧ (T.getD v false = true ∨ ∃ u, T.getD u false = true ∧ ¬ stop u = true ∧ Edge n (fun i => use i = true) u v) := by
  rw [stepC, getD_range, ← hopC_iff]
  simp only [Bool.and_eq_true, decide_eq_true_eq, Bool.or_eq_true, List.any_eq_true, List.mem_range]
/-- What the steps reach, once nothing is added any more. -/
theorem iterC_rch {n : Net} (hn : n.ok) {use stop S : Nat → Bool} (hS : ∀ v, S v = true → v < n.nodes.length) (k : Nat) (hc : stepC n use stop (iterC n use stop S k) = iterC n use stop S k) {v : Nat} :
    (iterC n use stop S k).getD v false = true ↔ Rch n (fun i => use i = true) (fun v => stop v = true) (fun v => S v = true) v := by
  constructor
  · clear hc
    induction k generalizing v with
    | zero =>
      intro h
      rw [iterC, getD_range, Bool.and_eq_true] at h
      exact .base h.2
    | succ k ih =>
      intro h
      rcases (stepC_at.1 h).2 with h | ⟨u, h1, h2, h3⟩
      · exact ih h
      · exact .step (ih h1) h2 h3
  · intro h
    have up : ∀ j v, S v = true → (iterC n use stop S j).getD v false = true := by
      intro j
      induction j with
      | zero => intro v hv; rw [iterC, getD_range]; simp [hv, hS v hv]
      | succ j ih => intro v hv; exact stepC_at.2 ⟨hS v hv, .inl (ih v hv)⟩
    refine Rch.closed (T := fun v => (iterC n use stop S k).getD v false = true) (fun v hv => up k v hv) (fun u v hu hs he => ?_) h
    rw [← hc]
    exact stepC_at.2 ⟨(he.lt hn).2, .inr ⟨u, hu, hs, he⟩⟩
theorem iterC_len {n : Net} {use stop S : Nat → Bool} : ∀ k : Nat, (iterC n use stop S k).length = n.nodes.length
  | 0 => by simp [iterC]
  | k + 1 => by simp [iterC, stepC]
/-- The region of a zone, computed. -/
def regC (n : Net) (zone gaps : List Int) (k : Nat) : List Bool := iterC n (fun i => !gaps.contains (i : Int)) (fun _ => false) (fun v => decide (v < n.nodes.length) && zone.contains (v : Int)) k
def regDone (n : Net) (zone gaps : List Int) (k : Nat) : Bool := stepC n (fun i => !gaps.contains (i : Int)) (fun _ => false) (regC n zone gaps k) == regC n zone gaps k
theorem regC_iff {n : Net} (hn : n.ok) {zone gaps : List Int} (hz : rising zone n.nodes.length = true) (k : Nat) (hd : regDone n zone gaps k = true) {v : Nat} : (regC n zone gaps k).getD v false = true ↔ RG n zone gaps v := by
  rw [regC, iterC_rch hn (fun v hv => by simp at hv; exact hv.1) k (by simpa [regDone, regC] using hd)]
  constructor
  · exact Rch.mono (fun i hi => by simpa using hi) (fun i hi => hi.elim) (fun i hi => by simp at hi; exact hi.2)
  · exact Rch.mono (fun i hi => by simpa using hi) (fun i hi => by simp at hi) (fun i hi => by have := rising_mem hz hi; simp [hi]; omega)
theorem regB_C {n : Net} (hn : n.ok) {zone gaps : List Int} (hz : rising zone n.nodes.length = true) (k : Nat) (hd : regDone n zone gaps k = true) : regB n zone gaps = regC n zone gaps k := by
  have hl : (regC n zone gaps k).length = n.nodes.length := iterC_len k
  apply List.ext_getElem (by rw [regB_len, hl])
  intro v h1 h2
  rw [Bool.eq_iff_iff, regB_at, ← regC_iff hn hz k hd]
  simp [List.getD_eq_getElem?_getD, h2]
def enoughC (n : Net) (gaps : List Int) (T : List Bool) : Bool := (List.range n.devs.length).all fun i => let d := n.devs.getD i dv0; !((decide (d.kind = 5) || (decide (d.kind = 6) && !gaps.contains (i : Int))) && T.getD d.a.toNat false)
theorem enoughB_C {n : Net} (hn : n.ok) {zone gaps : List Int} (hz : rising zone n.nodes.length = true) (k : Nat) (hd : regDone n zone gaps k = true) : enoughB n zone gaps = enoughC n gaps (regC n zone gaps k) := by
  rw [Bool.eq_iff_iff]
  simp only [enoughB, decide_eq_true_eq, enoughC, List.all_eq_true, List.mem_range, Bool.not_eq_true', Bool.and_eq_false_iff, Bool.or_eq_false_iff, decide_eq_false_iff_not]
  have key : ∀ v, (regC n zone gaps k).getD v false = false ↔ ¬ RG n zone gaps v := fun v => by rw [← regC_iff hn hz k hd, Bool.not_eq_true]
  constructor
  · intro h i hi
    have e : n.devs.getD i dv0 = n.devs[i] := by simp [List.getD_eq_getElem?_getD, hi]
    rw [e, key]
    by_cases h5 : n.devs[i].kind = 5
    · exact .inr (h i _ (List.getElem?_eq_getElem hi) (.inl h5))
    by_cases h6 : n.devs[i].kind = 6 ∧ (i : Int) ∉ gaps
    · exact .inr (h i _ (List.getElem?_eq_getElem hi) (.inr h6))
    · refine .inl ⟨h5, ?_⟩
      by_cases h7 : n.devs[i].kind = 6
      · right
        have : (i : Int) ∈ gaps := Classical.byContradiction fun hx => h6 ⟨h7, hx⟩
        simpa using this
      · exact .inl h7
  · intro h i d hd' hk
    obtain ⟨hi, rfl⟩ := List.getElem?_eq_some_iff.1 hd'
    have e : n.devs.getD i dv0 = n.devs[i] := by simp [List.getD_eq_getElem?_getD, hi]
    have := h i hi
    rw [e, key] at this
    refine this.resolve_left fun hx => ?_
    rcases hk with hk | ⟨hk, hg⟩
    · exact hx.1 hk
    · rcases hx.2 with hx | hx
      · exact hx hk
      · simp at hx; exact hg hx
def atC (n : Net) (T : List Bool) (g : Int) : Bool := match n.devs[g.toNat]? with
  | some d => T.getD d.a.toNat false || (joinsK d.kind && T.getD d.b.toNat false)
  | none => false
theorem atB_C {n : Net} (hn : n.ok) {zone gaps : List Int} (hz : rising zone n.nodes.length = true) (k : Nat) (hd : regDone n zone gaps k = true) : atB n zone gaps = atC n (regC n zone gaps k) := by
  funext g
  rw [Bool.eq_iff_iff]
  simp only [atB, atC, decide_eq_true_eq]
  cases hg : n.devs[g.toNat]? with
  | none => simp
  | some d =>
    simp only [Option.some.injEq, Bool.or_eq_true, Bool.and_eq_true, regC_iff hn hz k hd]
    exact ⟨fun ⟨d', h1, h2⟩ => h1 ▸ h2, fun h => ⟨d, rfl, h⟩⟩
def nearestC (n : Net) (zone : List Int) (T : List Bool) : List Int × Int :=
  if (List.range n.devs.length).any (fun i => let d := n.devs.getD i dv0; decide (d.kind = 5) && T.getD d.a.toNat false) then ([], 15) else ((cuts n).filter (atC n T), 0)
theorem nearestR_C {n : Net} {zone : List Int} (h : zoneChk n zone = 0) (k : Nat) (hd : regDone n zone (cuts n) k = true) : nearestR n zone = nearestC n zone (regC n zone (cuts n) k) := by
  obtain ⟨hn, _, hz⟩ := zoneChk_zero h
  unfold nearestR nearestC
  rw [if_neg (by simp [h]), atB_C hn hz k hd]
  have key : (∃ (i : Nat) (d : Dv), n.devs[i]? = some d ∧ d.kind = 5 ∧ RG n zone (cuts n) d.a.toNat) ↔ (List.range n.devs.length).any (fun i => let d := n.devs.getD i dv0; decide (d.kind = 5) && (regC n zone (cuts n) k).getD d.a.toNat false) = true := by
    simp only [List.any_eq_true, List.mem_range, Bool.and_eq_true, decide_eq_true_eq, regC_iff hn hz k hd]
    constructor
    · rintro ⟨i, d, h1, h2, h3⟩
      obtain ⟨hi, rfl⟩ := List.getElem?_eq_some_iff.1 h1
      have e : n.devs.getD i dv0 = n.devs[i] := by simp [List.getD_eq_getElem?_getD, hi]
      exact ⟨i, hi, by rw [e]; exact ⟨h2, h3⟩⟩
    · rintro ⟨i, hi, h1, h2⟩
      have e : n.devs.getD i dv0 = n.devs[i] := by simp [List.getD_eq_getElem?_getD, hi]
      rw [e] at h1 h2
      exact ⟨i, _, List.getElem?_eq_getElem hi, h1, h2⟩
  by_cases hx : (List.range n.devs.length).any (fun i => let d := n.devs.getD i dv0; decide (d.kind = 5) && (regC n zone (cuts n) k).getD d.a.toNat false) = true
  · rw [if_pos hx, if_pos (key.2 hx)]
  · rw [if_neg hx, if_neg (fun h => hx (key.1 h))]
end Go.Proofs.YtmfgaefefgnhbaaGreatDoor.Abs
namespace Go.Proofs.YtmfgaefefgnhbaaGreatDoor.Abs
set_option linter.unusedSimpArgs false
set_option linter.unusedVariables false
set_option maxRecDepth 100000
open Go Go.RowKit

def exNet : Net := ⟨[⟨⟨#[65]⟩, 0, 0⟩, ⟨⟨#[66]⟩, 0, 0⟩], [⟨⟨#[83]⟩, 5, 0, -1, 0⟩, ⟨⟨#[68]⟩, 3, 0, 1, 0⟩]⟩
theorem exNet_ok : exNet.ok := Net.chk_ok.1 (by decide +kernel)
theorem exNet_sized : exNet.sized := ⟨by decide +kernel, by decide +kernel, by decide +kernel, by decide +kernel⟩
theorem ex_enough1 : enoughR exNet [1] [1] = (true, 0) := by
  unfold enoughR
  rw [if_neg (by decide +kernel), enoughB_C exNet_ok (by decide +kernel) 2 (by decide +kernel)]
  decide +kernel
theorem ex_enough0 : enoughR exNet [0] [1] = (false, 0) := by
  unfold enoughR
  rw [if_neg (by decide +kernel), enoughB_C exNet_ok (by decide +kernel) 2 (by decide +kernel)]
  decide +kernel
theorem ex_near1 : nearestR exNet [1] = ([1], 0) := by
  rw [nearestR_C (by decide +kernel) 2 (by decide +kernel)]
  decide +kernel
theorem ex_near0 : nearestR exNet [0] = ([], 15) := by
  rw [nearestR_C (by decide +kernel) 2 (by decide +kernel)]
  decide +kernel
end Go.Proofs.YtmfgaefefgnhbaaGreatDoor.Abs
