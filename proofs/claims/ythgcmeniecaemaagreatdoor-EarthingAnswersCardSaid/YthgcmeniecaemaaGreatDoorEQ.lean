/- The nodes with earths that count, in the order in which they are found; the earths of locks. -/
import Derived.Test.YthgcmeniecaemaaGreatDoorEA
import Derived.Test.YthgcmeniecaemaaGreatDoorEL
import Derived.Test.YthgcmeniecaemaaGreatDoorR2
import Derived.Test.YthgcmeniecaemaaGreatDoorR4
import Derived.Test.YthgcmeniecaemaaGreatDoorED
namespace Go.Proofs.YthgcmeniecaemaaGreatDoor.Abs
set_option linter.unusedSimpArgs false
set_option linter.unusedVariables false
set_option maxRecDepth 100000
open Go Go.RowKit

/-- Whether an earth of a list is at a node, so far. -/
def earthUp (n : Net) (es : List Int) (j : Nat) (v : Int) : Bool := (es.take j).any fun i => decide ((n.devs.getD i.toNat ⟨⟨#[]⟩, 0, 0, 0, 0⟩).a = v)
theorem earthUp_next {n : Net} {es : List Int} {j : Nat} {v : Int} (hj : j < es.length) : earthUp n es (j + 1) v = (earthUp n es j v || decide ((n.devs.getD es[j].toNat ⟨⟨#[]⟩, 0, 0, 0, 0⟩).a = v)) := by
  unfold earthUp
  rw [List.take_succ_eq_append_getElem hj, List.any_append]
  simp
theorem earthUp_all {n : Net} {es : List Int} {v : Int} : earthUp n es es.length v = earthAt n es v := by unfold earthUp earthAt; rw [List.take_length]
def isWant (n : Net) (es R : List Int) (v : Nat) : Bool := earthAt n es v && decide ((v : Int) ∈ R)
/-- What is wanted while the earths are looked at for a node. -/
def wantMid (n : Net) (es R : List Int) (v j : Nat) : List Int := pickTo (isWant n es R) v ++ if earthUp n es j v && decide ((v : Int) ∈ R) then [(v : Int)] else []
theorem wantMid_zero {n : Net} {es R : List Int} {v : Nat} : wantMid n es R v 0 = pickTo (isWant n es R) v := by simp [wantMid, earthUp]
theorem wantMid_all {n : Net} {es R : List Int} {v : Nat} : wantMid n es R v es.length = pickTo (isWant n es R) (v + 1) := by
  rw [wantMid, pickTo_next, earthUp_all]; rfl
theorem wantMid_len {n : Net} {es R : List Int} {v j : Nat} : (wantMid n es R v j).length ≤ v + 1 := by
  have := pickTo_len (p := isWant n es R) (i := v)
  unfold wantMid
  split <;> simp <;> omega
theorem mem_wantMid {n : Net} {es R : List Int} {v j : Nat} : (v : Int) ∈ wantMid n es R v j ↔ (earthUp n es j v && decide ((v : Int) ∈ R)) = true := by
  unfold wantMid
  have h : (v : Int) ∉ pickTo (isWant n es R) v := fun h => by
    obtain ⟨j, h1, h2, _⟩ := mem_pickTo.1 h
    omega
  split
  · rename_i e; simp [e]
  · rename_i e; simp [e, h]
theorem want_all {n : Net} (hn : n.ok) {l : List Lk} {z : List Int} (hz : rising z n.nodes.length = true) : pickTo (isWant n (earthsOf n l) (regL n z (gapsOf n l))) n.nodes.length = countL n l z := by
  have hr : rising (regL n z (gapsOf n l)) n.nodes.length = true := by
    unfold regL trues
    rw [regB_len]; exact rising_map
  refine rising_ext (pickTo_up) (rising_filter hr) fun x => ?_
  rw [mem_pickTo, countL, List.mem_filter]
  constructor
  · rintro ⟨j, rfl, h1, h2⟩
    simp only [isWant, Bool.and_eq_true, decide_eq_true_eq] at h2
    exact ⟨h2.2, h2.1⟩
  · rintro ⟨h1, h2⟩
    have h3 := rising_mem hr h1
    refine ⟨x.toNat, by omega, by omega, ?_⟩
    simp only [isWant, Bool.and_eq_true, decide_eq_true_eq, Int.toNat_of_nonneg h3.1]
    exact ⟨h2, h1⟩
theorem rEarths (n : Net) (hs : n.sized) (l : List Lk) (hl : l.length ≤ 1000000) :
    Fn1 Tryz.prog GT0 45 [.agg (encNet n), .lst 3 (l.map encLk)] (.tup [.lst 1 ((earthsR n l).1.map encN), .raw (.int .i64 (earthsR n l).2)]) [] := by
  have c := rLockChk n hs l hl
  by_cases h0 : lockChk n l = 0
  · have hr : earthsR n l = (earthsOf n l, 0) := by unfold earthsR; rw [if_neg (by simp [h0])]
    have cs := rSome n hs (by have := (lockChk_ok h0).1.dl; omega) l hl 2 true
    rw [← earthsOf_some] at cs
    rw [h0] at c
    rw [hr]
    refine holds_of Tryz.func45 rfl rfl ?_
    refine J_run 200 ?_
    delta Tryz.f45
    simp only [encNet] at c cs ⊢
    repeat' (first
      | (simp (maxSteps := 1000000) (disch := omega) only [go_sem])
      | ((with_reducible refine CallA.pure c ?_ ?_); (· simp (disch := omega) only [go_sem]); rintro _ _ ⟨rfl, rfl⟩)
      | ((with_reducible refine CallA.pure cs ?_ ?_); (· simp (disch := omega) only [go_sem]); rintro _ _ ⟨rfl, rfl⟩)
      | ((with_reducible first | refine gDt ?_ ?_ | refine gDf ?_ ?_ | refine gNt ?_ ?_ | refine gNf ?_ ?_ | refine cD ?_ ?_ | refine cN ?_ ?_ | refine cB ?_ ?_ | refine gB ?_ ?_) <;> intro h)
      | with_reducible first | refine And.intro ?_ ?_ | refine J_seq ?_ | refine J_block ?_ | refine J_inBlock ?_ | refine rC ?_ | refine rR ?_ | refine rE ?_ | refine rG ?_ | refine FinQ.now ?_ | refine FinQ.end ?_)
  · have hr : earthsR n l = ([], lockChk n l) := by unfold earthsR; rw [if_pos h0]
    rw [hr]
    refine holds_ofV Tryz.func45 rfl rfl ?_
    refine J_run 200 ?_
    delta Tryz.f45
    simp only [encNet] at c ⊢
    iterate 12 (all_goals (try (first
      | (exfalso; omega)
      | (simp (maxSteps := 1000000) (disch := omega) only [go_sem])
      | ((with_reducible refine CallA.pure c ?_ ?_); (· simp (disch := omega) only [go_sem]); rintro _ _ ⟨rfl, rfl⟩)
      | ((with_reducible first | refine gDt ?_ ?_ | refine gDf ?_ ?_ | refine gNt ?_ ?_ | refine gNf ?_ ?_ | refine cD ?_ ?_ | refine cN ?_ ?_ | refine cB ?_ ?_ | refine gB ?_ ?_) <;> intro h)
      | with_reducible first | refine And.intro ?_ ?_ | refine J_seq ?_ | refine J_block ?_ | refine J_inBlock ?_ | refine rC ?_ | refine rR ?_ | refine rE ?_ | refine rG ?_ | refine FinQ.now ?_ | refine FinQ.end ?_)))
    exact ⟨_, .tup (.cons (.nilLst 1) (VLes.refl _)), rfl, rfl⟩
end Go.Proofs.YthgcmeniecaemaaGreatDoor.Abs
