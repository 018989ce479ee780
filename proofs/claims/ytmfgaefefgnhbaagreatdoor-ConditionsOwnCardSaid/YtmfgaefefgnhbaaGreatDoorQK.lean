/- The reasons' closures. -/
import Derived.Test.YtmfgaefefgnhbaaGreatDoorQJ
import Derived.Test.YtmfgaefefgnhbaaGreatDoorR4
import Derived.Test.YtmfgaefefgnhbaaGreatDoorEE
namespace Go.Proofs.YtmfgaefefgnhbaaGreatDoor.Abs
set_option linter.unusedSimpArgs false
set_option linter.unusedVariables false
set_option maxRecDepth 100000
open Go Go.RowKit

theorem reason1 (r : List Pers) (hl : r.length ≤ 1000000) (hr : ∀ p, p ∈ r → p.sized) (o : Off) (d : Doc) : Fn1 Tryz.prog GT0 19 [.cptr (encReg r), .cptr (encDoc d), .cptr (encOff o)] (.raw (.bool (!canB r d.iss 4 o.time || foreignB r d.iss o.comp))) [] := by
  have c1 := canF r hl hr d.iss 4 o.time (by decide)
  have c2 := foreignF r hl hr d.iss o.comp
  generalize canB r d.iss 4 o.time = b at c1 ⊢
  generalize foreignB r d.iss o.comp = c at c2 ⊢
  simp only [encReg, encDoc, encOff] at c1 c2 ⊢
  refine holds_of Tryz.func19 rfl rfl ?_
  refine J_run 200 ?_
  delta Tryz.f19
  cases b
  · repeat' (first
      | (simp (maxSteps := 1000000) (disch := omega) only [go_sem])
      | ((with_reducible refine CallA.pure c1 ?_ ?_); (· simp (disch := omega) only [go_sem]); rintro _ _ ⟨rfl, rfl⟩)
      | ((with_reducible first | refine gDt ?_ ?_ | refine gDf ?_ ?_ | refine gNt ?_ ?_ | refine gNf ?_ ?_ | refine cD ?_ ?_ | refine cN ?_ ?_ | refine cB ?_ ?_ | refine gB ?_ ?_) <;> intro h)
      | with_reducible first | refine And.intro ?_ ?_ | refine J_seq ?_ | refine J_block ?_ | refine J_inBlock ?_ | refine rC ?_ | refine rR ?_ | refine rE ?_ | refine rG ?_ | refine FinQ.now ?_ | refine FinQ.end ?_)
  · repeat' (first
      | (simp (maxSteps := 1000000) (disch := omega) only [go_sem])
      | ((with_reducible refine CallA.pure c1 ?_ ?_); (· simp (disch := omega) only [go_sem]); rintro _ _ ⟨rfl, rfl⟩)
      | ((with_reducible refine CallA.pure c2 ?_ ?_); (· simp (disch := omega) only [go_sem]); rintro _ _ ⟨rfl, rfl⟩)
      | ((with_reducible first | refine gDt ?_ ?_ | refine gDf ?_ ?_ | refine gNt ?_ ?_ | refine gNf ?_ ?_ | refine cD ?_ ?_ | refine cN ?_ ?_ | refine cB ?_ ?_ | refine gB ?_ ?_) <;> intro h)
      | with_reducible first | refine And.intro ?_ ?_ | refine J_seq ?_ | refine J_block ?_ | refine J_inBlock ?_ | refine rC ?_ | refine rR ?_ | refine rE ?_ | refine rG ?_ | refine FinQ.now ?_ | refine FinQ.end ?_)
theorem skill_in (k : Int) : inI (skillOf k) := by unfold skillOf inI; split <;> omega
theorem reason2 (r : List Pers) (hl : r.length ≤ 1000000) (hr : ∀ p, p ∈ r → p.sized) (o : Off) (d : Doc) : Fn1 Tryz.prog GT0 22 [.cptr (encReg r), .cptr (encDoc d), .cptr (encOff o)] (.raw (.bool (!canB r d.hol (skillOf d.kind) o.time))) [] := by
  have c1 := canF r hl hr d.hol (skillOf d.kind) o.time (skill_in _)
  have c2 := skillF d.kind
  generalize canB r d.hol (skillOf d.kind) o.time = b at c1 ⊢
  simp only [encReg, encDoc, encOff] at c1 c2 ⊢
  refine holds_of Tryz.func22 rfl rfl ?_
  refine J_run 200 ?_
  delta Tryz.f22
  repeat' (first
    | ((with_reducible refine J_draw (id := 1) 200 [] plan22_1 (by kernel_rfl) (by kernel_rfl) ?_); delta plan22_1)
    | (simp (maxSteps := 1000000) (disch := omega) only [go_sem])
    | ((with_reducible refine CallA.pure c1 ?_ ?_); (· simp (disch := omega) only [go_sem]); rintro _ _ ⟨rfl, rfl⟩)
    | ((with_reducible refine CallA.pure c2 ?_ ?_); (· simp (disch := omega) only [go_sem]); rintro _ _ ⟨rfl, rfl⟩)
    | ((with_reducible first | refine gDt ?_ ?_ | refine gDf ?_ ?_ | refine gNt ?_ ?_ | refine gNf ?_ ?_ | refine cD ?_ ?_ | refine cN ?_ ?_ | refine cB ?_ ?_ | refine gB ?_ ?_ | refine stepGuard_dect ?_ ?_ | refine stepGuard_decf ?_ ?_ | refine stepGuard_ndect ?_ ?_ | refine stepGuard_ndecf ?_ ?_ | refine stepGuard_by ?_ ?_) <;> intro h)
    | with_reducible first | refine And.intro ?_ ?_ | refine J_seq ?_ | refine J_block ?_ | refine J_inBlock ?_ | refine rC ?_ | refine rR ?_ | refine rE ?_ | refine rG ?_ | refine FinQ.now ?_ | refine FinQ.end ?_)
theorem reason3 (o : Off) (d : Doc) : Fn1 Tryz.prog GT0 24 [.cptr (encOff o), .cptr (encDoc d)] (.raw (.bool (decide (o.time < d.frm ∨ d.til ≤ o.time)))) [] := by
  simp only [encDoc, encOff]
  refine holds_of Tryz.func24 rfl rfl ?_
  refine J_run 200 ?_
  delta Tryz.f24
  repeat' (first
    | (simp (maxSteps := 1000000) (disch := omega) only [go_sem])
    | ((with_reducible first | refine gDt ?_ ?_ | refine gDf ?_ ?_ | refine gNt ?_ ?_ | refine gNf ?_ ?_ | refine cD ?_ ?_ | refine cN ?_ ?_ | refine cB ?_ ?_ | refine gB ?_ ?_) <;> intro h)
    | with_reducible first | refine And.intro ?_ ?_ | refine J_seq ?_ | refine J_block ?_ | refine J_inBlock ?_ | refine rC ?_ | refine rR ?_ | refine rE ?_ | refine rG ?_ | refine FinQ.now ?_ | refine FinQ.end ?_)
  all_goals first | (rw [Bool.eq_iff_iff]; simp []; omega) | (simp_all []; done) | (rw [Bool.eq_iff_iff]; simp_all []; omega) | (simp_all []; omega) | omega
theorem reason41 (o : Off) (ho : o.sized) (k : Lk) : Fn1 Tryz.prog GT0 27 [.agg (encLk k), .cptr (encOff o)] (.raw (.bool (!decide (k ∈ o.locks)))) [] := by
  have c := containsLk o.locks ho.ll k
  generalize decide (k ∈ o.locks) = b at c ⊢
  simp only [encLk, encOff] at c ⊢
  refine holds_of Tryz.func27 rfl rfl ?_
  refine J_run 200 ?_
  delta Tryz.f27
  repeat' (first
    | (simp (maxSteps := 1000000) (disch := omega) only [go_sem])
    | ((with_reducible refine CallA.pure c ?_ ?_); (· simp (disch := omega) only [go_sem]); rintro _ _ ⟨rfl, rfl⟩)
    | ((with_reducible first | refine gDt ?_ ?_ | refine gDf ?_ ?_ | refine gNt ?_ ?_ | refine gNf ?_ ?_ | refine cD ?_ ?_ | refine cN ?_ ?_ | refine cB ?_ ?_ | refine gB ?_ ?_) <;> intro h)
    | with_reducible first | refine And.intro ?_ ?_ | refine J_seq ?_ | refine J_block ?_ | refine J_inBlock ?_ | refine rC ?_ | refine rR ?_ | refine rE ?_ | refine rG ?_ | refine FinQ.now ?_ | refine FinQ.end ?_)
theorem reason4 (w : List Lk) (hw : w.length ≤ 1000000) (o : Off) (ho : o.sized) : Fn1 Tryz.prog GT0 25 [.cptr [.lst 3 (w.map encLk)], .cptr (encOff o)] (.raw (.bool (w.any fun k => !decide (k ∈ o.locks)))) [] := by
  have c := containsFuncL w 27 [.cptr (encOff o)] rfl (fun k => !decide (k ∈ o.locks)) (by omega) fun k _ => reason41 o ho k
  generalize (w.any fun k => !decide (k ∈ o.locks)) = b at c ⊢
  simp only [encOff] at c ⊢
  refine holds_of Tryz.func25 rfl rfl ?_
  refine J_run 200 ?_
  delta Tryz.f25
  repeat' (first
    | (simp (maxSteps := 1000000) (disch := omega) only [go_sem])
    | ((with_reducible refine CallA.pure c ?_ ?_); (· simp (disch := omega) only [go_sem]); rintro _ _ ⟨rfl, rfl⟩)
    | ((with_reducible first | refine gDt ?_ ?_ | refine gDf ?_ ?_ | refine gNt ?_ ?_ | refine gNf ?_ ?_ | refine cD ?_ ?_ | refine cN ?_ ?_ | refine cB ?_ ?_ | refine gB ?_ ?_) <;> intro h)
    | with_reducible first | refine And.intro ?_ ?_ | refine J_seq ?_ | refine J_block ?_ | refine J_inBlock ?_ | refine rC ?_ | refine rR ?_ | refine rE ?_ | refine rG ?_ | refine FinQ.now ?_ | refine FinQ.end ?_)
theorem reason51 (o : Off) (ho : o.sized) (d : Doc) (k : Lk) : Fn1 Tryz.prog GT0 30 [.agg (encLk k), .cptr (encOff o), .cptr (encDoc d)] (.raw (.bool (!stowedB o d k))) [] := by
  have c := stowedF o ho d k
  generalize stowedB o d k = b at c ⊢
  simp only [encLk, encOff, encDoc] at c ⊢
  refine holds_of Tryz.func30 rfl rfl ?_
  refine J_run 200 ?_
  delta Tryz.f30
  repeat' (first
    | (simp (maxSteps := 1000000) (disch := omega) only [go_sem])
    | ((with_reducible refine CallA.pure c ?_ ?_); (· simp (disch := omega) only [go_sem]); rintro _ _ ⟨rfl, rfl⟩)
    | ((with_reducible first | refine gDt ?_ ?_ | refine gDf ?_ ?_ | refine gNt ?_ ?_ | refine gNf ?_ ?_ | refine cD ?_ ?_ | refine cN ?_ ?_ | refine cB ?_ ?_ | refine gB ?_ ?_) <;> intro h)
    | with_reducible first | refine And.intro ?_ ?_ | refine J_seq ?_ | refine J_block ?_ | refine J_inBlock ?_ | refine rC ?_ | refine rR ?_ | refine rE ?_ | refine rG ?_ | refine FinQ.now ?_ | refine FinQ.end ?_)
theorem reason5 (w : List Lk) (hw : w.length ≤ 1000000) (o : Off) (ho : o.sized) (d : Doc) : Fn1 Tryz.prog GT0 29 [.cptr [.lst 3 (w.map encLk)], .cptr (encOff o), .cptr (encDoc d)] (.raw (.bool (w.any fun k => !stowedB o d k))) [] := by
  have c := containsFuncL w 30 [.cptr (encOff o), .cptr (encDoc d)] rfl (fun k => !stowedB o d k) (by omega) fun k _ => reason51 o ho d k
  generalize (w.any fun k => !stowedB o d k) = b at c ⊢
  simp only [encOff, encDoc] at c ⊢
  refine holds_of Tryz.func29 rfl rfl ?_
  refine J_run 200 ?_
  delta Tryz.f29
  repeat' (first
    | (simp (maxSteps := 1000000) (disch := omega) only [go_sem])
    | ((with_reducible refine CallA.pure c ?_ ?_); (· simp (disch := omega) only [go_sem]); rintro _ _ ⟨rfl, rfl⟩)
    | ((with_reducible first | refine gDt ?_ ?_ | refine gDf ?_ ?_ | refine gNt ?_ ?_ | refine gNf ?_ ?_ | refine cD ?_ ?_ | refine cN ?_ ?_ | refine cB ?_ ?_ | refine gB ?_ ?_) <;> intro h)
    | with_reducible first | refine And.intro ?_ ?_ | refine J_seq ?_ | refine J_block ?_ | refine J_inBlock ?_ | refine rC ?_ | refine rR ?_ | refine rE ?_ | refine rG ?_ | refine FinQ.now ?_ | refine FinQ.end ?_)
theorem reason6 (n : Net) (hs : n.sized) (d : Doc) (hd : d.sized) : Fn1 Tryz.prog GT0 32 [.cptr (encNet n), .cptr (encDoc d)] (.raw (.bool (!(isolatedR n d.locks d.zone).1 && decide (d.kind ≠ 3)))) [] := by
  have c := isolatedF n hs d.locks hd.ll d.zone hd.zl
  generalize isolatedR n d.locks d.zone = b at c ⊢
  obtain ⟨b, e⟩ := b
  simp only [encNet, encDoc] at c ⊢
  refine holds_of Tryz.func32 rfl rfl ?_
  refine J_run 200 ?_
  delta Tryz.f32
  cases b
  · repeat' (first
      | (simp (maxSteps := 1000000) (disch := omega) only [go_sem])
      | ((with_reducible refine CallA.pure c ?_ ?_); (· simp (disch := omega) only [go_sem]); rintro _ _ ⟨rfl, rfl⟩)
      | ((with_reducible first | refine gDt ?_ ?_ | refine gDf ?_ ?_ | refine gNt ?_ ?_ | refine gNf ?_ ?_ | refine cD ?_ ?_ | refine cN ?_ ?_ | refine cB ?_ ?_ | refine gB ?_ ?_) <;> intro h)
      | with_reducible first | refine And.intro ?_ ?_ | refine J_seq ?_ | refine J_block ?_ | refine J_inBlock ?_ | refine rC ?_ | refine rR ?_ | refine rE ?_ | refine rG ?_ | refine FinQ.now ?_ | refine FinQ.end ?_)
    all_goals first | (rw [Bool.eq_iff_iff]; simp []; omega) | (simp_all []; done) | (rw [Bool.eq_iff_iff]; simp_all []; omega) | (simp_all []; omega) | omega
  · repeat' (first
      | (simp (maxSteps := 1000000) (disch := omega) only [go_sem])
      | ((with_reducible refine CallA.pure c ?_ ?_); (· simp (disch := omega) only [go_sem]); rintro _ _ ⟨rfl, rfl⟩)
      | ((with_reducible first | refine gDt ?_ ?_ | refine gDf ?_ ?_ | refine gNt ?_ ?_ | refine gNf ?_ ?_ | refine cD ?_ ?_ | refine cN ?_ ?_ | refine cB ?_ ?_ | refine gB ?_ ?_) <;> intro h)
      | with_reducible first | refine And.intro ?_ ?_ | refine J_seq ?_ | refine J_block ?_ | refine J_inBlock ?_ | refine rC ?_ | refine rR ?_ | refine rE ?_ | refine rG ?_ | refine FinQ.now ?_ | refine FinQ.end ?_)
    all_goals first | (rw [Bool.eq_iff_iff]; simp []; omega) | (simp_all []; done) | (rw [Bool.eq_iff_iff]; simp_all []; omega) | (simp_all []; omega) | omega
theorem reason7 (n : Net) (hs : n.sized) (d : Doc) (hd : d.sized) : Fn1 Tryz.prog GT0 34 [.cptr (encNet n), .cptr (encDoc d)] (.raw (.bool (!(sidesR n d.locks d.zone).1 && decide (d.kind = 1)))) [] := by
  have c := SidesF n hs d.locks hd.ll d.zone hd.zl
  generalize sidesR n d.locks d.zone = b at c ⊢
  obtain ⟨b, e⟩ := b
  simp only [encNet, encDoc] at c ⊢
  refine holds_of Tryz.func34 rfl rfl ?_
  refine J_run 200 ?_
  delta Tryz.f34
  cases b
  · repeat' (first
      | (simp (maxSteps := 1000000) (disch := omega) only [go_sem])
      | ((with_reducible refine CallA.pure c ?_ ?_); (· simp (disch := omega) only [go_sem]); rintro _ _ ⟨rfl, rfl⟩)
      | ((with_reducible first | refine gDt ?_ ?_ | refine gDf ?_ ?_ | refine gNt ?_ ?_ | refine gNf ?_ ?_ | refine cD ?_ ?_ | refine cN ?_ ?_ | refine cB ?_ ?_ | refine gB ?_ ?_) <;> intro h)
      | with_reducible first | refine And.intro ?_ ?_ | refine J_seq ?_ | refine J_block ?_ | refine J_inBlock ?_ | refine rC ?_ | refine rR ?_ | refine rE ?_ | refine rG ?_ | refine FinQ.now ?_ | refine FinQ.end ?_)
    all_goals first | (rw [Bool.eq_iff_iff]; simp []; omega) | (simp_all []; done) | (rw [Bool.eq_iff_iff]; simp_all []; omega) | (simp_all []; omega) | omega
  · repeat' (first
      | (simp (maxSteps := 1000000) (disch := omega) only [go_sem])
      | ((with_reducible refine CallA.pure c ?_ ?_); (· simp (disch := omega) only [go_sem]); rintro _ _ ⟨rfl, rfl⟩)
      | ((with_reducible first | refine gDt ?_ ?_ | refine gDf ?_ ?_ | refine gNt ?_ ?_ | refine gNf ?_ ?_ | refine cD ?_ ?_ | refine cN ?_ ?_ | refine cB ?_ ?_ | refine gB ?_ ?_) <;> intro h)
      | with_reducible first | refine And.intro ?_ ?_ | refine J_seq ?_ | refine J_block ?_ | refine J_inBlock ?_ | refine rC ?_ | refine rR ?_ | refine rE ?_ | refine rG ?_ | refine FinQ.now ?_ | refine FinQ.end ?_)
    all_goals first | (rw [Bool.eq_iff_iff]; simp []; omega) | (simp_all []; done) | (rw [Bool.eq_iff_iff]; simp_all []; omega) | (simp_all []; omega) | omega
theorem reason8 (n : Net) (hs : n.sized) (o : Off) (ho : o.sized) (hcl : ∀ c, c ∈ o.certs → c.locks.length ≤ 128) (d : Doc) (hd : d.sized) (hdc : d.certs.length ≤ 1000) (hdk : lockChk n d.locks = 0) : Fn1 Tryz.prog GT0 36 [.cptr (encNet n), .cptr (encOff o), .cptr (encDoc d)] (.raw (.bool (!coveredB n o d))) [] := by
  have c := coveredF n hs o ho hcl d hd hdc hdk
  generalize coveredB n o d = b at c ⊢
  simp only [encNet, encOff, encDoc] at c ⊢
  refine holds_of Tryz.func36 rfl rfl ?_
  refine J_run 200 ?_
  delta Tryz.f36
  repeat' (first
    | (simp (maxSteps := 1000000) (disch := omega) only [go_sem])
    | ((with_reducible refine CallA.pure c ?_ ?_); (· simp (disch := omega) only [go_sem]); rintro _ _ ⟨rfl, rfl⟩)
    | ((with_reducible first | refine gDt ?_ ?_ | refine gDf ?_ ?_ | refine gNt ?_ ?_ | refine gNf ?_ ?_ | refine cD ?_ ?_ | refine cN ?_ ?_ | refine cB ?_ ?_ | refine gB ?_ ?_) <;> intro h)
    | with_reducible first | refine And.intro ?_ ?_ | refine J_seq ?_ | refine J_block ?_ | refine J_inBlock ?_ | refine rC ?_ | refine rR ?_ | refine rE ?_ | refine rG ?_ | refine FinQ.now ?_ | refine FinQ.end ?_)
theorem reason9 (n : Net) (hs : n.sized) (o : Off) (ho : o.sized) (d : Doc) (hd : d.sized) : Fn1 Tryz.prog GT0 38 [.cptr (encNet n), .cptr (encOff o), .cptr (encDoc d)] (.raw (.bool (decide (0 < (clashR n o.docs d).1.length)))) [] := by
  have c := ovClashes n hs o.docs ho.dl ho.ds d hd
  have hl : (clashR n o.docs d).1.length ≤ 1000000 := by
    unfold clashR
    split
    · simp
    · exact Nat.le_trans clashL_len ho.dl
  generalize clashR n o.docs d = b at c hl ⊢
  obtain ⟨b, e⟩ := b
  simp only [encNet, encOff, encDoc] at c hl ⊢
  refine holds_of Tryz.func38 rfl rfl ?_
  refine J_run 200 ?_
  delta Tryz.f38
  repeat' (first
    | (simp (maxSteps := 1000000) (disch := omega) only [go_sem])
    | ((with_reducible refine CallA.pure c ?_ ?_); (· simp (disch := omega) only [go_sem]); rintro _ _ ⟨rfl, rfl⟩)
    | ((with_reducible first | refine gDt ?_ ?_ | refine gDf ?_ ?_ | refine gNt ?_ ?_ | refine gNf ?_ ?_ | refine cD ?_ ?_ | refine cN ?_ ?_ | refine cB ?_ ?_ | refine gB ?_ ?_) <;> intro h)
    | with_reducible first | refine And.intro ?_ ?_ | refine J_seq ?_ | refine J_block ?_ | refine J_inBlock ?_ | refine rC ?_ | refine rR ?_ | refine rE ?_ | refine rG ?_ | refine FinQ.now ?_ | refine FinQ.end ?_)
  all_goals first | (rw [Bool.eq_iff_iff]; simp []; omega) | (simp_all []; done) | (rw [Bool.eq_iff_iff]; simp_all []; omega) | (simp_all []; omega) | omega
end Go.Proofs.YtmfgaefefgnhbaaGreatDoor.Abs
