/- Overlap: whether documents meet and exclude each other. -/
import Derived.Test.YtmfgaefefgnhbaaGreatDoorGA
import Derived.Test.YtmfgaefefgnhbaaGreatDoorZ1
namespace Go.Proofs.YtmfgaefefgnhbaaGreatDoor.Abs
set_option linter.unusedSimpArgs false
set_option linter.unusedVariables false
set_option maxRecDepth 100000
open Go Go.RowKit

theorem regionD_two {n : Net} {x : Doc} : (regionD n x).2 = docChk n x := by
  by_cases h : docChk n x = 0
  · rw [regionD_ok h, h]
  · rw [regionD_err h]
theorem meetE_b {n : Net} {a b : Doc} (ha : docChk n a = 0) : meetE n a b = docChk n b := by unfold meetE; rw [if_neg (by simp [ha])]
theorem meetR_b {n : Net} {a b : Doc} (ha : docChk n a = 0) (hb : docChk n b ≠ 0) : meetR n a b = (false, docChk n b) := by unfold meetR; rw [meetE_b ha, if_pos hb]
theorem meetR_ok {n : Net} {a b : Doc} (ha : docChk n a = 0) (hb : docChk n b = 0) : meetR n a b = (meetB n a b, 0) := by unfold meetR; rw [meetE_b ha, if_neg (by simp [hb])]
theorem meet_bits {n : Net} {a b : Doc} (ha : docChk n a = 0) : (!decide (((bitsOf (regionD n a).1 &&& bitsOf (regionD n b).1 : Nat) : Int) = 0)) = (meetR n a b).1 := by
  by_cases hb : docChk n b = 0
  · have e : (meetR n a b).1 = meetB n a b := by rw [meetR_ok ha hb]
    rw [e, regionD_ok ha, regionD_ok hb]
    have h := bits_and (a := regD n a) (b := regD n b) (fun v hv => (regD_mem ha v hv).1) (fun v hv => (regD_mem hb v hv).1)
    unfold meetB
    rw [Bool.eq_iff_iff, ← h]
    simp only [Bool.not_eq_true', decide_eq_false_iff_not]
    constructor
    · intro h1 h2; exact h1 (by rw [h2]; rfl)
    · intro h1 h2; exact h1 (by exact_mod_cast h2)
  · have e : (meetR n a b).1 = false := by rw [meetR_b ha hb]
    rw [e, regionD_err hb]
    simp [bitsOf]
theorem meetR_err {n : Net} {a b : Doc} (ha : docChk n a ≠ 0) : meetR n a b = (false, docChk n a) := by unfold meetR meetE; rw [if_pos ha, if_pos ha]
theorem meetR_two {n : Net} {a b : Doc} (ha : docChk n a = 0) : (meetR n a b).2 = docChk n b := by
  by_cases hb : docChk n b = 0
  · rw [meetR_ok ha hb, hb]
  · rw [meetR_b ha hb]
theorem regionD_lt {n : Net} {x : Doc} : bitsOf (regionD n x).1 < 2 ^ 64 := Nat.lt_trans (bitsOf_lt fun v hv => (regionD_mem v hv).2) (by decide)
set_option maxHeartbeats 4000000 in
theorem ovMeet (n : Net) (hs : n.sized) (a b : Doc) (ha : a.sized) (hb : b.sized) : Fn1 Tryz.prog GT0 107 [.agg (encNet n), .agg (encDoc a), .agg (encDoc b)] (.tup [.raw (.bool (meetR n a b).1), .raw (.int .i64 (meetR n a b).2)]) [] := by
  have ca := ovArea n hs a ha
  have cb := ovArea n hs b hb
  rw [regionD_two] at ca cb
  by_cases h0 : docChk n a = 0
  · have hand := u64_and (regionD_lt (n := n) (x := a)) (regionD_lt (n := n) (x := b))
    have hmb := meet_bits (b := b) h0
    rw [meetR_two h0]
    rw [h0] at ca
    obtain ⟨m, hm⟩ : ∃ m, (meetR n a b).1 = m := ⟨_, rfl⟩
    rw [hm] at hmb ⊢
    obtain ⟨A, hA⟩ : ∃ m, bitsOf (regionD n a).1 = m := ⟨_, rfl⟩
    obtain ⟨B, hB⟩ : ∃ m, bitsOf (regionD n b).1 = m := ⟨_, rfl⟩
    rw [hA] at ca hmb hand
    rw [hB] at cb hmb hand
    refine holds_of Tryz.func107 rfl rfl ?_
    refine J_run 200 ?_
    delta Tryz.f107
    simp only [encNet, encDoc] at ca cb ⊢
    iterate 20 (all_goals (try (first
      | (simp (maxSteps := 1000000) (disch := omega) only [go_sem])
      | ((with_reducible refine CallA.pure ca ?_ ?_); (· simp (disch := omega) only [go_sem]); rintro _ _ ⟨rfl, rfl⟩)
      | ((with_reducible refine CallA.pure cb ?_ ?_); (· simp (disch := omega) only [go_sem]); rintro _ _ ⟨rfl, rfl⟩)
      | ((with_reducible first | refine gDt ?_ ?_ | refine gDf ?_ ?_ | refine gNt ?_ ?_ | refine gNf ?_ ?_ | refine cD ?_ ?_ | refine cN ?_ ?_ | refine cB ?_ ?_ | refine gB ?_ ?_) <;> intro h)
      | with_reducible first | refine And.intro ?_ ?_ | refine J_seq ?_ | refine J_block ?_ | refine J_inBlock ?_ | refine rC ?_ | refine rR ?_ | refine rE ?_ | refine rG ?_ | refine FinQ.now ?_ | refine FinQ.end ?_)))
    erw [hand, hmb]
  · rw [meetR_err h0]
    refine holds_of Tryz.func107 rfl rfl ?_
    refine J_run 200 ?_
    delta Tryz.f107
    simp only [encNet, encDoc] at ca ⊢
    iterate 16 (all_goals (try (first
      | (simp (maxSteps := 1000000) (disch := omega) only [go_sem, h0])
      | ((with_reducible refine CallA.pure ca ?_ ?_); (· simp (disch := omega) only [go_sem, h0]); rintro _ _ ⟨rfl, rfl⟩)
      | ((with_reducible first | refine gDt ?_ ?_ | refine gDf ?_ ?_ | refine gNt ?_ ?_ | refine gNf ?_ ?_ | refine cD ?_ ?_ | refine cN ?_ ?_ | refine cB ?_ ?_ | refine gB ?_ ?_) <;> intro h)
      | with_reducible first | refine And.intro ?_ ?_ | refine J_seq ?_ | refine J_block ?_ | refine J_inBlock ?_ | refine rC ?_ | refine rR ?_ | refine rE ?_ | refine rG ?_ | refine FinQ.now ?_ | refine FinQ.end ?_)))
set_option maxHeartbeats 4000000 in
theorem ovExcl (n : Net) (hs : n.sized) (a b : Doc) (ha : a.sized) (hb : b.sized) : Fn1 Tryz.prog GT0 74 [.agg (encNet n), .agg (encDoc a), .agg (encDoc b)] (.tup [.raw (.bool (exclR n a b).1), .raw (.int .i64 (exclR n a b).2)]) [] := by
  have c := ovMeet n hs a b ha hb
  unfold exclR testB
  obtain ⟨⟨m, e⟩, hm⟩ : ∃ m, meetR n a b = m := ⟨_, rfl⟩
  rw [hm] at c ⊢
  simp only at c ⊢
  cases m
  all_goals
    refine holds_of Tryz.func74 rfl rfl ?_
    refine J_run 200 ?_
    delta Tryz.f74
    simp only [encNet, encDoc] at c ⊢
    iterate 20 (all_goals (try (first
      | (simp (maxSteps := 1000000) (disch := omega) only [go_sem])
      | ((with_reducible refine CallA.pure c ?_ ?_); (· simp (disch := omega) only [go_sem]); rintro _ _ ⟨rfl, rfl⟩)
      | ((with_reducible first | refine gDt ?_ ?_ | refine gDf ?_ ?_ | refine gNt ?_ ?_ | refine gNf ?_ ?_ | refine cD ?_ ?_ | refine cN ?_ ?_ | refine cB ?_ ?_ | refine gB ?_ ?_) <;> intro h)
      | with_reducible first | refine And.intro ?_ ?_ | refine J_seq ?_ | refine J_block ?_ | refine J_inBlock ?_ | refine rC ?_ | refine rR ?_ | refine rE ?_ | refine rG ?_ | refine FinQ.now ?_ | refine FinQ.end ?_)))
  all_goals simp_all
end Go.Proofs.YtmfgaefefgnhbaaGreatDoor.Abs
