/- Overlap: regions of documents, and their nodes as bits. -/
import Derived.Test.YtmfgaefefgnhbaaGreatDoorDB
import Derived.Test.YtmfgaefefgnhbaaGreatDoorOB
import Derived.Test.YtmfgaefefgnhbaaGreatDoorRW
import Derived.Test.YtmfgaefefgnhbaaGreatDoorR4
import Derived.Test.YtmfgaefefgnhbaaGreatDoorAbsX
namespace Go.Proofs.YtmfgaefefgnhbaaGreatDoor.Abs
set_option linter.unusedSimpArgs false
set_option linter.unusedVariables false
set_option maxRecDepth 100000
open Go Go.RowKit

theorem gapsQ (n : Net) (hs : n.sized) (l : List Lk) (hl : l.length ≤ 1000000) :
    Fn1 Tryz.prog GT0 102 [.agg (encNet n), .lst 3 (l.map encLk)] (.tup [.lst 1 ((gapsR n l).1.map encN), .raw (.int .i64 (gapsR n l).2)]) [] := by
  have e : thoseR n l 1 gapK = gapsR n l := by unfold thoseR gapsR; rw [gapsOf_those]
  have c := gapsF n hs l hl
  rw [e] at c
  refine c.lst _ ?_
  simp [AV.leafs, AV.leafsL, frzOwn, List.take_of_length_le]
theorem gapsOk {n : Net} {l : List Lk} (h : lockChk n l = 0) : gapsR n l = (gapsOf n l, 0) := by unfold gapsR; rw [if_neg (by simp [h])]
theorem regOkD {n : Net} {z g : List Int} (h : zoneChk n z = 0) (hg : Gaps n g) : regionR n z g = (regL n z g, 0) := by unfold regionR; rw [if_neg (by simp [fault_ok h hg])]
theorem regionD_ok {n : Net} {x : Doc} (h : docChk n x = 0) : regionD n x = (regD n x, 0) := by unfold regionD; rw [if_neg (by simp [h])]
theorem regionD_err {n : Net} {x : Doc} (h : docChk n x ≠ 0) : regionD n x = ([], docChk n x) := by unfold regionD; rw [if_pos h]
theorem Doc.sized.zl1 {x : Doc} (h : x.sized) : x.zone.length ≤ 1000000 := h.zl
set_option maxHeartbeats 4000000 in
theorem ovRegion (n : Net) (hs : n.sized) (x : Doc) (hx : x.sized) : Fn1 Tryz.prog GT0 151 [.agg (encNet n), .agg (encDoc x)] (.tup [.lst 1 ((regionD n x).1.map encN), .raw (.int .i64 (regionD n x).2)]) [] := by
  have cd := docCheck n hs x hx
  by_cases h0 : docChk n x = 0
  · obtain ⟨hn, _, hz, _, hl, _, _⟩ := docChk_zero h0
    have hgl : (gapsOf n x.locks).length ≤ 1000000 := by have := gapsOf_len (n := n) (l := x.locks); have := hn.dl; omega
    have cg := gapsQ n hs x.locks hx.ll
    rw [gapsOk hl] at cg
    have cr := RegionF n hs x.zone (gapsOf n x.locks) hx.zl hgl
    rw [regOkD hz (gapsOf_gaps n x.locks)] at cr
    rw [regionD_ok h0]
    rw [h0] at cd
    show Fn1 _ _ _ _ (.tup [.lst 1 ((regL n x.zone (gapsOf n x.locks)).map encN), .raw (.int .i64 0)]) []
    refine holds_of Tryz.func151 rfl rfl ?_
    refine J_run 200 ?_
    delta Tryz.f151
    simp only [encNet, encDoc] at cd cg cr ⊢
    iterate 16 (all_goals (try (first
      | (simp (maxSteps := 1000000) (disch := omega) only [go_sem])
      | ((with_reducible refine CallA.pure cd ?_ ?_); (· simp (disch := omega) only [go_sem]); rintro _ _ ⟨rfl, rfl⟩)
      | ((with_reducible refine CallA.pure cg ?_ ?_); (· simp (disch := omega) only [go_sem]); rintro _ _ ⟨rfl, rfl⟩)
      | ((with_reducible refine CallA.pure cr ?_ ?_); (· simp (disch := omega) only [go_sem]); rintro _ _ ⟨rfl, rfl⟩)
      | ((with_reducible first | refine gDt ?_ ?_ | refine gDf ?_ ?_ | refine gNt ?_ ?_ | refine gNf ?_ ?_ | refine cD ?_ ?_ | refine cN ?_ ?_ | refine cB ?_ ?_ | refine gB ?_ ?_) <;> intro h)
      | with_reducible first | refine And.intro ?_ ?_ | refine J_seq ?_ | refine J_block ?_ | refine J_inBlock ?_ | refine rC ?_ | refine rR ?_ | refine rE ?_ | refine rG ?_ | refine FinQ.now ?_ | refine FinQ.end ?_)))
  · rw [regionD_err h0]
    refine holds_ofV Tryz.func151 rfl rfl ?_
    refine J_run 200 ?_
    delta Tryz.f151
    simp only [encNet, encDoc] at cd ⊢
    iterate 16 (all_goals (try (first
      | (simp (maxSteps := 1000000) (disch := omega) only [go_sem, h0])
      | ((with_reducible refine CallA.pure cd ?_ ?_); (· simp (disch := omega) only [go_sem, h0]); rintro _ _ ⟨rfl, rfl⟩)
      | ((with_reducible first | refine gDt ?_ ?_ | refine gDf ?_ ?_ | refine gNt ?_ ?_ | refine gNf ?_ ?_ | refine cD ?_ ?_ | refine cN ?_ ?_ | refine cB ?_ ?_ | refine gB ?_ ?_) <;> intro h)
      | with_reducible first | refine And.intro ?_ ?_ | refine J_seq ?_ | refine J_block ?_ | refine J_inBlock ?_ | refine rC ?_ | refine rR ?_ | refine rE ?_ | refine rG ?_ | refine FinQ.now ?_ | refine FinQ.end ?_)))
    exact ⟨_, .tup (.cons (.nilLst 1) (VLes.refl _)), rfl, rfl⟩
theorem regD_mem {n : Net} {x : Doc} (h : docChk n x = 0) : ∀ v, v ∈ regD n x → 0 ≤ v ∧ v < n.nodes.length := by
  obtain ⟨hn, _, hz, _, hl, _, _⟩ := docChk_zero h
  intro v hv
  have h1 := (regL_mem hn (zoneChk_zero hz).2.2).1 hv
  have h2 := RG.lt hn (zoneChk_zero hz).2.2 h1.2
  omega
theorem regionD_mem {n : Net} {x : Doc} : ∀ v, v ∈ (regionD n x).1 → 0 ≤ v ∧ v < 32 := by
  intro v hv
  by_cases h : docChk n x = 0
  · rw [regionD_ok h] at hv
    have := regD_mem h v hv
    have := (docChk_zero h).1.nl
    omega
  · rw [regionD_err h] at hv
    cases hv
theorem regionD_len {n : Net} {x : Doc} : (regionD n x).1.length ≤ 64 := by
  by_cases h : docChk n x = 0
  · rw [regionD_ok h]
    have h1 : (regD n x).length ≤ n.nodes.length := by
      unfold regD regL trues
      rw [List.length_map]
      refine Nat.le_trans (List.length_filter_le _ _) ?_
      simp [regB_len]
    have := (docChk_zero h).1.nl
    simp only; omega
  · rw [regionD_err h]; simp
set_option maxHeartbeats 4000000 in
theorem ovArea (n : Net) (hs : n.sized) (x : Doc) (hx : x.sized) : Fn1 Tryz.prog GT0 138 [.agg (encNet n), .agg (encDoc x)] (.tup [.raw (.int .u64 (bitsOf (regionD n x).1 : Nat)), .raw (.int .i64 (regionD n x).2)]) [] := by
  have c := ovRegion n hs x hx
  have hm := regionD_mem (n := n) (x := x)
  have hll := regionD_len (n := n) (x := x)
  obtain ⟨⟨l, e⟩, hr⟩ : ∃ p, regionD n x = p := ⟨_, rfl⟩
  rw [hr] at c hm hll ⊢
  simp only at c hm hll ⊢
  refine holds_of Tryz.func138 rfl rfl ?_
  refine J_run 200 ?_
  delta Tryz.f138
  simp only [encNet, encDoc] at c ⊢
  iterate 12 (all_goals (try (first
    | (simp (maxSteps := 1000000) (disch := omega) only [go_sem])
    | ((with_reducible refine CallA.pure c ?_ ?_); (· simp (disch := omega) only [go_sem]); rintro _ _ ⟨rfl, rfl⟩)
    | ((with_reducible first | refine gDt ?_ ?_ | refine gDf ?_ ?_ | refine gNt ?_ ?_ | refine gNf ?_ ?_ | refine cD ?_ ?_ | refine cN ?_ ?_ | refine cB ?_ ?_ | refine gB ?_ ?_) <;> intro h)
    | with_reducible first | refine And.intro ?_ ?_ | refine J_seq ?_ | refine J_block ?_ | refine J_inBlock ?_ | refine rC ?_ | refine rR ?_ | refine rE ?_ | refine rG ?_ | refine FinQ.now ?_ | refine FinQ.end ?_)))
  refine J_for ([10] ++ upto 20 27) (fun i : Nat => [(19, .raw (.int .i64 i)), (8, .raw (.int .u64 (bitsOf (l.take i) : Nat)))]) (fun i => [.box (encNet n), .box (encDoc x)]) (fun i => i ≤ l.length) (fun i => l.length - i) 0 (by omega) (.le (by simp [go_sem, encNet, encDoc, bitsOf]) (by simp)) ?_
  intro i hi
  simp only [encNet, encDoc]
  by_cases hlt : i < l.length
  · have hg := getD_N hlt
    have hb := hm _ (List.getElem_mem hlt)
    obtain ⟨v, hv⟩ := Int.eq_ofNat_of_zero_le hb.1
    rw [hv] at hg hb
    have ht := bitsOf_take hlt
    have hbt : bitsOf (l.take i) < 2 ^ 64 := Nat.lt_trans (bitsOf_lt fun x hx => (hm x (List.mem_of_mem_take hx)).2) (by decide)
    have hp : (2 : Nat) ^ v < 2 ^ 64 := Nat.pow_lt_pow_right (by omega) (by omega)
    have hsh := u64_shl (i := v) (by omega)
    have hor := u64_or hbt hp
    refine J_run 200 ?_
    iterate 14 (all_goals (try (first
      | (simp (maxSteps := 1000000) (disch := omega) only [go_sem, hg, hsh, hor, Int.toNat_natCast])
      | ((with_reducible first | refine gDt ?_ ?_ | refine gDf ?_ ?_ | refine gNt ?_ ?_ | refine gNf ?_ ?_ | refine cD ?_ ?_ | refine cN ?_ ?_ | refine cB ?_ ?_ | refine gB ?_ ?_) <;> intro h)
      | with_reducible first | refine And.intro ?_ ?_ | refine J_seq ?_ | refine J_block ?_ | refine J_inBlock ?_ | refine rC ?_ | refine rR ?_ | refine rE ?_ | refine rG ?_ | refine FinQ.now ?_ | refine FinQ.end ?_)))
    erw [hor]
    refine .mk (i + 1) hlt (by omega) ?_ ?_
    · rw [ht, hv]; simp [go_sem, encNet, encDoc]
    · simp
  · have hie : i = l.length := by omega
    subst hie
    rw [List.take_length]
    refine J_run 200 ?_
    iterate 12 (all_goals (try (first
      | (simp (maxSteps := 1000000) (disch := omega) only [go_sem])
      | ((with_reducible first | refine gDt ?_ ?_ | refine gDf ?_ ?_ | refine gNt ?_ ?_ | refine gNf ?_ ?_ | refine cD ?_ ?_ | refine cN ?_ ?_ | refine cB ?_ ?_ | refine gB ?_ ?_) <;> intro h)
      | with_reducible first | refine And.intro ?_ ?_ | refine J_seq ?_ | refine J_block ?_ | refine J_inBlock ?_ | refine rC ?_ | refine rR ?_ | refine rE ?_ | refine rG ?_ | refine FinQ.now ?_ | refine FinQ.end ?_)))
end Go.Proofs.YtmfgaefefgnhbaaGreatDoor.Abs
