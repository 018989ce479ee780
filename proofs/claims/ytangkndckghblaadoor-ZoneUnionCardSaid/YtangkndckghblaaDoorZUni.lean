/- ZoneUnion, walked: it returns true. -/
import Derived.Test.YtangkndckghblaaDoorR4
import Derived.Test.YtangkndckghblaaDoorR3
import Derived.Test.YtangkndckghblaaDoorZMore
import Derived.Test.YtangkndckghblaaDoorPlansC
import Derived.Test.YtangkndckghblaaDoorAbsS
namespace Go.Proofs.YtangkndckghblaaDoor.Abs
set_option linter.unusedSimpArgs false
set_option linter.unusedVariables false
set_option maxRecDepth 100000
open Go Go.RowKit

def isBoth (y z : List Int) (i : Nat) : Bool := decide ((i : Int) ∈ y) || decide ((i : Int) ∈ z)
def bothTo (y z : List Int) (i : Nat) : List Int := ((List.range i).filter (isBoth y z)).map Int.ofNat
theorem bothTo_next {y z : List Int} {i : Nat} : bothTo y z (i + 1) = bothTo y z i ++ (if isBoth y z i then [(i : Int)] else []) := by
  unfold bothTo
  rw [List.range_succ, List.filter_append, List.map_append]
  congr 1
  simp only [List.filter_cons, List.filter_nil]
  cases isBoth y z i <;> rfl
theorem bothTo_len {y z : List Int} {i : Nat} : (bothTo y z i).length ≤ i := by
  unfold bothTo
  rw [List.length_map]
  exact Nat.le_trans (List.length_filter_le _ _) (by simp)
theorem mem_both {y z : List Int} {u : Nat} (hy : rising y u = true) (hz : rising z u = true) {v : Int} : v ∈ bothTo y z u ↔ v ∈ y ∨ v ∈ z := by
  simp only [bothTo, List.mem_map, List.mem_filter, List.mem_range, isBoth, Bool.or_eq_true, decide_eq_true_eq]
  constructor
  · rintro ⟨i, ⟨_, h⟩, rfl⟩; exact h
  · intro h
    have hv : 0 ≤ v ∧ v < u := h.elim (fun h => rising_mem hy h) fun h => rising_mem hz h
    obtain ⟨i, rfl⟩ := Int.eq_ofNat_of_zero_le hv.1
    exact ⟨i, ⟨by omega, h⟩, rfl⟩
set_option maxHeartbeats 8000000 in
theorem zoneUnion (l : List Int) (hl : NumsOk l) : Fn1 Tryd.prog GT0 6 [.lst 1 (l.map encN)] (.raw (.bool true)) [] := by
  have ca := awake15
  have cf := few l hl.len
  by_cases h400 : l.length ≤ 400
  · have cn := newDeck l
    rw [decide_eq_true h400] at cf
    have cw := networkD _ hl.deck 7 12 (by omega) (by omega)
    refine holds_of Tryd.func6 rfl rfl ?_
    refine J_run 200 ?_
    delta Tryd.f6
    iterate 6 (all_goals (try (first
      | (simp (maxSteps := 1000000) (disch := omega) only [go_sem])
      | ((with_reducible refine CallA.pure cf ?_ ?_); (· simp (disch := omega) only [go_sem]); rintro _ _ ⟨rfl, rfl⟩)
      | ((with_reducible refine CallA.pure cn ?_ ?_); (· simp (disch := omega) only [go_sem]); rintro _ _ ⟨rfl, rfl⟩)
      | ((with_reducible first | refine gDt ?_ ?_ | refine gDf ?_ ?_ | refine gNt ?_ ?_ | refine gNf ?_ ?_ | refine cD ?_ ?_ | refine cN ?_ ?_ | refine cB ?_ ?_ | refine gB ?_ ?_) <;> intro h)
      | with_reducible first | refine And.intro ?_ ?_ | refine J_seq ?_ | refine J_block ?_ | refine J_inBlock ?_ | refine rC ?_ | refine rR ?_ | refine rE ?_ | refine rG ?_ | refine FinQ.now ?_ | refine FinQ.end ?_)))
    refine CallA.mut [0] ?_ ?_ ?_ ?_ cw ?_
    · simp only [go_sem]
    · simp only [go_sem]
    · simp only [go_sem]
    · simp only [go_sem]
    rintro _ _ ⟨n, k, d1, hd1, hM, hk2, hk7, hdl, hd1', rfl, rfl⟩
    have hnl := hM.nl
    have hno := hM.ok (by omega) (by omega)
    have cs := fun (d : Dk) (hd : d.ok) => stateD d hd n (by omega)
    have cl := fun (d : Dk) (hd : d.ok) (st : List Int) (h : st.length = n.devs.length) => locksD d hd n hno st (by omega) 6 (by omega)
    have cz := fun (d : Dk) (hd : d.ok) => zoneD d hd n (by omega) (by omega)
    simp only [encNet] at cs cl cz ⊢
    iterate 3 (all_goals (try (first
      | (simp (maxSteps := 1000000) (disch := omega) only [go_sem])
      | ((with_reducible first | refine gDt ?_ ?_ | refine gDf ?_ ?_ | refine gNt ?_ ?_ | refine gNf ?_ ?_ | refine cD ?_ ?_ | refine cN ?_ ?_ | refine cB ?_ ?_ | refine gB ?_ ?_) <;> intro h)
      | with_reducible first | refine And.intro ?_ ?_ | refine J_seq ?_ | refine J_block ?_ | refine J_inBlock ?_ | refine rC ?_ | refine rR ?_ | refine rE ?_ | refine rG ?_ | refine FinQ.now ?_ | refine FinQ.end ?_)))
    refine J_mergeN 1 (upto 33 38) (fun x : List Lk × Dk => [(5, .lst 3 (x.1.map encLk))]) (fun x => [.box (encDk x.2), .box (encNet n)]) (fun x => Locks n x.1 ∧ x.2.ok) ?_ ?_
    · simp only [go_sem]
      iterate 12 (all_goals (try (first
        | ((with_reducible refine J_draw (id := 5) 200 [4,5] plan6_5_4_5 (by kernel_rfl) (by kernel_rfl) ?_); delta plan6_5_4_5)
        | (simp (maxSteps := 1000000) (disch := omega) only [go_sem, take_lm])
        | ((with_reducible refine CallA.mut [0] ?_ ?_ ?_ ?_ (cs _ hd1) ?_); (· simp (disch := omega) only [go_sem, take_lm]); (· simp (disch := omega) only [go_sem, take_lm]); (· simp (disch := omega) only [go_sem, take_lm]); (· simp (disch := omega) only [go_sem, take_lm]); rintro _ _ ⟨st, d2, hd2, hst, _, rfl, rfl⟩)
        | ((with_reducible refine CallA.mutGive [0] [2] ?_ ?_ ?_ ?_ (cl _ hd2 st hst) ?_); (· simp (disch := omega) only [go_sem, take_lm]); (· simp (disch := omega) only [go_sem, take_lm]); (· simp (disch := omega) only [go_sem, take_lm]); (· simp (disch := omega) only [go_sem, take_lm]); rintro _ _ ⟨lk, d3, hd3, hL, rfl, rfl⟩)
        | ((with_reducible first | refine gDt ?_ ?_ | refine gDf ?_ ?_ | refine gNt ?_ ?_ | refine gNf ?_ ?_ | refine cD ?_ ?_ | refine cN ?_ ?_ | refine cB ?_ ?_ | refine gB ?_ ?_ | refine stepGuard_dect ?_ ?_ | refine stepGuard_decf ?_ ?_ | refine stepGuard_ndect ?_ ?_ | refine stepGuard_ndecf ?_ ?_ | refine stepGuard_by ?_ ?_) <;> intro h)
        | with_reducible first | refine And.intro ?_ ?_ | refine J_seq ?_ | refine J_block ?_ | refine J_inBlock ?_ | refine rC ?_ | refine rR ?_ | refine rE ?_ | refine rG ?_ | refine FinQ.now ?_ | refine FinQ.end ?_)))
      all_goals
        refine .mk (lk, d3) ⟨hL, hd3⟩ ?_ ?_
        · simp [go_sem, encNet]
        · simp
    rintro ⟨lk, d3⟩ ⟨hL, hd3⟩
    simp only [go_sem, encNet] at hL hd3 ⊢
    refine J_seq ?_
    refine J_mergeN 1 (upto 39 44) (fun x : List Int × List Int × Dk => [(6, .lst 1 (x.1.map encN)), (7, .lst 1 (x.2.1.map encN))]) (fun x => [.box (encDk x.2.2), .box (encNet n)]) (fun x => (x.1 ≠ [] ∧ rising x.1 n.nodes.length = true) ∧ (x.2.1 ≠ [] ∧ rising x.2.1 n.nodes.length = true) ∧ x.2.2.ok) ?_ ?_
    · simp only [go_sem, encNet]
      iterate 16 (all_goals (try (first
        | ((with_reducible refine J_draw (id := 6) 200 [2,5] plan6_6_2_5 (by kernel_rfl) (by kernel_rfl) ?_); delta plan6_6_2_5)
        | (simp (maxSteps := 1000000) (disch := omega) only [go_sem])
        | ((with_reducible refine CallA.mut [0] ?_ ?_ ?_ ?_ (cz _ (by assumption)) ?_); (· simp (disch := omega) only [go_sem]); (· simp (disch := omega) only [go_sem]); (· simp (disch := omega) only [go_sem]); (· simp (disch := omega) only [go_sem]); rintro _ _ ⟨w, dw, hdw, hw0, hw, rfl, rfl⟩)
        | ((with_reducible first | refine gDt ?_ ?_ | refine gDf ?_ ?_ | refine gNt ?_ ?_ | refine gNf ?_ ?_ | refine cD ?_ ?_ | refine cN ?_ ?_ | refine cB ?_ ?_ | refine gB ?_ ?_ | refine stepGuard_dect ?_ ?_ | refine stepGuard_decf ?_ ?_ | refine stepGuard_ndect ?_ ?_ | refine stepGuard_ndecf ?_ ?_ | refine stepGuard_by ?_ ?_) <;> intro h)
        | with_reducible first | refine And.intro ?_ ?_ | refine J_seq ?_ | refine J_block ?_ | refine J_inBlock ?_ | refine rC ?_ | refine rR ?_ | refine rE ?_ | refine rG ?_ | refine FinQ.now ?_ | refine FinQ.end ?_)))
      all_goals
        rename_i w1 dw1 hdw1 hw01 hw1
        first
          | (refine MergeEnd.mk (w1, w, dw) ⟨⟨hw01, hw1⟩, ⟨hw0, hw⟩, hdw⟩ ?_ ?_; (· simp [go_sem, encNet]; done); (· simp))
          | (refine MergeEnd.mk (w, w1, dw) ⟨⟨hw0, hw⟩, ⟨hw01, hw1⟩, hdw⟩ ?_ ?_; (· simp [go_sem, encNet]; done); (· simp))
    rintro ⟨y, z, d4⟩ ⟨⟨hy0, hy⟩, ⟨hz0, hz⟩, hd4⟩
    simp only [go_sem, encNet] at hy0 hy hz0 hz hd4 ⊢
    have hyl := rising_len (by omega) hy
    have hzl := rising_len (by omega) hz
    refine J_run 200 ?_
    iterate 6 (all_goals (try (first
      | (simp (maxSteps := 1000000) (disch := omega) only [go_sem])
      | ((with_reducible first | refine gDt ?_ ?_ | refine gDf ?_ ?_ | refine gNt ?_ ?_ | refine gNf ?_ ?_ | refine cD ?_ ?_ | refine cN ?_ ?_ | refine cB ?_ ?_ | refine gB ?_ ?_) <;> intro h)
      | with_reducible first | refine And.intro ?_ ?_ | refine J_seq ?_ | refine J_block ?_ | refine J_inBlock ?_ | refine rC ?_ | refine rR ?_ | refine rE ?_ | refine rG ?_ | refine FinQ.now ?_ | refine FinQ.end ?_)))
    refine J_nilName 8 1 (by simp only [go_sem]) ?_
    simp only [go_sem]
    refine J_for ([9] ++ upto 49 62) (fun i : Nat => [(48, .raw (.int .i64 i)), (8, .own 2 1 0 (bothTo y z i).length)]) (fun i => [.box (encDk d4), .box (encNet n), .arr 1 ((bothTo y z i).map encN)]) (fun i => i ≤ n.nodes.length) (fun i => n.nodes.length - i) 0 (by omega) (.le (by simp [go_sem, encNet, bothTo]) (by simp)) ?_
    intro i hi
    simp only [encNet]
    have hbl := bothTo_len (y := y) (z := z) (i := i)
    by_cases hlt : i < n.nodes.length
    · have ht := bothTo_next (y := y) (z := z) (i := i)
      have cy := has y i (by omega)
      have cz2 := has z i (by omega)
      obtain ⟨b1, hb1⟩ : ∃ b, decide ((i : Int) ∈ y) = b := ⟨_, rfl⟩
      obtain ⟨b2, hb2⟩ : ∃ b, decide ((i : Int) ∈ z) = b := ⟨_, rfl⟩
      have hib : isBoth y z i = (b1 || b2) := by unfold isBoth; rw [hb1, hb2]
      rw [hb1] at cy
      rw [hb2] at cz2
      rw [hib] at ht
      cases b1 <;> cases b2
      all_goals
        refine J_run 200 ?_
        iterate 16 (all_goals (try (first
          | (simp (maxSteps := 1000000) (disch := omega) only [go_sem])
          | ((with_reducible refine CallA.pure cy ?_ ?_); (· simp (disch := omega) only [go_sem]); rintro _ _ ⟨rfl, rfl⟩)
          | ((with_reducible refine CallA.pure cz2 ?_ ?_); (· simp (disch := omega) only [go_sem]); rintro _ _ ⟨rfl, rfl⟩)
          | ((with_reducible first | refine gDt ?_ ?_ | refine gDf ?_ ?_ | refine gNt ?_ ?_ | refine gNf ?_ ?_ | refine cD ?_ ?_ | refine cN ?_ ?_ | refine cB ?_ ?_ | refine gB ?_ ?_) <;> intro h)
          | with_reducible first | refine And.intro ?_ ?_ | refine J_seq ?_ | refine J_block ?_ | refine J_inBlock ?_ | refine rC ?_ | refine rR ?_ | refine rE ?_ | refine rG ?_ | refine FinQ.now ?_ | refine FinQ.end ?_)))
        refine .mk (i + 1) hlt (by omega) ?_ ?_
        · rw [ht]; simp [go_sem, encNet, encN]
        · simp
    have hie : i = n.nodes.length := by omega
    subst hie
    obtain ⟨bo, hbo⟩ : ∃ b, bothTo y z n.nodes.length = b := ⟨_, rfl⟩
    have hmem : ∀ v, v ∈ bo ↔ v ∈ y ∨ v ∈ z := fun v => by rw [← hbo]; exact mem_both hy hz
    have hbu : rising bo n.nodes.length = true := by rw [← hbo]; exact rising_map
    have hb0 : bo ≠ [] := by
      obtain ⟨x, hx⟩ := List.exists_mem_of_ne_nil y hy0
      exact List.ne_nil_of_mem ((hmem x).2 (.inl hx))
    rw [hbo] at hbl ⊢
    have hLk := locks_iff.2 hL
    have hlk := hL.len
    have zy : zoneChk n y = 0 := zoneChk_ok hno hy0 hy
    have zz : zoneChk n z = 0 := zoneChk_ok hno hz0 hz
    have zb : zoneChk n bo = 0 := zoneChk_ok hno hb0 hbu
    have iso : ∀ w, zoneChk n w = 0 → isolatedR n lk w = (enoughB n w (gapsOf n lk), 0) := fun w hw => by
      have e : lockedE n lk w = 0 := by unfold lockedE; rw [if_neg (by simp [hLk]), hw]
      unfold isolatedR
      rw [if_neg (by simp [e])]
    have hgs := gapsOf_gaps n lk
    have hgl := gapsOf_len (n := n) (l := lk)
    have cI1 := isolatedF n hno.sized lk (by omega) y (by omega)
    have cI2 := isolatedF n hno.sized lk (by omega) z (by omega)
    have cI3 := isolatedF n hno.sized lk (by omega) bo (by omega)
    have cG := rGaps n hno.sized lk (by omega)
    have cR1 := RegionF n hno.sized y (gapsOf n lk) (by omega) (by omega)
    have cR2 := RegionF n hno.sized z (gapsOf n lk) (by omega) (by omega)
    have cR3 := RegionF n hno.sized bo (gapsOf n lk) (by omega) (by omega)
    have eG : gapsR n lk = (gapsOf n lk, 0) := by unfold gapsR; rw [if_neg (by simp [hLk])]
    rw [iso y zy] at cI1
    rw [iso z zz] at cI2
    rw [iso bo zb, union_enough hmem] at cI3
    rw [eG] at cG
    rw [regionR_ok zy hgs] at cR1
    rw [regionR_ok zz hgs] at cR2
    rw [regionR_ok zb hgs] at cR3
    have hu : ∀ v : Nat, decide ((v : Int) ∈ regL n bo (gapsOf n lk)) = (decide ((v : Int) ∈ regL n y (gapsOf n lk)) || decide ((v : Int) ∈ regL n z (gapsOf n lk))) := fun v => by
      rw [Bool.eq_iff_iff, Bool.or_eq_true, decide_eq_true_eq, decide_eq_true_eq, decide_eq_true_eq, regL_mem hno hbu, regL_mem hno hy, regL_mem hno hz, union_region hmem]
      constructor
      · rintro ⟨h1, h2⟩; exact h2.imp (fun h => ⟨h1, h⟩) fun h => ⟨h1, h⟩
      · rintro (h | h)
        · exact ⟨h.1, .inl h.2⟩
        · exact ⟨h.1, .inr h.2⟩
    have hl1 := reg_len (n := n) (z := y) (g := gapsOf n lk)
    have hl2 := reg_len (n := n) (z := z) (g := gapsOf n lk)
    have hl3 := reg_len (n := n) (z := bo) (g := gapsOf n lk)
    obtain ⟨a1, ha1⟩ : ∃ b, enoughB n y (gapsOf n lk) = b := ⟨_, rfl⟩
    obtain ⟨a2, ha2⟩ : ∃ b, enoughB n z (gapsOf n lk) = b := ⟨_, rfl⟩
    rw [ha1] at cI1 cI3
    rw [ha2] at cI2 cI3
    simp only [encNet] at cI1 cI2 cI3 cG cR1 cR2 cR3
    refine J_run 200 ?_
    iterate 30 (all_goals (try (first
      | (simp (maxSteps := 1000000) (disch := omega) only [go_sem, take_lm])
      | ((with_reducible refine CallA.pure cI1 ?_ ?_); (· simp (disch := omega) only [go_sem, take_lm]); rintro _ _ ⟨rfl, rfl⟩)
      | ((with_reducible refine CallA.pure cI2 ?_ ?_); (· simp (disch := omega) only [go_sem, take_lm]); rintro _ _ ⟨rfl, rfl⟩)
      | ((with_reducible refine CallA.give [2] ?_ ?_ cI3 ?_); (· simp (disch := omega) only [go_sem, take_lm]); (· simp (disch := omega) only [go_sem, take_lm]); rintro _ _ ⟨rfl, rfl⟩)
      | ((with_reducible refine CallA.pure cG ?_ ?_); (· simp (disch := omega) only [go_sem, take_lm]); rintro _ _ ⟨rfl, rfl⟩)
      | ((with_reducible refine CallA.pure cR1 ?_ ?_); (· simp (disch := omega) only [go_sem, take_lm]); rintro _ _ ⟨rfl, rfl⟩)
      | ((with_reducible refine CallA.pure cR2 ?_ ?_); (· simp (disch := omega) only [go_sem, take_lm]); rintro _ _ ⟨rfl, rfl⟩)
      | ((with_reducible refine CallA.pure cR3 ?_ ?_); (· simp (disch := omega) only [go_sem, take_lm]); rintro _ _ ⟨rfl, rfl⟩)
      | ((with_reducible first | refine gDt ?_ ?_ | refine gDf ?_ ?_ | refine gNt ?_ ?_ | refine gNf ?_ ?_ | refine cD ?_ ?_ | refine cN ?_ ?_ | refine cB ?_ ?_ | refine gB ?_ ?_) <;> intro h)
      | with_reducible first | refine And.intro ?_ ?_ | refine J_seq ?_ | refine J_block ?_ | refine J_inBlock ?_ | refine rC ?_ | refine rR ?_ | refine rE ?_ | refine rG ?_ | refine FinQ.now ?_ | refine FinQ.end ?_)))
    refine J_for ([24] ++ upto 116 130) (fun i : Nat => [(115, .raw (.int .i64 i))]) (fun _ => [.box (encDk d4), .box (encNet n)]) (fun i => i ≤ n.nodes.length) (fun i => n.nodes.length - i) 0 (by omega) (.le (by simp [go_sem, encNet]) (by simp)) ?_
    intro i hi
    simp only [encNet]
    by_cases hlt : i < n.nodes.length
    · have c1 := has (regL n y (gapsOf n lk)) i (by omega)
      have c2 := has (regL n z (gapsOf n lk)) i (by omega)
      have c3 := has (regL n bo (gapsOf n lk)) i (by omega)
      rw [hu i] at c3
      obtain ⟨b1, hb1⟩ : ∃ b, decide ((i : Int) ∈ regL n y (gapsOf n lk)) = b := ⟨_, rfl⟩
      obtain ⟨b2, hb2⟩ : ∃ b, decide ((i : Int) ∈ regL n z (gapsOf n lk)) = b := ⟨_, rfl⟩
      rw [hb1] at c1 c3
      rw [hb2] at c2 c3
      cases b1 <;> cases b2
      all_goals
        simp only [Bool.or_self, Bool.or_true, Bool.true_or, Bool.or_false, Bool.false_or] at c3
        refine J_run 200 ?_
        iterate 16 (all_goals (try (first
          | (simp (maxSteps := 1000000) (disch := omega) only [go_sem])
          | ((with_reducible refine CallA.pure c1 ?_ ?_); (· simp (disch := omega) only [go_sem]); rintro _ _ ⟨rfl, rfl⟩)
          | ((with_reducible refine CallA.pure c2 ?_ ?_); (· simp (disch := omega) only [go_sem]); rintro _ _ ⟨rfl, rfl⟩)
          | ((with_reducible refine CallA.pure c3 ?_ ?_); (· simp (disch := omega) only [go_sem]); rintro _ _ ⟨rfl, rfl⟩)
          | ((with_reducible first | refine gDt ?_ ?_ | refine gDf ?_ ?_ | refine gNt ?_ ?_ | refine gNf ?_ ?_ | refine cD ?_ ?_ | refine cN ?_ ?_ | refine cB ?_ ?_ | refine gB ?_ ?_) <;> intro h)
          | with_reducible first | refine And.intro ?_ ?_ | refine J_seq ?_ | refine J_block ?_ | refine J_inBlock ?_ | refine rC ?_ | refine rR ?_ | refine rE ?_ | refine rG ?_ | refine FinQ.now ?_ | refine FinQ.end ?_)))
        refine .mk (i + 1) hlt (by omega) ?_ ?_
        · simp [go_sem, encNet]
        · simp
    · cases a1 <;> cases a2
      all_goals
        simp only [Bool.and_self, Bool.and_true, Bool.true_and, Bool.and_false, Bool.false_and]
        refine J_run 200 ?_
        iterate 20 (all_goals (try (first
          | (simp (maxSteps := 1000000) (disch := omega) only [go_sem])
          | ((with_reducible refine CallA.pure ca ?_ ?_); (· simp (disch := omega) only [go_sem]); rintro _ _ ⟨rfl, rfl⟩)
          | ((with_reducible first | refine gDt ?_ ?_ | refine gDf ?_ ?_ | refine gNt ?_ ?_ | refine gNf ?_ ?_ | refine cD ?_ ?_ | refine cN ?_ ?_ | refine cB ?_ ?_ | refine gB ?_ ?_) <;> intro h)
          | with_reducible first | refine And.intro ?_ ?_ | refine J_seq ?_ | refine J_block ?_ | refine J_inBlock ?_ | refine rC ?_ | refine rR ?_ | refine rE ?_ | refine rG ?_ | refine FinQ.now ?_ | refine FinQ.end ?_)))
  · rw [decide_eq_false h400] at cf
    refine holds_of Tryd.func6 rfl rfl ?_
    refine J_run 200 ?_
    delta Tryd.f6
    repeat' (first
      | (simp (maxSteps := 1000000) (disch := omega) only [go_sem])
      | ((with_reducible refine CallA.pure ca ?_ ?_); (· simp (disch := omega) only [go_sem]); rintro _ _ ⟨rfl, rfl⟩)
      | ((with_reducible refine CallA.pure cf ?_ ?_); (· simp (disch := omega) only [go_sem]); rintro _ _ ⟨rfl, rfl⟩)
      | ((with_reducible first | refine gDt ?_ ?_ | refine gDf ?_ ?_ | refine gNt ?_ ?_ | refine gNf ?_ ?_ | refine cD ?_ ?_ | refine cN ?_ ?_ | refine cB ?_ ?_ | refine gB ?_ ?_) <;> intro h)
      | with_reducible first | refine And.intro ?_ ?_ | refine J_seq ?_ | refine J_block ?_ | refine J_inBlock ?_ | refine rC ?_ | refine rR ?_ | refine rE ?_ | refine rG ?_ | refine FinQ.now ?_ | refine FinQ.end ?_)
theorem zoneUnion_av (x : (Sh.slice (.int .i64)).Den) (o : (Sh.slice (.int .i64)).Ok x) : Fn1 Tryd.prog GT0 6 [(Sh.slice (.int .i64)).av x] (.raw (.bool true)) [] := zoneUnion x (nums_ok o)
end Go.Proofs.YtangkndckghblaaDoor.Abs
