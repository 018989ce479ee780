/- ZoneDead, walked: it returns true. -/
import Derived.Test.YtangkndckghblaaDoorR4
import Derived.Test.YtangkndckghblaaDoorR3
import Derived.Test.YtangkndckghblaaDoorRU
import Derived.Test.YtangkndckghblaaDoorRS
import Derived.Test.YtangkndckghblaaDoorZMore
import Derived.Test.YtangkndckghblaaDoorPlansC
import Derived.Test.YtangkndckghblaaDoorAbsS
namespace Go.Proofs.YtangkndckghblaaDoor.Abs
set_option linter.unusedSimpArgs false
set_option linter.unusedVariables false
set_option maxRecDepth 100000
open Go Go.RowKit

def highMid (g : List Int) (N k : Nat) : List Int := (List.range N).map fun i => if i < k then (if (i : Int) ∈ g then 1 else 2) else 0
theorem highMid_len {g : List Int} {N k : Nat} : (highMid g N k).length = N := by simp [highMid]
theorem highMid_zero {g : List Int} {N : Nat} : (highMid g N 0).map encN = List.replicate N [.raw (.int .i64 0)] := by
  simp only [highMid, List.map_map]
  apply List.ext_getElem (by simp)
  intro v h1 h2
  simp [encN]
theorem highMid_all {g : List Int} {N : Nat} : highMid g N N = highTo g N := by
  unfold highMid highTo
  refine List.map_congr_left fun i hi => ?_
  rw [if_pos (List.mem_range.1 hi)]
theorem highMid_next {g : List Int} {N k : Nat} (hk : k < N) : highMid g N (k + 1) = (highMid g N k).set k (if (k : Int) ∈ g then 1 else 2) := by
  apply List.ext_getElem (by simp [highMid])
  intro u h1 h2
  have hu : u < N := by simpa [highMid] using h1
  rw [List.getElem_set]
  simp only [highMid, List.getElem_map, List.getElem_range]
  by_cases e : k = u
  · subst e; simp
  · rw [if_neg e]
    by_cases h : u < k
    · rw [if_pos (by omega), if_pos h]
    · rw [if_neg (by omega), if_neg h]
set_option maxHeartbeats 8000000 in
theorem zoneDead (l : List Int) (hl : NumsOk l) : Fn1 Tryd.prog GT0 5 [.lst 1 (l.map encN)] (.raw (.bool true)) [] := by
  have ca := awake15
  have cf := few l hl.len
  by_cases h400 : l.length ≤ 400
  · have cn := newDeck l
    rw [decide_eq_true h400] at cf
    have cw := networkD _ hl.deck 7 12 (by omega) (by omega)
    refine holds_of Tryd.func5 rfl rfl ?_
    refine J_run 200 ?_
    delta Tryd.f5
    iterate 6 (all_goals (try (first
      | (simp (maxSteps := 1000000) (disch := omega) only [go_sem])
      | ((with_reducible refine CallA.pure cf ?_ ?_); (· simp (disch := omega) only [go_sem]); rintro _ _ ⟨rfl, rfl⟩)
      | ((with_reducible refine CallA.pure cn ?_ ?_); (· simp (disch := omega) only [go_sem]); rintro _ _ ⟨rfl, rfl⟩)
      | ((with_reducible first | refine gDt ?_ ?_ | refine gDf ?_ ?_ | refine gNt ?_ ?_ | refine gNf ?_ ?_ | refine cD ?_ ?_ | refine cN ?_ ?_ | refine cB ?_ ?_ | refine gB ?_ ?_) <;> intro h)
      | with_reducible first | refine And.intro ?_ ?_ | refine J_seq ?_ | refine J_block ?_ | refine J_inBlock ?_ | refine rC ?_ | refine rR ?_ | refine rE ?_ | refine rG ?_ | refine FinQ.now ?_ | refine FinQ.end ?_)))
    refine CallA.mut [0] ?_ ?_ ?_ ?_ cw ?_
    · simp only [go_sem]
    · simp only [go_sem]
    · simp only [go_sem]
    · simp only [go_sem]
    rintro _ _ ⟨n, k, d1, hd1, hM, hk2, hk7, hdl, hd1', rfl, rfl⟩
    have hnl := hM.nl
    have hno := hM.ok (by omega) (by omega)
    have cs := fun (d : Dk) (hd : d.ok) => stateD d hd n (by omega)
    have cl := fun (d : Dk) (hd : d.ok) (st : List Int) (h : st.length = n.devs.length) => locksD d hd n hno st (by omega) 7 (by omega)
    have cz := fun (d : Dk) (hd : d.ok) => zoneD d hd n (by omega) (by omega)
    simp only [encNet] at cs cl cz ⊢
    iterate 3 (all_goals (try (first
      | (simp (maxSteps := 1000000) (disch := omega) only [go_sem])
      | ((with_reducible first | refine gDt ?_ ?_ | refine gDf ?_ ?_ | refine gNt ?_ ?_ | refine gNf ?_ ?_ | refine cD ?_ ?_ | refine cN ?_ ?_ | refine cB ?_ ?_ | refine gB ?_ ?_) <;> intro h)
      | with_reducible first | refine And.intro ?_ ?_ | refine J_seq ?_ | refine J_block ?_ | refine J_inBlock ?_ | refine rC ?_ | refine rR ?_ | refine rE ?_ | refine rG ?_ | refine FinQ.now ?_ | refine FinQ.end ?_)))
    refine J_mergeN 1 (upto 34 39) (fun x : List Lk × Dk => [(5, .lst 3 (x.1.map encLk))]) (fun x => [.box (encDk x.2), .box (encNet n)]) (fun x => Locks n x.1 ∧ x.2.ok) ?_ ?_
    · simp only [go_sem]
      iterate 12 (all_goals (try (first
        | ((with_reducible refine J_draw (id := 5) 200 [4,5] plan5_5_4_5 (by kernel_rfl) (by kernel_rfl) ?_); delta plan5_5_4_5)
        | (simp (maxSteps := 1000000) (disch := omega) only [go_sem, take_lm])
        | ((with_reducible refine CallA.mut [0] ?_ ?_ ?_ ?_ (cs _ hd1) ?_); (· simp (disch := omega) only [go_sem, take_lm]); (· simp (disch := omega) only [go_sem, take_lm]); (· simp (disch := omega) only [go_sem, take_lm]); (· simp (disch := omega) only [go_sem, take_lm]); rintro _ _ ⟨st, d2, hd2, hst, _, rfl, rfl⟩)
        | ((with_reducible refine CallA.mutGive [0] [2] ?_ ?_ ?_ ?_ (cl _ hd2 st hst) ?_); (· simp (disch := omega) only [go_sem, take_lm]); (· simp (disch := omega) only [go_sem, take_lm]); (· simp (disch := omega) only [go_sem, take_lm]); (· simp (disch := omega) only [go_sem, take_lm]); rintro _ _ ⟨lk, d3, hd3, hL, rfl, rfl⟩)
        | ((with_reducible first | refine gDt ?_ ?_ | refine gDf ?_ ?_ | refine gNt ?_ ?_ | refine gNf ?_ ?_ | refine cD ?_ ?_ | refine cN ?_ ?_ | refine cB ?_ ?_ | refine gB ?_ ?_ | refine stepGuard_dect ?_ ?_ | refine stepGuard_decf ?_ ?_ | refine stepGuard_ndect ?_ ?_ | refine stepGuard_ndecf ?_ ?_ | refine stepGuard_by ?_ ?_) <;> intro h)
        | with_reducible first | refine And.intro ?_ ?_ | refine J_seq ?_ | refine J_block ?_ | refine J_inBlock ?_ | refine rC ?_ | refine rR ?_ | refine rE ?_ | refine rG ?_ | refine FinQ.now ?_ | refine FinQ.end ?_)))
      all_goals
        refine .mk (lk, d3) ⟨hL, hd3⟩ ?_ ?_
        · simp [go_sem, encNet]
        · simp
    rintro ⟨lk, d3⟩ ⟨hL, hd3⟩
    simp only [go_sem, encNet] at hL hd3 ⊢
    refine J_run 200 ?_
    iterate 4 (all_goals (try (first
      | (simp (maxSteps := 1000000) (disch := omega) only [go_sem])
      | ((with_reducible refine CallA.mut [0] ?_ ?_ ?_ ?_ (cz _ hd3) ?_); (· simp (disch := omega) only [go_sem]); (· simp (disch := omega) only [go_sem]); (· simp (disch := omega) only [go_sem]); (· simp (disch := omega) only [go_sem]); rintro _ _ ⟨z, d4, hd4, hz0, hz, rfl, rfl⟩)
      | ((with_reducible first | refine gDt ?_ ?_ | refine gDf ?_ ?_ | refine gNt ?_ ?_ | refine gNf ?_ ?_ | refine cD ?_ ?_ | refine cN ?_ ?_ | refine cB ?_ ?_ | refine gB ?_ ?_) <;> intro h)
      | with_reducible first | refine And.intro ?_ ?_ | refine J_seq ?_ | refine J_block ?_ | refine J_inBlock ?_ | refine rC ?_ | refine rR ?_ | refine rE ?_ | refine rG ?_ | refine FinQ.now ?_ | refine FinQ.end ?_)))
    have hzl := rising_len (by omega) hz
    have hLk := locks_iff.2 hL
    have hlk := hL.len
    have zz : zoneChk n z = 0 := zoneChk_ok hno hz0 hz
    have iso : isolatedR n lk z = (enoughB n z (gapsOf n lk), 0) := by
      have e : lockedE n lk z = 0 := by unfold lockedE; rw [if_neg (by simp [hLk]), zz]
      unfold isolatedR
      rw [if_neg (by simp [e])]
    have hgs := gapsOf_gaps n lk
    have cI := isolatedF n hno.sized lk (by omega) z (by omega)
    rw [iso] at cI
    obtain ⟨iz, hiz⟩ : ∃ b, enoughB n z (gapsOf n lk) = b := ⟨_, rfl⟩
    rw [hiz] at cI
    obtain ⟨g, hg⟩ : ∃ g, gapsOf n lk = g := ⟨_, rfl⟩
    have hany := anyLive_high hno hgs hz
    rw [hiz] at hany
    have cC := coloursF n hno (highTo g n.devs.length) (posChk_ok hno highTo_len (fun x hx => by
      simp only [highTo, List.mem_map] at hx
      obtain ⟨j, _, rfl⟩ := hx
      split <;> omega)) highTo_len
    have hmg : ∀ i : Nat, (i : Int) ∈ g ↔ i < n.devs.length ∧ lockedAt lk i = some 1 ∧ gapK (n.devs.getD i ⟨⟨#[]⟩, 0, 0, 0, 0⟩).kind = true := fun i => by rw [← hg]; exact mem_gapsOf
    rw [hg] at hany
    simp only [encNet] at cI cC
    iterate 20 (all_goals (try (first
      | (simp (maxSteps := 1000000) (disch := omega) only [go_sem])
      | ((with_reducible refine CallA.pure cI ?_ ?_); (· simp (disch := omega) only [go_sem]); rintro _ _ ⟨rfl, rfl⟩)
      | ((with_reducible first | refine gDt ?_ ?_ | refine gDf ?_ ?_ | refine gNt ?_ ?_ | refine gNf ?_ ?_ | refine cD ?_ ?_ | refine cN ?_ ?_ | refine cB ?_ ?_ | refine gB ?_ ?_) <;> intro h)
      | with_reducible first | refine And.intro ?_ ?_ | refine J_seq ?_ | refine J_block ?_ | refine J_inBlock ?_ | refine rC ?_ | refine rR ?_ | refine rE ?_ | refine rG ?_ | refine FinQ.now ?_ | refine FinQ.end ?_)))
    refine J_for ([10, 11, 12] ++ upto 57 85) (fun i : Nat => [(56, .raw (.int .i64 i))]) (fun i => [.box (encDk d4), .box (encNet n), .arr 1 ((highMid g n.devs.length i).map encN)]) (fun i => i ≤ n.devs.length) (fun i => n.devs.length - i) 0 (by omega) (.le (by simp [go_sem, encNet, highMid_zero]) (by simp)) ?_
    intro i hi
    simp only [encNet]
    have hml := highMid_len (g := g) (N := n.devs.length) (k := i)
    by_cases hlt : i < n.devs.length
    · have hdv := getD_Dv hlt
      have hgd : n.devs.getD i ⟨⟨#[]⟩, 0, 0, 0, 0⟩ = n.devs[i] := getD_get hlt
      have hnx := highMid_next (g := g) hlt
      have hse : ∀ (x : Int) (l : List Int), (l.map encN).set i [.raw (.int .i64 x)] = (l.set i x).map encN := fun x l => by rw [List.map_set]; rfl
      have hse2 : ∀ (x : Int), ((highMid g n.devs.length i).map encN).set i (.raw (.int .i64 x) :: List.drop 1 (((highMid g n.devs.length i).map encN).getD i [])) = ((highMid g n.devs.length i).set i x).map encN := fun x => set_encN (by omega)
      have hmi := hmg i
      rw [hgd] at hmi
      have ck := rLocked lk (by omega) i
      have cg := refGap n.devs[i].kind
      obtain ⟨o, ho⟩ : ∃ o, lockedAt lk (i : Int) = o := ⟨_, rfl⟩
      rw [ho] at ck hmi
      cases o with
      | none =>
        simp only [Option.getD_none, Option.isSome_none] at ck
        rw [if_neg (by rw [hmi]; simp_all)] at hnx
        refine J_run 200 ?_
        iterate 20 (all_goals (try (first
          | (simp (maxSteps := 1000000) (disch := omega) only [go_sem, hdv])
          | ((with_reducible refine CallA.pure ck ?_ ?_); (· simp (disch := omega) only [go_sem, hdv]); rintro _ _ ⟨rfl, rfl⟩)
          | ((with_reducible refine CallA.pure cg ?_ ?_); (· simp (disch := omega) only [go_sem, hdv]); rintro _ _ ⟨rfl, rfl⟩)
          | ((with_reducible first | refine gDt ?_ ?_ | refine gDf ?_ ?_ | refine gNt ?_ ?_ | refine gNf ?_ ?_ | refine cD ?_ ?_ | refine cN ?_ ?_ | refine cB ?_ ?_ | refine gB ?_ ?_) <;> intro h)
          | with_reducible first | refine And.intro ?_ ?_ | refine J_seq ?_ | refine J_block ?_ | refine J_inBlock ?_ | refine rC ?_ | refine rR ?_ | refine rE ?_ | refine rG ?_ | refine FinQ.now ?_ | refine FinQ.end ?_)))
        refine .mk (i + 1) hlt (by omega) ?_ ?_
        · rw [hnx, ← hse2]; simp [go_sem, encNet]
        · simp
      | some p =>
        simp only [Option.getD_some, Option.isSome_some] at ck
        by_cases hp : p = 1
        · subst hp
          obtain ⟨b, hb⟩ : ∃ b, gapK n.devs[i].kind = b := ⟨_, rfl⟩
          rw [hb] at cg hmi
          cases b with
          | false =>
            rw [if_neg (by rw [hmi]; simp_all)] at hnx
            refine J_run 200 ?_
            iterate 20 (all_goals (try (first
              | (simp (maxSteps := 1000000) (disch := omega) only [go_sem, hdv])
              | ((with_reducible refine CallA.pure ck ?_ ?_); (· simp (disch := omega) only [go_sem, hdv]); rintro _ _ ⟨rfl, rfl⟩)
              | ((with_reducible refine CallA.pure cg ?_ ?_); (· simp (disch := omega) only [go_sem, hdv]); rintro _ _ ⟨rfl, rfl⟩)
              | ((with_reducible first | refine gDt ?_ ?_ | refine gDf ?_ ?_ | refine gNt ?_ ?_ | refine gNf ?_ ?_ | refine cD ?_ ?_ | refine cN ?_ ?_ | refine cB ?_ ?_ | refine gB ?_ ?_) <;> intro h)
              | with_reducible first | refine And.intro ?_ ?_ | refine J_seq ?_ | refine J_block ?_ | refine J_inBlock ?_ | refine rC ?_ | refine rR ?_ | refine rE ?_ | refine rG ?_ | refine FinQ.now ?_ | refine FinQ.end ?_)))
            refine .mk (i + 1) hlt (by omega) ?_ ?_
            · rw [hnx, ← hse2]; simp [go_sem, encNet]
            · simp
          | true =>
            rw [if_pos (by rw [hmi]; simp_all)] at hnx
            refine J_run 200 ?_
            iterate 20 (all_goals (try (first
              | (simp (maxSteps := 1000000) (disch := omega) only [go_sem, hdv])
              | ((with_reducible refine CallA.pure ck ?_ ?_); (· simp (disch := omega) only [go_sem, hdv]); rintro _ _ ⟨rfl, rfl⟩)
              | ((with_reducible refine CallA.pure cg ?_ ?_); (· simp (disch := omega) only [go_sem, hdv]); rintro _ _ ⟨rfl, rfl⟩)
              | ((with_reducible first | refine gDt ?_ ?_ | refine gDf ?_ ?_ | refine gNt ?_ ?_ | refine gNf ?_ ?_ | refine cD ?_ ?_ | refine cN ?_ ?_ | refine cB ?_ ?_ | refine gB ?_ ?_) <;> intro h)
              | with_reducible first | refine And.intro ?_ ?_ | refine J_seq ?_ | refine J_block ?_ | refine J_inBlock ?_ | refine rC ?_ | refine rR ?_ | refine rE ?_ | refine rG ?_ | refine FinQ.now ?_ | refine FinQ.end ?_)))
            refine .mk (i + 1) hlt (by omega) ?_ ?_
            · have hse3 := set_encN (l := (highMid g n.devs.length i).set i 2) (k := i) (x := 1) (by simp; omega)
              have e3 : ((highMid g n.devs.length i).set i 2).set i 1 = (highMid g n.devs.length i).set i 1 := List.set_set ..
              rw [hnx, ← e3, ← hse3, ← hse2]; simp [go_sem, encNet]
            · simp
        · have ep : decide (p = 1) = false := decide_eq_false hp
          rw [if_neg (by rw [hmi]; simp_all)] at hnx
          refine J_run 200 ?_
          iterate 20 (all_goals (try (first
            | (simp (maxSteps := 1000000) (disch := omega) only [go_sem, hdv, ep])
            | ((with_reducible refine CallA.pure ck ?_ ?_); (· simp (disch := omega) only [go_sem, hdv, ep]); rintro _ _ ⟨rfl, rfl⟩)
            | ((with_reducible refine CallA.pure cg ?_ ?_); (· simp (disch := omega) only [go_sem, hdv, ep]); rintro _ _ ⟨rfl, rfl⟩)
            | ((with_reducible first | refine gDt ?_ ?_ | refine gDf ?_ ?_ | refine gNt ?_ ?_ | refine gNf ?_ ?_ | refine cD ?_ ?_ | refine cN ?_ ?_ | refine cB ?_ ?_ | refine gB ?_ ?_) <;> intro h)
            | with_reducible first | refine And.intro ?_ ?_ | refine J_seq ?_ | refine J_block ?_ | refine J_inBlock ?_ | refine rC ?_ | refine rR ?_ | refine rE ?_ | refine rG ?_ | refine FinQ.now ?_ | refine FinQ.end ?_)))
          refine .mk (i + 1) hlt (by omega) ?_ ?_
          · rw [hnx, ← hse2]; simp [go_sem, encNet]
          · simp
    have hie : i = n.devs.length := by omega
    subst hie
    rw [highMid_all]
    have hcl := cols_len (n := n) (st := highTo g n.devs.length)
    have htk : List.take n.devs.length ((highTo g n.devs.length).map encN) = (highTo g n.devs.length).map encN := List.take_of_length_le (by simp [highTo_len])
    refine J_run 200 ?_
    iterate 20 (all_goals (try (first
      | (simp (maxSteps := 1000000) (disch := omega) only [go_sem, htk])
      | ((with_reducible refine CallA.give [2] ?_ ?_ cC ?_); (· simp (disch := omega) only [go_sem, htk]); (· simp (disch := omega) only [go_sem, htk]); rintro _ _ ⟨rfl, rfl⟩)
      | ((with_reducible first | refine gDt ?_ ?_ | refine gDf ?_ ?_ | refine gNt ?_ ?_ | refine gNf ?_ ?_ | refine cD ?_ ?_ | refine cN ?_ ?_ | refine cB ?_ ?_ | refine gB ?_ ?_) <;> intro h)
      | with_reducible first | refine And.intro ?_ ?_ | refine J_seq ?_ | refine J_block ?_ | refine J_inBlock ?_ | refine rC ?_ | refine rR ?_ | refine rE ?_ | refine rG ?_ | refine FinQ.now ?_ | refine FinQ.end ?_)))
    refine J_for ([17] ++ upto 95 107) (fun i : Nat => [(94, .raw (.int .i64 i)), (15, .raw (.bool (anyLive n (highTo g n.devs.length) z i)))]) (fun _ => [.box (encDk d4), .box (encNet n)]) (fun i => i ≤ z.length) (fun i => z.length - i) 0 (by omega) (.le (by simp [go_sem, encNet, anyLive]) (by simp)) ?_
    intro i hi
    simp only [encNet]
    by_cases hlt : i < z.length
    · have hgz := getD_N hlt
      have hzm := rising_mem hz (List.getElem_mem hlt)
      have hgc := getD_N (l := cols n (highTo g n.devs.length)) (i := z[i].toNat) (by omega)
      have hcv : IntKind.i64.wrap ((BitVec.ofInt 64 ((cols n (highTo g n.devs.length))[z[i].toNat]'(by omega)) &&& BitVec.ofInt 64 1).toNat : Int) = if liveB n (highTo g n.devs.length) z[i].toNat then 1 else 0 := cols_live (by omega)
      have hnx := anyLive_next (n := n) (st := highTo g n.devs.length) hlt
      obtain ⟨a, ha⟩ : ∃ b, anyLive n (highTo g n.devs.length) z i = b := ⟨_, rfl⟩
      obtain ⟨b, hb⟩ : ∃ b, liveB n (highTo g n.devs.length) z[i].toNat = b := ⟨_, rfl⟩
      obtain ⟨w, hw⟩ : ∃ w, (cols n (highTo g n.devs.length))[z[i].toNat]'(by omega) = w := ⟨_, rfl⟩
      rw [ha, hb] at hnx
      rw [hb, hw] at hcv
      rw [hw] at hgc
      rw [ha]
      cases a <;> cases b
      all_goals
        simp only [if_true, if_false, Bool.false_eq_true] at hcv
        refine J_run 200 ?_
        iterate 20 (all_goals (try (first
          | (simp (maxSteps := 1000000) (disch := omega) only [go_sem, hgz, hgc])
          | ((with_reducible first | refine gDt ?_ ?_ | refine gDf ?_ ?_ | refine gNt ?_ ?_ | refine gNf ?_ ?_ | refine cD ?_ ?_ | refine cN ?_ ?_ | refine cB ?_ ?_ | refine gB ?_ ?_) <;> intro h)
          | with_reducible first | refine And.intro ?_ ?_ | refine J_seq ?_ | refine J_block ?_ | refine J_inBlock ?_ | refine rC ?_ | refine rR ?_ | refine rE ?_ | refine rG ?_ | refine FinQ.now ?_ | refine FinQ.end ?_)))
      all_goals
        refine .mk (i + 1) hlt (by omega) ?_ ?_
        · rw [hnx]; simp [go_sem, encNet]
          all_goals first | exact hcv | exact fun e => absurd (hcv.symm.trans e) (by decide)
        · simp
    have hie : i = z.length := by omega
    subst hie
    rw [hany]
    have cW := rWorst n hno.sized lk (by omega)
    have eW : worstR n lk = (worstTo n lk n.devs.length, 0) := by unfold worstR; rw [if_neg (by simp [hLk])]
    rw [eW] at cW
    have hwl := worstTo_len (n := n) (l := lk) (i := n.devs.length)
    have hwok := worst_ok hL
    have hdead := fun (s : List Int) (h1 : s.length = n.devs.length) (h2 : WithinTo (worstTo n lk n.devs.length) s) (h3 : enoughB n z (gapsOf n lk) = true) (v : Int) (hv : v ∈ z) => within_dead hno hz h1 h2 h3 hv
    rw [hiz] at hdead
    obtain ⟨m, hm⟩ : ∃ m, worstTo n lk n.devs.length = m := ⟨_, rfl⟩
    rw [hm] at cW hwl hwok hdead
    have cM := maskChk n hno.sized m (by omega)
    rw [hwok] at cM
    have cWi := fun (d : Dk) (hd : d.ok) => withinD d hd m (by omega)
    have cC2 := fun (s : List Int) (h1 : s.length = m.length) (h2 : WithinTo m s) => coloursF n hno s (within_ok hno (by omega) h2) (by omega)
    simp only [encNet] at cW cM cC2
    cases iz with
    | false =>
      simp only [Bool.not_false]
      refine J_run 200 ?_
      iterate 20 (all_goals (try (first
        | (simp (maxSteps := 1000000) (disch := omega) only [go_sem])
        | ((with_reducible refine CallA.pure cW ?_ ?_); (· simp (disch := omega) only [go_sem]); rintro _ _ ⟨rfl, rfl⟩)
        | ((with_reducible first | refine gDt ?_ ?_ | refine gDf ?_ ?_ | refine gNt ?_ ?_ | refine gNf ?_ ?_ | refine cD ?_ ?_ | refine cN ?_ ?_ | refine cB ?_ ?_ | refine gB ?_ ?_) <;> intro h)
        | with_reducible first | refine And.intro ?_ ?_ | refine J_seq ?_ | refine J_block ?_ | refine J_inBlock ?_ | refine rC ?_ | refine rR ?_ | refine rE ?_ | refine rG ?_ | refine FinQ.now ?_ | refine FinQ.end ?_)))
      refine J_for ([21, 22, 23, 24, 25] ++ upto 121 149) (fun x : Nat × Dk => [(20, .raw (.int .i64 x.1))]) (fun x => [.box (encDk x.2), .box (encNet n)]) (fun x => x.1 ≤ 4 ∧ x.2.ok) (fun x => 4 - x.1) (0, d4) ⟨by simp, hd4⟩ (.le (by simp [go_sem, encNet]) (by simp)) ?_
      rintro ⟨k, d5⟩ ⟨hk, hd5⟩
      simp only [encNet] at hk hd5 ⊢
      refine J_run 200 ?_
      iterate 20 (all_goals (try (first
        | (simp (maxSteps := 1000000) (disch := omega) only [go_sem])
        | ((with_reducible refine CallA.pure cM ?_ ?_); (· simp (disch := omega) only [go_sem]); rintro _ _ ⟨rfl, rfl⟩)
        | ((with_reducible refine CallA.pure ca ?_ ?_); (· simp (disch := omega) only [go_sem]); rintro _ _ ⟨rfl, rfl⟩)
        | ((with_reducible first | refine gDt ?_ ?_ | refine gDf ?_ ?_ | refine gNt ?_ ?_ | refine gNf ?_ ?_ | refine cD ?_ ?_ | refine cN ?_ ?_ | refine cB ?_ ?_ | refine gB ?_ ?_) <;> intro h)
        | with_reducible first | refine And.intro ?_ ?_ | refine J_seq ?_ | refine J_block ?_ | refine J_inBlock ?_ | refine rC ?_ | refine rR ?_ | refine rE ?_ | refine rG ?_ | refine FinQ.now ?_ | refine FinQ.end ?_)))
    | true =>
      simp only [Bool.not_true]
      refine J_run 200 ?_
      iterate 20 (all_goals (try (first
        | (simp (maxSteps := 1000000) (disch := omega) only [go_sem])
        | ((with_reducible refine CallA.pure cW ?_ ?_); (· simp (disch := omega) only [go_sem]); rintro _ _ ⟨rfl, rfl⟩)
        | ((with_reducible first | refine gDt ?_ ?_ | refine gDf ?_ ?_ | refine gNt ?_ ?_ | refine gNf ?_ ?_ | refine cD ?_ ?_ | refine cN ?_ ?_ | refine cB ?_ ?_ | refine gB ?_ ?_) <;> intro h)
        | with_reducible first | refine And.intro ?_ ?_ | refine J_seq ?_ | refine J_block ?_ | refine J_inBlock ?_ | refine rC ?_ | refine rR ?_ | refine rE ?_ | refine rG ?_ | refine FinQ.now ?_ | refine FinQ.end ?_)))
      refine J_for ([21, 22, 23, 24, 25] ++ upto 121 149) (fun x : Nat × Dk => [(20, .raw (.int .i64 x.1))]) (fun x => [.box (encDk x.2), .box (encNet n)]) (fun x => x.1 ≤ 4 ∧ x.2.ok) (fun x => 4 - x.1) (0, d4) ⟨by simp, hd4⟩ (.le (by simp [go_sem, encNet]) (by simp)) ?_
      rintro ⟨k, d5⟩ ⟨hk, hd5⟩
      simp only [encNet] at hk hd5 ⊢
      by_cases hk4 : k < 4
      · refine J_run 200 ?_
        iterate 20 (all_goals (try (first
          | (simp (maxSteps := 1000000) (disch := omega) only [go_sem, take_lm])
          | ((with_reducible refine CallA.mut [0] ?_ ?_ ?_ ?_ (cWi _ hd5) ?_); (· simp (disch := omega) only [go_sem, take_lm]); (· simp (disch := omega) only [go_sem, take_lm]); (· simp (disch := omega) only [go_sem, take_lm]); (· simp (disch := omega) only [go_sem, take_lm]); rintro _ _ ⟨s, d6, hd6, hsl, hsW, rfl, rfl⟩)
          | ((with_reducible refine CallA.give [2] ?_ ?_ (cC2 s hsl hsW) ?_); (· simp (disch := omega) only [go_sem, take_lm]); (· simp (disch := omega) only [go_sem, take_lm]); rintro _ _ ⟨rfl, rfl⟩)
          | ((with_reducible first | refine gDt ?_ ?_ | refine gDf ?_ ?_ | refine gNt ?_ ?_ | refine gNf ?_ ?_ | refine cD ?_ ?_ | refine cN ?_ ?_ | refine cB ?_ ?_ | refine gB ?_ ?_) <;> intro h)
          | with_reducible first | refine And.intro ?_ ?_ | refine J_seq ?_ | refine J_block ?_ | refine J_inBlock ?_ | refine rC ?_ | refine rR ?_ | refine rE ?_ | refine rG ?_ | refine FinQ.now ?_ | refine FinQ.end ?_)))
        have hcl2 := cols_len (n := n) (st := s)
        refine J_for ([25] ++ upto 140 149) (fun i : Nat => [(139, .raw (.int .i64 i))]) (fun _ => [.box (encDk d6), .box (encNet n)]) (fun i => i ≤ z.length) (fun i => z.length - i) 0 (by omega) (.le (by simp [go_sem, encNet]) (by simp)) ?_
        intro i hi
        simp only [encNet]
        by_cases hlt : i < z.length
        · have hgz := getD_N hlt
          have hzm := rising_mem hz (List.getElem_mem hlt)
          have hgc := getD_N (l := cols n s) (i := z[i].toNat) (by omega)
          have hcv : IntKind.i64.wrap ((BitVec.ofInt 64 ((cols n s)[z[i].toNat]'(by omega)) &&& BitVec.ofInt 64 1).toNat : Int) = if liveB n s z[i].toNat then 1 else 0 := cols_live (by omega)
          rw [hdead s (by omega) hsW rfl _ (List.getElem_mem hlt)] at hcv
          simp only [if_false, Bool.false_eq_true] at hcv
          refine J_run 200 ?_
          iterate 20 (all_goals (try (first
            | (simp (maxSteps := 1000000) (disch := omega) only [go_sem, hgz, hgc])
            | ((with_reducible first | refine gDt ?_ ?_ | refine gDf ?_ ?_ | refine gNt ?_ ?_ | refine gNf ?_ ?_ | refine cD ?_ ?_ | refine cN ?_ ?_ | refine cB ?_ ?_ | refine gB ?_ ?_) <;> intro h)
            | with_reducible first | refine And.intro ?_ ?_ | refine J_seq ?_ | refine J_block ?_ | refine J_inBlock ?_ | refine rC ?_ | refine rR ?_ | refine rE ?_ | refine rG ?_ | refine FinQ.now ?_ | refine FinQ.end ?_)))
          · rename_i h; exact absurd hcv h
          refine .mk (i + 1) hlt (by omega) ?_ ?_
          · simp [go_sem, encNet]
          · simp
        · refine J_run 200 ?_
          iterate 20 (all_goals (try (first
            | (simp (maxSteps := 1000000) (disch := omega) only [go_sem])
            | ((with_reducible first | refine gDt ?_ ?_ | refine gDf ?_ ?_ | refine gNt ?_ ?_ | refine gNf ?_ ?_ | refine cD ?_ ?_ | refine cN ?_ ?_ | refine cB ?_ ?_ | refine gB ?_ ?_) <;> intro h)
            | with_reducible first | refine And.intro ?_ ?_ | refine J_seq ?_ | refine J_block ?_ | refine J_inBlock ?_ | refine rC ?_ | refine rR ?_ | refine rE ?_ | refine rG ?_ | refine FinQ.now ?_ | refine FinQ.end ?_)))
          refine .mk (k + 1, d6) ⟨by simp only; omega, hd6⟩ (by simp only; omega) ?_ ?_
          · simp [go_sem, encNet]
          · simp
      · refine J_run 200 ?_
        iterate 20 (all_goals (try (first
          | (simp (maxSteps := 1000000) (disch := omega) only [go_sem])
          | ((with_reducible refine CallA.pure cM ?_ ?_); (· simp (disch := omega) only [go_sem]); rintro _ _ ⟨rfl, rfl⟩)
          | ((with_reducible refine CallA.pure ca ?_ ?_); (· simp (disch := omega) only [go_sem]); rintro _ _ ⟨rfl, rfl⟩)
          | ((with_reducible first | refine gDt ?_ ?_ | refine gDf ?_ ?_ | refine gNt ?_ ?_ | refine gNf ?_ ?_ | refine cD ?_ ?_ | refine cN ?_ ?_ | refine cB ?_ ?_ | refine gB ?_ ?_) <;> intro h)
          | with_reducible first | refine And.intro ?_ ?_ | refine J_seq ?_ | refine J_block ?_ | refine J_inBlock ?_ | refine rC ?_ | refine rR ?_ | refine rE ?_ | refine rG ?_ | refine FinQ.now ?_ | refine FinQ.end ?_)))
  · rw [decide_eq_false h400] at cf
    refine holds_of Tryd.func5 rfl rfl ?_
    refine J_run 200 ?_
    delta Tryd.f5
    repeat' (first
      | (simp (maxSteps := 1000000) (disch := omega) only [go_sem])
      | ((with_reducible refine CallA.pure ca ?_ ?_); (· simp (disch := omega) only [go_sem]); rintro _ _ ⟨rfl, rfl⟩)
      | ((with_reducible refine CallA.pure cf ?_ ?_); (· simp (disch := omega) only [go_sem]); rintro _ _ ⟨rfl, rfl⟩)
      | ((with_reducible first | refine gDt ?_ ?_ | refine gDf ?_ ?_ | refine gNt ?_ ?_ | refine gNf ?_ ?_ | refine cD ?_ ?_ | refine cN ?_ ?_ | refine cB ?_ ?_ | refine gB ?_ ?_) <;> intro h)
      | with_reducible first | refine And.intro ?_ ?_ | refine J_seq ?_ | refine J_block ?_ | refine J_inBlock ?_ | refine rC ?_ | refine rR ?_ | refine rE ?_ | refine rG ?_ | refine FinQ.now ?_ | refine FinQ.end ?_)
theorem zoneDead_av (x : (Sh.slice (.int .i64)).Den) (o : (Sh.slice (.int .i64)).Ok x) : Fn1 Tryd.prog GT0 5 [(Sh.slice (.int .i64)).av x] (.raw (.bool true)) [] := zoneDead x (nums_ok o)
end Go.Proofs.YtangkndckghblaaDoor.Abs
