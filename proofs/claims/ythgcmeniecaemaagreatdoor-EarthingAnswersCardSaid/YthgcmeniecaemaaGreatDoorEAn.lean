/- EarthingAnswers, walked: it returns true. -/
import Derived.Test.YthgcmeniecaemaaGreatDoorEGB
import Derived.Test.YthgcmeniecaemaaGreatDoorR3
import Derived.Test.YthgcmeniecaemaaGreatDoorMC
import Derived.Test.YthgcmeniecaemaaGreatDoorMD
import Derived.Test.YthgcmeniecaemaaGreatDoorPlansC
import Derived.Test.YthgcmeniecaemaaGreatDoorAbsS
import Derived.Test.YthgcmeniecaemaaGreatDoorZShp
namespace Go.Proofs.YthgcmeniecaemaaGreatDoor.Abs
set_option linter.unusedSimpArgs false
set_option linter.unusedVariables false
set_option maxRecDepth 100000
open Go Go.RowKit

def encL (l : List Int) : List AV := [.lst 1 (l.map encN)]
def encLL (l : List Lk) : List AV := [.lst 3 (l.map encLk)]
theorem counted_le {n : Net} {l : List Lk} {z : List Int} : (countedR n l z).1.length ≤ n.nodes.length := by
  unfold countedR
  split
  · simp
  · exact countL_len
theorem missing_le {n : Net} {l : List Lk} {z : List Int} : (missingR n l z).1.length ≤ z.length := by
  unfold missingR
  split
  · simp
  · exact missL_len
theorem zoneW (d : Dk) (hd : d.ok) (n : Net) (h1 : 1 ≤ n.nodes.length) (h32 : n.nodes.length ≤ 32) : Holds Tryz.prog GT0 13 [.ref 0 0, .agg (encNet n)] [.box (encDk d)] (DrawnList 32) :=
  (zoneD d hd n h1 h32).mono fun r os ⟨z, d', h2, h3, h4, h5, h6⟩ => ⟨z, d', h2, by have := rising_len (by omega) h4; omega, h5, h6⟩
theorem light_len {n : Net} (h : lightB n = true) : n.nodes.length ≤ 100 ∧ n.devs.length ≤ 200 := by
  simp only [lightB, decide_eq_true_eq] at h
  omega
def DrawnSetW (N : Nat) (r : AV) (os : List Obj) : Prop := ∃ (z : List Int) (d : Dk), d.ok ∧ z.length ≤ N ∧ r = .own 1 1 0 z.length ∧ os = [.box (encDk d), .arr 1 (z.map encN)]
theorem setW (d : Dk) (hd : d.ok) (N : Nat) (hN : N ≤ 1000) (most : Int) : Holds Tryz.prog GT0 15 [.ref 0 0, .raw (.int .i64 N), .raw (.int .i64 most)] [.box (encDk d)] (DrawnSetW N) :=
  (setD d hd N most (by omega)).mono fun r os ⟨z, d', h1, h2, h3, h4⟩ => by
    rw [if_neg (by omega)] at h2
    exact ⟨z, d', h1, by have := rising_len (by omega) h2; omega, h3, h4⟩
set_option maxHeartbeats 16000000 in
theorem earthingAnswers (l raw nds : List Int) (odd : Net) (locks : List Lk) (hl : NumsOk l) (hrw : raw.length ≤ 9223372036854775807) (hgp : nds.length ≤ 9223372036854775807) (ho : odd.sized) (hlk : locks.length ≤ 9223372036854775807) :
    Fn1 Tryz.prog GT0 3 [.lst 1 (l.map encN), .lst 1 (raw.map encN), .lst 1 (nds.map encN), .agg (encNet odd), .lst 3 (locks.map encLk)] (.raw (.bool true)) [] := by
  have ca := awake16
  have cf := few l hl.len
  have cL := lightF odd ho
  by_cases h400 : l.length ≤ 400
  · rw [decide_eq_true h400] at cf
    by_cases hr60 : 60 < raw.length
    · refine holds_of Tryz.func3 rfl rfl ?_
      refine J_run 200 ?_
      delta Tryz.f3
      iterate 30 (all_goals (try (first
        | (exfalso; omega)
        | (simp (maxSteps := 1000000) (disch := omega) only [go_sem])
        | ((with_reducible refine CallA.pure ca ?_ ?_); (· simp (disch := omega) only [go_sem]); rintro _ _ ⟨rfl, rfl⟩)
        | ((with_reducible refine CallA.pure cf ?_ ?_); (· simp (disch := omega) only [go_sem]); rintro _ _ ⟨rfl, rfl⟩)
        | ((with_reducible first | refine gDt ?_ ?_ | refine gDf ?_ ?_ | refine gNt ?_ ?_ | refine gNf ?_ ?_ | refine cD ?_ ?_ | refine cN ?_ ?_ | refine cB ?_ ?_ | refine gB ?_ ?_) <;> intro h)
        | with_reducible first | refine And.intro ?_ ?_ | refine J_seq ?_ | refine J_block ?_ | refine J_inBlock ?_ | refine rC ?_ | refine rR ?_ | refine rE ?_ | refine rG ?_ | refine FinQ.now ?_ | refine FinQ.end ?_)))
    by_cases hg60 : 60 < nds.length
    · refine holds_of Tryz.func3 rfl rfl ?_
      refine J_run 200 ?_
      delta Tryz.f3
      iterate 30 (all_goals (try (first
        | (exfalso; omega)
        | (simp (maxSteps := 1000000) (disch := omega) only [go_sem])
        | ((with_reducible refine CallA.pure ca ?_ ?_); (· simp (disch := omega) only [go_sem]); rintro _ _ ⟨rfl, rfl⟩)
        | ((with_reducible refine CallA.pure cf ?_ ?_); (· simp (disch := omega) only [go_sem]); rintro _ _ ⟨rfl, rfl⟩)
        | ((with_reducible first | refine gDt ?_ ?_ | refine gDf ?_ ?_ | refine gNt ?_ ?_ | refine gNf ?_ ?_ | refine cD ?_ ?_ | refine cN ?_ ?_ | refine cB ?_ ?_ | refine gB ?_ ?_) <;> intro h)
        | with_reducible first | refine And.intro ?_ ?_ | refine J_seq ?_ | refine J_block ?_ | refine J_inBlock ?_ | refine rC ?_ | refine rR ?_ | refine rE ?_ | refine rG ?_ | refine FinQ.now ?_ | refine FinQ.end ?_)))
    obtain ⟨bl, hbl⟩ : ∃ b, lightB odd = b := ⟨_, rfl⟩
    rw [hbl] at cL
    cases bl with
    | false =>
      refine holds_of Tryz.func3 rfl rfl ?_
      refine J_run 200 ?_
      delta Tryz.f3
      simp only [encNet] at cL ⊢
      iterate 30 (all_goals (try (first
        | (exfalso; omega)
        | (simp (maxSteps := 1000000) (disch := omega) only [go_sem])
        | ((with_reducible refine CallA.pure ca ?_ ?_); (· simp (disch := omega) only [go_sem]); rintro _ _ ⟨rfl, rfl⟩)
        | ((with_reducible refine CallA.pure cf ?_ ?_); (· simp (disch := omega) only [go_sem]); rintro _ _ ⟨rfl, rfl⟩)
        | ((with_reducible refine CallA.pure cL ?_ ?_); (· simp (disch := omega) only [go_sem]); rintro _ _ ⟨rfl, rfl⟩)
        | ((with_reducible first | refine gDt ?_ ?_ | refine gDf ?_ ?_ | refine gNt ?_ ?_ | refine gNf ?_ ?_ | refine cD ?_ ?_ | refine cN ?_ ?_ | refine cB ?_ ?_ | refine gB ?_ ?_) <;> intro h)
        | with_reducible first | refine And.intro ?_ ?_ | refine J_seq ?_ | refine J_block ?_ | refine J_inBlock ?_ | refine rC ?_ | refine rR ?_ | refine rE ?_ | refine rG ?_ | refine FinQ.now ?_ | refine FinQ.end ?_)))
    | true =>
    by_cases hk140 : 140 < locks.length
    · refine holds_of Tryz.func3 rfl rfl ?_
      refine J_run 200 ?_
      delta Tryz.f3
      simp only [encNet] at cL ⊢
      iterate 30 (all_goals (try (first
        | (exfalso; omega)
        | (simp (maxSteps := 1000000) (disch := omega) only [go_sem])
        | ((with_reducible refine CallA.pure ca ?_ ?_); (· simp (disch := omega) only [go_sem]); rintro _ _ ⟨rfl, rfl⟩)
        | ((with_reducible refine CallA.pure cf ?_ ?_); (· simp (disch := omega) only [go_sem]); rintro _ _ ⟨rfl, rfl⟩)
        | ((with_reducible refine CallA.pure cL ?_ ?_); (· simp (disch := omega) only [go_sem]); rintro _ _ ⟨rfl, rfl⟩)
        | ((with_reducible first | refine gDt ?_ ?_ | refine gDf ?_ ?_ | refine gNt ?_ ?_ | refine gNf ?_ ?_ | refine cD ?_ ?_ | refine cN ?_ ?_ | refine cB ?_ ?_ | refine gB ?_ ?_) <;> intro h)
        | with_reducible first | refine And.intro ?_ ?_ | refine J_seq ?_ | refine J_block ?_ | refine J_inBlock ?_ | refine rC ?_ | refine rR ?_ | refine rE ?_ | refine rG ?_ | refine FinQ.now ?_ | refine FinQ.end ?_)))
    have hlight := light_len hbl
    have cn := newDeck l
    have cw := networkD _ hl.deck 7 12 (by omega) (by omega)
    refine holds_of Tryz.func3 rfl rfl ?_
    refine J_run 200 ?_
    delta Tryz.f3
    simp only [encNet] at cL ⊢
    iterate 24 (all_goals (try (first
      | (simp (maxSteps := 1000000) (disch := omega) only [go_sem])
      | ((with_reducible refine CallA.pure cf ?_ ?_); (· simp (disch := omega) only [go_sem]); rintro _ _ ⟨rfl, rfl⟩)
      | ((with_reducible refine CallA.pure cL ?_ ?_); (· simp (disch := omega) only [go_sem]); rintro _ _ ⟨rfl, rfl⟩)
      | ((with_reducible refine CallA.pure cn ?_ ?_); (· simp (disch := omega) only [go_sem]); rintro _ _ ⟨rfl, rfl⟩)
      | ((with_reducible first | refine gDt ?_ ?_ | refine gDf ?_ ?_ | refine gNt ?_ ?_ | refine gNf ?_ ?_ | refine cD ?_ ?_ | refine cN ?_ ?_ | refine cB ?_ ?_ | refine gB ?_ ?_) <;> intro h)
      | with_reducible first | refine And.intro ?_ ?_ | refine J_seq ?_ | refine J_block ?_ | refine J_inBlock ?_ | refine rC ?_ | refine rR ?_ | refine rE ?_ | refine rG ?_ | refine FinQ.now ?_ | refine FinQ.end ?_)))
    refine CallA.mut [1] ?_ ?_ ?_ ?_ cw ?_
    · simp only [go_sem]
    · simp only [go_sem]
    · simp only [go_sem]
    · simp only [go_sem]
    rintro _ _ ⟨n, k, d1, hd1, hM, hk2, hk7, hdl, hd1', rfl, rfl⟩
    have hnl := hM.nl
    have hno := hM.ok (by omega) (by omega)
    have cs := fun (d : Dk) (hd : d.ok) => stateD d hd n (by omega)
    have cl := fun (d : Dk) (hd : d.ok) (st : List Int) (h : st.length = n.devs.length) => locksD d hd n hno st (by omega) 8 (by omega)
    have x2 := fun (d : Dk) (hd : d.ok) => next d hd 2 (by decide)
    have cby := bayF
    simp only [encNet] at cs cl cby ⊢
    iterate 6 (all_goals (try (first
      | (simp (maxSteps := 1000000) (disch := omega) only [go_sem])
      | ((with_reducible refine CallA.mut [1] ?_ ?_ ?_ ?_ (cs _ hd1) ?_); (· simp (disch := omega) only [go_sem]); (· simp (disch := omega) only [go_sem]); (· simp (disch := omega) only [go_sem]); (· simp (disch := omega) only [go_sem]); rintro _ _ ⟨st, d2, hd2, hst, _, rfl, rfl⟩)
      | ((with_reducible first | refine gDt ?_ ?_ | refine gDf ?_ ?_ | refine gNt ?_ ?_ | refine gNf ?_ ?_ | refine cD ?_ ?_ | refine cN ?_ ?_ | refine cB ?_ ?_ | refine gB ?_ ?_) <;> intro h)
      | with_reducible first | refine And.intro ?_ ?_ | refine J_seq ?_ | refine J_block ?_ | refine J_inBlock ?_ | refine rC ?_ | refine rR ?_ | refine rE ?_ | refine rG ?_ | refine FinQ.now ?_ | refine FinQ.end ?_)))
    refine J_for ([14, 15] ++ upto 80 93) (fun x : Nat × List Int × Dk => [(79, .raw (.int .i64 x.1))]) (fun x => [.box (encNet odd), .box (encDk x.2.2), .box (encNet n), .arr 1 (x.2.1.map encN)]) (fun x => x.1 ≤ n.devs.length ∧ x.2.1.length = n.devs.length ∧ x.2.2.ok) (fun x => n.devs.length - x.1) (0, st, d2) ⟨by simp only; omega, hst, hd2⟩ (.le (by simp [go_sem, encNet]) (by simp)) ?_
    rintro ⟨i, s, d3⟩ ⟨hi, hsl, hd3⟩
    simp only [encNet] at hi hsl hd3 ⊢
    by_cases hlt : i < n.devs.length
    · have hdv := getD_Dv hlt
      obtain ⟨k4, hk4⟩ : ∃ k, decide (n.devs[i].kind = 4) = k := ⟨_, rfl⟩
      cases k4
      · refine J_run 200 ?_
        iterate 14 (all_goals (try (first
          | (simp (maxSteps := 1000000) (disch := omega) only [go_sem, hdv, hk4])
          | ((with_reducible first | refine gDt ?_ ?_ | refine gDf ?_ ?_ | refine gNt ?_ ?_ | refine gNf ?_ ?_ | refine cD ?_ ?_ | refine cN ?_ ?_ | refine cB ?_ ?_ | refine gB ?_ ?_) <;> intro h)
          | with_reducible first | refine And.intro ?_ ?_ | refine J_seq ?_ | refine J_block ?_ | refine J_inBlock ?_ | refine rC ?_ | refine rR ?_ | refine rE ?_ | refine rG ?_ | refine FinQ.now ?_ | refine FinQ.end ?_)))
        refine .mk (i + 1, s, d3) ⟨hlt, hsl, hd3⟩ (by simp only; omega) ?_ ?_
        · simp [go_sem, encNet]
        · simp
      · refine J_run 200 ?_
        iterate 16 (all_goals (try (first
          | (simp (maxSteps := 1000000) (disch := omega) only [go_sem, hdv, hk4])
          | ((with_reducible refine CallA.mut [1] ?_ ?_ ?_ ?_ (x2 _ hd3) ?_); (· simp (disch := omega) only [go_sem, hdv, hk4]); (· simp (disch := omega) only [go_sem, hdv, hk4]); (· simp (disch := omega) only [go_sem, hdv, hk4]); (· simp (disch := omega) only [go_sem, hdv, hk4]); rintro _ _ ⟨y, d4, hd4, hy0, hy1, rfl, rfl⟩)
          | ((with_reducible first | refine gDt ?_ ?_ | refine gDf ?_ ?_ | refine gNt ?_ ?_ | refine gNf ?_ ?_ | refine cD ?_ ?_ | refine cN ?_ ?_ | refine cB ?_ ?_ | refine gB ?_ ?_) <;> intro h)
          | with_reducible first | refine And.intro ?_ ?_ | refine J_seq ?_ | refine J_block ?_ | refine J_inBlock ?_ | refine rC ?_ | refine rR ?_ | refine rE ?_ | refine rG ?_ | refine FinQ.now ?_ | refine FinQ.end ?_)))
        have hse := set_encN (l := s) (k := i) (x := 1 + y) (by omega)
        refine .mk (i + 1, s.set i (1 + y), d4) ⟨hlt, by simp only [List.length_set]; exact hsl, hd4⟩ (by simp only; omega) ?_ ?_
        · simp only [← hse]; simp [go_sem, encNet]
        · simp
    have hie : i = n.devs.length := by omega
    subst hie
    have htk : List.take n.devs.length (s.map encN) = s.map encN := List.take_of_length_le (by simp; omega)
    have htk2 : List.take st.length (s.map encN) = s.map encN := List.take_of_length_le (by simp; omega)
    refine J_run 200 ?_
    iterate 20 (all_goals (try (first
      | ((with_reducible refine J_draw (id := 13) 200 [] plan3_13 (by kernel_rfl) (by kernel_rfl) ?_); delta plan3_13)
      | (simp (maxSteps := 1000000) (disch := omega) only [go_sem, htk, htk2, take_lm])
      | ((with_reducible refine CallA.mutGive [1] [3] ?_ ?_ ?_ ?_ (cl _ hd3 s hsl) ?_); (· simp (disch := omega) only [go_sem, htk, htk2, take_lm]); (· simp (disch := omega) only [go_sem, htk, htk2, take_lm]); (· simp (disch := omega) only [go_sem, htk, htk2, take_lm]); (· simp (disch := omega) only [go_sem, htk, htk2, take_lm]); rintro _ _ ⟨lk, d4, hd4, hL, rfl, rfl⟩)
      | ((with_reducible refine CallA.pure cby ?_ ?_); (· simp (disch := omega) only [go_sem, htk, htk2, take_lm]); rintro _ _ ⟨rfl, rfl⟩)
      | ((with_reducible first | refine gDt ?_ ?_ | refine gDf ?_ ?_ | refine gNt ?_ ?_ | refine gNf ?_ ?_ | refine cD ?_ ?_ | refine cN ?_ ?_ | refine cB ?_ ?_ | refine gB ?_ ?_ | refine stepGuard_dect ?_ ?_ | refine stepGuard_decf ?_ ?_ | refine stepGuard_ndect ?_ ?_ | refine stepGuard_ndecf ?_ ?_ | refine stepGuard_by ?_ ?_) <;> intro h)
      | with_reducible first | refine And.intro ?_ ?_ | refine J_seq ?_ | refine J_block ?_ | refine J_inBlock ?_ | refine rC ?_ | refine rR ?_ | refine rE ?_ | refine rG ?_ | refine FinQ.now ?_ | refine FinQ.end ?_)))
    have hlk128 := hL.len
    refine J_frz [4] ?_
    simp only [go_sem, take_lm]
    obtain ⟨nets, hnets⟩ : ∃ nets, [n, odd, bayNet] = nets := ⟨_, rfl⟩
    have hnn : ∀ x, x ∈ nets → x.sized ∧ x.nodes.length ≤ 100 ∧ x.devs.length ≤ 200 := fun x hx => by
      rw [← hnets] at hx
      rcases List.mem_cons.1 hx with rfl | hx
      · exact ⟨hno.sized, by omega, by omega⟩
      rcases List.mem_cons.1 hx with rfl | hx
      · exact ⟨ho, by omega, by omega⟩
      · rw [List.mem_singleton.1 hx]; exact ⟨bayNet_ok.sized, by decide, by decide⟩
    have hn3 : nets.length = 3 := by rw [← hnets]; rfl
    refine J_for ([18, 20, 22, 23, 24, 25, 26, 28, 29, 30, 31, 32, 33, 34, 35, 36, 37, 38, 39, 40, 41, 42, 43, 44] ++ upto 104 275) (fun x : Nat × Dk => [(103, .raw (.int .i64 x.1)), (101, .lst 2 (nets.map encNet))]) (fun x => [.box (encNet odd), .box (encDk x.2), .box (encNet n)]) (fun x => x.1 ≤ 3 ∧ x.2.ok) (fun x => 3 - x.1) (0, d4) ⟨by simp only; omega, hd4⟩ (.le (by simp [go_sem, encNet, ← hnets]) (by simp)) ?_
    rintro ⟨a, d5⟩ ⟨ha, hd5⟩
    simp only [encNet] at ha hd5 ⊢
    by_cases ha2 : a < 3
    · have hxm := List.getElem_mem (l := nets) (n := a) (by omega)
      have hxg : (nets.map encNet).getD a [] = encNet (nets[a]'(by omega)) := getD_map (by omega)
      obtain ⟨x, hx⟩ : ∃ x, nets[a]'(by omega) = x := ⟨_, rfl⟩
      rw [hx] at hxm hxg
      obtain ⟨hxs, hxn, hxd⟩ := hnn x hxm
      simp only [encNet] at hxg
      refine J_run 200 ?_
      iterate 10 (all_goals (try (first
        | (simp (maxSteps := 1000000) (disch := omega) only [go_sem, hxg])
        | ((with_reducible first | refine gDt ?_ ?_ | refine gDf ?_ ?_ | refine gNt ?_ ?_ | refine gNf ?_ ?_ | refine cD ?_ ?_ | refine cN ?_ ?_ | refine cB ?_ ?_ | refine gB ?_ ?_) <;> intro h)
        | with_reducible first | refine And.intro ?_ ?_ | refine rG ?_ | refine FinQ.now ?_ | refine FinQ.end ?_)))
      have cz := fun (d : Dk) (hd : d.ok) => zoneW d hd n (by omega) (by omega)
      have cb := fun (d : Dk) (hd : d.ok) (l : List Int) (hl : l.length ≤ 1000) => bentD d hd l hl [-1, 0, 1, 6] (by decide) (by decide)
      have cb2 := fun (d : Dk) (hd : d.ok) (l : List Int) (hl : l.length ≤ 1000) => bentD d hd l hl [-1, 0, 5, 7] (by decide) (by decide)
      have cs1 := fun (d : Dk) (hd : d.ok) => setW d hd x.nodes.length (by omega) 3
      have cs6 : ∀ (d : Dk), d.ok → Holds Tryz.prog GT0 15 [.ref 0 0, .raw (.int .i64 6), .raw (.int .i64 3)] [.box (encDk d)] (DrawnSetW 6) := fun d hd => setW d hd 6 (by omega) 3
      simp only [encNet] at cz
      simp only [List.map_cons, List.map_nil, encN] at cb cb2
      first | refine J_seq ?_ | skip
      refine J_mergeN 1 (upto 107 116) (fun x : List Int × List Int × Dk => [(117, .own 5 1 0 3), (118, .raw (.int .i64 3)), (119, .raw (.int .i64 0))]) (fun y => [.box (encNet odd), .box (encDk y.2.2), .box (encNet n), .box (encNet x), .dead, .arr 1 [encL y.1, encL raw, encL y.2.1]]) (fun y => y.1.length ≤ 32 ∧ y.2.1.length ≤ 33 ∧ y.2.2.ok) ?_ ?_
      · simp only [go_sem]
        iterate 24 (all_goals (try (first
          | ((with_reducible refine J_draw (id := 16) 200 [2,7,9] plan3_16_2_7_9 (by kernel_rfl) (by kernel_rfl) ?_); delta plan3_16_2_7_9)
          | (simp (maxSteps := 1000000) (disch := omega) only [go_sem, List.take_succ_cons, List.take_zero])
          | ((with_reducible refine CallA.mut [1] ?_ ?_ ?_ ?_ (cz _ hd5) ?_); (· simp (disch := omega) only [go_sem, List.take_succ_cons, List.take_zero]); (· simp (disch := omega) only [go_sem, List.take_succ_cons, List.take_zero]); (· simp (disch := omega) only [go_sem, List.take_succ_cons, List.take_zero]); (· simp (disch := omega) only [go_sem, List.take_succ_cons, List.take_zero]); rintro _ _ ⟨za, da, hda, hzal, rfl, rfl⟩)
          | ((with_reducible refine CallA.mut [1] ?_ ?_ ?_ ?_ (cz _ hda) ?_); (· simp (disch := omega) only [go_sem, List.take_succ_cons, List.take_zero]); (· simp (disch := omega) only [go_sem, List.take_succ_cons, List.take_zero]); (· simp (disch := omega) only [go_sem, List.take_succ_cons, List.take_zero]); (· simp (disch := omega) only [go_sem, List.take_succ_cons, List.take_zero]); rintro _ _ ⟨zb, db, hdb, hzbl, rfl, rfl⟩)
          | ((with_reducible refine CallA.mut [1] ?_ ?_ ?_ ?_ (cz _ hdw) ?_); (· simp (disch := omega) only [go_sem, List.take_succ_cons, List.take_zero]); (· simp (disch := omega) only [go_sem, List.take_succ_cons, List.take_zero]); (· simp (disch := omega) only [go_sem, List.take_succ_cons, List.take_zero]); (· simp (disch := omega) only [go_sem, List.take_succ_cons, List.take_zero]); rintro _ _ ⟨zb, db, hdb, hzbl, rfl, rfl⟩)
          | ((with_reducible refine CallA.mutGive [1] [4] ?_ ?_ ?_ ?_ (cb _ hda za (by omega)) ?_); (· simp (disch := omega) only [go_sem, List.take_succ_cons, List.take_zero]); (· simp (disch := omega) only [go_sem, List.take_succ_cons, List.take_zero]); (· simp (disch := omega) only [go_sem, List.take_succ_cons, List.take_zero]); (· simp (disch := omega) only [go_sem, List.take_succ_cons, List.take_zero]); rintro _ _ ⟨w, dw, hdw, hwl, rfl, rfl⟩)
          | ((with_reducible refine CallA.mutGive [1] [4] ?_ ?_ ?_ ?_ (cb _ hdb zb (by omega)) ?_); (· simp (disch := omega) only [go_sem, List.take_succ_cons, List.take_zero]); (· simp (disch := omega) only [go_sem, List.take_succ_cons, List.take_zero]); (· simp (disch := omega) only [go_sem, List.take_succ_cons, List.take_zero]); (· simp (disch := omega) only [go_sem, List.take_succ_cons, List.take_zero]); rintro _ _ ⟨w, dw, hdw, hwl, rfl, rfl⟩)
          | ((with_reducible refine CallA.mutGive [1] [4] ?_ ?_ ?_ ?_ (cb _ hdb za (by omega)) ?_); (· simp (disch := omega) only [go_sem, List.take_succ_cons, List.take_zero]); (· simp (disch := omega) only [go_sem, List.take_succ_cons, List.take_zero]); (· simp (disch := omega) only [go_sem, List.take_succ_cons, List.take_zero]); (· simp (disch := omega) only [go_sem, List.take_succ_cons, List.take_zero]); rintro _ _ ⟨w, dw, hdw, hwl, rfl, rfl⟩)
          | ((with_reducible first | refine gDt ?_ ?_ | refine gDf ?_ ?_ | refine gNt ?_ ?_ | refine gNf ?_ ?_ | refine cD ?_ ?_ | refine cN ?_ ?_ | refine cB ?_ ?_ | refine gB ?_ ?_ | refine stepGuard_dect ?_ ?_ | refine stepGuard_decf ?_ ?_ | refine stepGuard_ndect ?_ ?_ | refine stepGuard_ndecf ?_ ?_ | refine stepGuard_by ?_ ?_) <;> intro h)
          | with_reducible first | refine And.intro ?_ ?_ | refine J_seq ?_ | refine J_block ?_ | refine J_inBlock ?_ | refine rC ?_ | refine rR ?_ | refine rE ?_ | refine rG ?_ | refine FinQ.now ?_ | refine FinQ.end ?_)))
        all_goals first
          | (refine MergeEnd.mk (za, w, dw) ⟨hzal, by simp only; omega, hdw⟩ ?_ ?_; (· simp [go_sem, encNet, encL]; done); (· simp; done))
          | (refine MergeEnd.mk (zb, w, dw) ⟨hzbl, by simp only; omega, hdw⟩ ?_ ?_; (· simp [go_sem, encNet, encL]; done); (· simp; done))
          | (refine MergeEnd.mk (zb, w, db) ⟨hzbl, by simp only; omega, hdb⟩ ?_ ?_; (· simp [go_sem, encNet, encL]; done); (· simp; done))
          | (refine MergeEnd.mk (za, w, db) ⟨hzal, by simp only; omega, hdb⟩ ?_ ?_; (· simp [go_sem, encNet, encL]; done); (· simp; done))
      rintro ⟨z1, w, d6⟩ ⟨hz1, hw, hd6⟩
      simp only [go_sem, encNet] at hz1 hw hd6 ⊢
      refine J_frz [5] ?_
      simp only [go_sem]
      obtain ⟨zs, hzs⟩ : ∃ zs, [z1, raw, w] = zs := ⟨_, rfl⟩
      have hzz : ∀ z, z ∈ zs → z.length ≤ 1000 := fun z hz => by
        rw [← hzs] at hz
        rcases List.mem_cons.1 hz with rfl | hz
        · omega
        rcases List.mem_cons.1 hz with rfl | hz
        · omega
        · rw [List.mem_singleton.1 hz]; omega
      have hz3 : zs.length = 3 := by rw [← hzs]; rfl
      refine J_run 200 ?_
      iterate 4 (all_goals (try (first
        | (simp (maxSteps := 1000000) (disch := omega) only [go_sem])
        | ((with_reducible first | refine gDt ?_ ?_ | refine gDf ?_ ?_ | refine gNt ?_ ?_ | refine gNf ?_ ?_ | refine cD ?_ ?_ | refine cN ?_ ?_ | refine cB ?_ ?_ | refine gB ?_ ?_) <;> intro h)
        | with_reducible first | refine And.intro ?_ ?_ | refine J_seq ?_ | refine J_block ?_ | refine J_inBlock ?_ | refine rC ?_ | refine rR ?_ | refine rE ?_ | refine rG ?_ | refine FinQ.now ?_ | refine FinQ.end ?_)))
      refine J_for ([20, 22, 23, 24, 25, 26, 28, 29, 30, 31, 32, 33, 34, 35, 36, 37, 38, 39, 40, 41, 42, 43, 44] ++ upto 120 274) (fun x : Nat × Dk => [(119, .raw (.int .i64 x.1)), (117, .lst 1 (zs.map encL))]) (fun y => [.box (encNet odd), .box (encDk y.2), .box (encNet n), .box (encNet x)]) (fun x => x.1 ≤ 3 ∧ x.2.ok) (fun x => 3 - x.1) (0, d6) ⟨by simp only; omega, hd6⟩ (.le (by simp [go_sem, encNet, ← hzs]) (by simp)) ?_
      rintro ⟨i, d7⟩ ⟨hi, hd7⟩
      simp only [encNet] at hi hd7 ⊢
      by_cases hi3 : i < 3
      · have hzm := List.getElem_mem (l := zs) (n := i) (by omega)
        have hzg : (zs.map encL).getD i [] = encL (zs[i]'(by omega)) := getD_map (by omega)
        obtain ⟨z, hz⟩ : ∃ z, zs[i]'(by omega) = z := ⟨_, rfl⟩
        rw [hz] at hzm hzg
        have hzl := hzz z hzm
        simp only [encL] at hzg
        refine J_run 200 ?_
        iterate 30 (all_goals (try (first
          | (simp (maxSteps := 1000000) (disch := omega) only [go_sem, List.take_succ_cons, List.take_zero, hzg, take_lm, Nat.reduceLT])
          | ((with_reducible refine CallA.mut [1] ?_ ?_ ?_ ?_ (cs1 _ hd7) ?_); (· simp (disch := omega) only [go_sem, List.take_succ_cons, List.take_zero, hzg, take_lm, Nat.reduceLT]); (· simp (disch := omega) only [go_sem, List.take_succ_cons, List.take_zero, hzg, take_lm, Nat.reduceLT]); (· simp (disch := omega) only [go_sem, List.take_succ_cons, List.take_zero, hzg, take_lm, Nat.reduceLT]); (· simp (disch := omega) only [go_sem, List.take_succ_cons, List.take_zero, hzg, take_lm, Nat.reduceLT]); rintro _ _ ⟨s1, da, hda, hs1, rfl, rfl⟩)
          | ((with_reducible refine CallA.mut [1] ?_ ?_ ?_ ?_ (cs6 _ hda) ?_); (· simp (disch := omega) only [go_sem, List.take_succ_cons, List.take_zero, hzg, take_lm, Nat.reduceLT]); (· simp (disch := omega) only [go_sem, List.take_succ_cons, List.take_zero, hzg, take_lm, Nat.reduceLT]); (· simp (disch := omega) only [go_sem, List.take_succ_cons, List.take_zero, hzg, take_lm, Nat.reduceLT]); (· simp (disch := omega) only [go_sem, List.take_succ_cons, List.take_zero, hzg, take_lm, Nat.reduceLT]); rintro _ _ ⟨s2, db, hdb, hs2, rfl, rfl⟩)
          | ((with_reducible refine CallA.mutGive [1] [5,6] ?_ ?_ ?_ ?_ (cb2 _ hdb s2 (by omega)) ?_); (· simp (disch := omega) only [go_sem, List.take_succ_cons, List.take_zero, hzg, take_lm, Nat.reduceLT]); (· simp (disch := omega) only [go_sem, List.take_succ_cons, List.take_zero, hzg, take_lm, Nat.reduceLT]); (· simp (disch := omega) only [go_sem, List.take_succ_cons, List.take_zero, hzg, take_lm, Nat.reduceLT]); (· simp (disch := omega) only [go_sem, List.take_succ_cons, List.take_zero, hzg, take_lm, Nat.reduceLT]); rintro _ _ ⟨w2, d8, hd8, hw2, rfl, rfl⟩)
          | ((with_reducible first | refine gDt ?_ ?_ | refine gDf ?_ ?_ | refine gNt ?_ ?_ | refine gNf ?_ ?_ | refine cD ?_ ?_ | refine cN ?_ ?_ | refine cB ?_ ?_ | refine gB ?_ ?_) <;> intro h)
          | with_reducible first | refine And.intro ?_ ?_ | refine J_seq ?_ | refine J_block ?_ | refine J_inBlock ?_ | refine rC ?_ | refine rR ?_ | refine rE ?_ | refine rG ?_ | refine FinQ.now ?_ | refine FinQ.end ?_)))
        refine J_frz [4] ?_
        simp only [go_sem, take_lm]
        refine J_frz [7] ?_
        simp only [go_sem]
        obtain ⟨ys, hys⟩ : ∃ ys, [nds, s1, w2] = ys := ⟨_, rfl⟩
        have hyy : ∀ y, y ∈ ys → y.length ≤ 1000 := fun y hy => by
          rw [← hys] at hy
          rcases List.mem_cons.1 hy with rfl | hy
          · omega
          rcases List.mem_cons.1 hy with rfl | hy
          · omega
          · rw [List.mem_singleton.1 hy]; omega
        have hy3 : ys.length = 3 := by rw [← hys]; rfl
        refine J_for ([22, 23, 24, 25, 26] ++ upto 137 161) (fun j : Nat => [(136, .raw (.int .i64 j)), (134, .lst 1 (ys.map encL))]) (fun _ => [.box (encNet odd), .box (encDk d8), .box (encNet n), .box (encNet x)]) (fun j => j ≤ 3) (fun j => 3 - j) 0 (by omega) (.le (by simp [go_sem, encNet, ← hys, encL]) (by simp)) ?_
        intro j hj
        simp only [encNet]
        by_cases hj3 : j < 3
        · have hym := List.getElem_mem (l := ys) (n := j) (by omega)
          have hyg : (ys.map encL).getD j [] = encL (ys[j]'(by omega)) := getD_map (by omega)
          obtain ⟨y, hy⟩ : ∃ y, ys[j]'(by omega) = y := ⟨_, rfl⟩
          rw [hy] at hym hyg
          have hyl := hyy y hym
          simp only [encL] at hyg
          have cE1 := EarthF x hxs z y (by omega) (by omega)
          have cE2 := rEnough16 x hxs z y (by omega) (by omega)
          simp only [encNet] at cE1 cE2
          obtain ⟨er, her⟩ : ∃ r, earthE x z y = r := ⟨_, rfl⟩
          rw [her] at cE1 cE2
          obtain ⟨el, ee⟩ := er
          simp only at cE1 cE2
          refine J_run 200 ?_
          iterate 30 (all_goals (try (first
            | (simp (maxSteps := 1000000) (disch := omega) only [go_sem, hyg, decide_true, ne_eq, not_true_eq_false, decide_false])
            | ((with_reducible refine CallA.pure cE1 ?_ ?_); (· simp (disch := omega) only [go_sem, hyg, decide_true, ne_eq, not_true_eq_false, decide_false]); rintro _ _ ⟨rfl, rfl⟩)
            | ((with_reducible refine CallA.pure cE2 ?_ ?_); (· simp (disch := omega) only [go_sem, hyg, decide_true, ne_eq, not_true_eq_false, decide_false]); rintro _ _ ⟨rfl, rfl⟩)
            | ((with_reducible first | refine gDt ?_ ?_ | refine gDf ?_ ?_ | refine gNt ?_ ?_ | refine gNf ?_ ?_ | refine cD ?_ ?_ | refine cN ?_ ?_ | refine cB ?_ ?_ | refine gB ?_ ?_) <;> intro h)
            | with_reducible first | refine And.intro ?_ ?_ | refine J_seq ?_ | refine J_block ?_ | refine J_inBlock ?_ | refine rC ?_ | refine rR ?_ | refine rE ?_ | refine rG ?_ | refine FinQ.now ?_ | refine FinQ.end ?_)))
          refine .mk (j + 1) hj3 (by omega) ?_ ?_
          · simp [go_sem, encNet]
          · simp
        · refine J_run 200 ?_
          iterate 20 (all_goals (try (first
            | (simp (maxSteps := 1000000) (disch := omega) only [go_sem, Nat.reduceLT])
            | ((with_reducible refine CallA.mut [1] ?_ ?_ ?_ ?_ (x2 _ hd8) ?_); (· simp (disch := omega) only [go_sem, Nat.reduceLT]); (· simp (disch := omega) only [go_sem, Nat.reduceLT]); (· simp (disch := omega) only [go_sem, Nat.reduceLT]); (· simp (disch := omega) only [go_sem, Nat.reduceLT]); rintro _ _ ⟨y, d9, hd9, hy0, hy1, rfl, rfl⟩)
            | ((with_reducible first | refine gDt ?_ ?_ | refine gDf ?_ ?_ | refine gNt ?_ ?_ | refine gNf ?_ ?_ | refine cD ?_ ?_ | refine cN ?_ ?_ | refine cB ?_ ?_ | refine gB ?_ ?_) <;> intro h)
            | with_reducible first | refine And.intro ?_ ?_ | refine J_seq ?_ | refine J_block ?_ | refine J_inBlock ?_ | refine rC ?_ | refine rR ?_ | refine rE ?_ | refine rG ?_ | refine FinQ.now ?_ | refine FinQ.end ?_)))
          refine J_frz [4] ?_
          simp only [go_sem, List.take_succ_cons, List.take_zero]
          refine J_frz [5] ?_
          simp only [go_sem]
          obtain ⟨ks, hks⟩ : ∃ ks, [lk, locks, [⟨1, 1, 1⟩, ⟨2 + y, 2, 2⟩]] = ks := ⟨_, rfl⟩
          have hkk : ∀ y, y ∈ ks → y.length ≤ 1000 := fun y hy => by
            rw [← hks] at hy
            rcases List.mem_cons.1 hy with rfl | hy
            · omega
            rcases List.mem_cons.1 hy with rfl | hy
            · omega
            · rw [List.mem_singleton.1 hy]; simp
          have hk2 : ks.length = 3 := by rw [← hks]; rfl
          refine J_for ([28, 29, 30, 31, 32, 33, 34, 35, 36, 37, 38, 39, 40, 41, 42, 43, 44] ++ upto 174 273) (fun j : Nat => [(173, .raw (.int .i64 j)), (171, .lst 1 (ks.map encLL))]) (fun _ => [.box (encNet odd), .box (encDk d9), .box (encNet n), .box (encNet x)]) (fun j => j ≤ 3) (fun j => 3 - j) 0 (by omega) (.le (by simp [go_sem, encNet, ← hks, encLL, encLk]) (by simp)) ?_
          intro m hm
          simp only [encNet]
          by_cases hm2 : m < 3
          · have hym := List.getElem_mem (l := ks) (n := m) (by omega)
            have hyg : (ks.map encLL).getD m [] = encLL (ks[m]'(by omega)) := getD_map (by omega)
            obtain ⟨y, hy⟩ : ∃ y, ks[m]'(by omega) = y := ⟨_, rfl⟩
            rw [hy] at hym hyg
            have hyl := hkk y hym
            simp only [encLL] at hyg
            have cA1 := countedF x hxs y (by omega) z (by omega)
            have cA2 := rCounted x hxs y (by omega) z (by omega)
            have cB1 := MissingF x hxs y (by omega) z (by omega)
            have cB2 := rMissing16 x hxs y (by omega) z (by omega)
            have cC1 := SidesF x hxs y (by omega) z (by omega)
            have cC2 := rSides16 x hxs y (by omega) z (by omega)
            have cD1 := SecureF x hxs y (by omega) z (by omega)
            have cD2 := rSecure16 x hxs y (by omega) z (by omega)
            have hl1 := counted_le (n := x) (l := y) (z := z)
            have hl2 := missing_le (n := x) (l := y) (z := z)
            have cI := ints (countedR x y z).1 (countedR x y z).1 (by omega) (by omega)
            have cI2 := ints (missingR x y z).1 (missingR x y z).1 (by omega) (by omega)
            rw [decide_eq_true rfl] at cI cI2
            simp only [encNet] at cA1 cA2 cB1 cB2 cC1 cC2 cD1 cD2
            obtain ⟨ra, hra⟩ : ∃ r, countedR x y z = r := ⟨_, rfl⟩
            obtain ⟨rb, hrb⟩ : ∃ r, missingR x y z = r := ⟨_, rfl⟩
            obtain ⟨rc, hrc⟩ : ∃ r, sidesR x y z = r := ⟨_, rfl⟩
            obtain ⟨rd, hrd⟩ : ∃ r, secureR x y z = r := ⟨_, rfl⟩
            rw [hra] at cA1 cA2 cI
            rw [hrb] at cB1 cB2 cI2
            rw [hrc] at cC1 cC2
            rw [hrd] at cD1 cD2
            obtain ⟨ra1, ra2⟩ := ra
            obtain ⟨rb1, rb2⟩ := rb
            obtain ⟨rc1, rc2⟩ := rc
            obtain ⟨rd1, rd2⟩ := rd
            simp only at cA1 cA2 cB1 cB2 cC1 cC2 cD1 cD2 cI cI2
            refine J_run 300 ?_
            iterate 40 (all_goals (try (first
              | (simp (maxSteps := 1000000) (disch := omega) only [go_sem, hyg, decide_true, ne_eq, not_true_eq_false, decide_false])
              | ((with_reducible refine CallA.pure cA1 ?_ ?_); (· simp (disch := omega) only [go_sem, hyg, decide_true, ne_eq, not_true_eq_false, decide_false]); rintro _ _ ⟨rfl, rfl⟩)
              | ((with_reducible refine CallA.pure cA2 ?_ ?_); (· simp (disch := omega) only [go_sem, hyg, decide_true, ne_eq, not_true_eq_false, decide_false]); rintro _ _ ⟨rfl, rfl⟩)
              | ((with_reducible refine CallA.pure cB1 ?_ ?_); (· simp (disch := omega) only [go_sem, hyg, decide_true, ne_eq, not_true_eq_false, decide_false]); rintro _ _ ⟨rfl, rfl⟩)
              | ((with_reducible refine CallA.pure cB2 ?_ ?_); (· simp (disch := omega) only [go_sem, hyg, decide_true, ne_eq, not_true_eq_false, decide_false]); rintro _ _ ⟨rfl, rfl⟩)
              | ((with_reducible refine CallA.pure cC1 ?_ ?_); (· simp (disch := omega) only [go_sem, hyg, decide_true, ne_eq, not_true_eq_false, decide_false]); rintro _ _ ⟨rfl, rfl⟩)
              | ((with_reducible refine CallA.pure cC2 ?_ ?_); (· simp (disch := omega) only [go_sem, hyg, decide_true, ne_eq, not_true_eq_false, decide_false]); rintro _ _ ⟨rfl, rfl⟩)
              | ((with_reducible refine CallA.pure cD1 ?_ ?_); (· simp (disch := omega) only [go_sem, hyg, decide_true, ne_eq, not_true_eq_false, decide_false]); rintro _ _ ⟨rfl, rfl⟩)
              | ((with_reducible refine CallA.pure cD2 ?_ ?_); (· simp (disch := omega) only [go_sem, hyg, decide_true, ne_eq, not_true_eq_false, decide_false]); rintro _ _ ⟨rfl, rfl⟩)
              | ((with_reducible refine CallA.pure cI ?_ ?_); (· simp (disch := omega) only [go_sem, hyg, decide_true, ne_eq, not_true_eq_false, decide_false]); rintro _ _ ⟨rfl, rfl⟩)
              | ((with_reducible refine CallA.pure cI2 ?_ ?_); (· simp (disch := omega) only [go_sem, hyg, decide_true, ne_eq, not_true_eq_false, decide_false]); rintro _ _ ⟨rfl, rfl⟩)
              | ((with_reducible first | refine gDt ?_ ?_ | refine gDf ?_ ?_ | refine gNt ?_ ?_ | refine gNf ?_ ?_ | refine cD ?_ ?_ | refine cN ?_ ?_ | refine cB ?_ ?_ | refine gB ?_ ?_) <;> intro h)
              | with_reducible first | refine And.intro ?_ ?_ | refine J_seq ?_ | refine J_block ?_ | refine J_inBlock ?_ | refine rC ?_ | refine rR ?_ | refine rE ?_ | refine rG ?_ | refine FinQ.now ?_ | refine FinQ.end ?_)))
            refine .mk (m + 1) hm2 (by omega) ?_ ?_
            · simp [go_sem, encNet]
            · simp
          · refine J_run 200 ?_
            iterate 10 (all_goals (try (first
              | (simp (maxSteps := 1000000) (disch := omega) only [go_sem])
              | ((with_reducible first | refine gDt ?_ ?_ | refine gDf ?_ ?_ | refine gNt ?_ ?_ | refine gNf ?_ ?_ | refine cD ?_ ?_ | refine cN ?_ ?_ | refine cB ?_ ?_ | refine gB ?_ ?_) <;> intro h)
              | with_reducible first | refine And.intro ?_ ?_ | refine J_seq ?_ | refine J_block ?_ | refine J_inBlock ?_ | refine rC ?_ | refine rR ?_ | refine rE ?_ | refine rG ?_ | refine FinQ.now ?_ | refine FinQ.end ?_)))
            refine .mk (i + 1, d9) ⟨by simp only; omega, hd9⟩ (by simp only; omega) ?_ ?_
            · simp [go_sem, encNet]
            · simp
      · refine J_run 200 ?_
        iterate 10 (all_goals (try (first
          | (simp (maxSteps := 1000000) (disch := omega) only [go_sem])
          | ((with_reducible first | refine gDt ?_ ?_ | refine gDf ?_ ?_ | refine gNt ?_ ?_ | refine gNf ?_ ?_ | refine cD ?_ ?_ | refine cN ?_ ?_ | refine cB ?_ ?_ | refine gB ?_ ?_) <;> intro h)
          | with_reducible first | refine And.intro ?_ ?_ | refine J_seq ?_ | refine J_block ?_ | refine J_inBlock ?_ | refine rC ?_ | refine rR ?_ | refine rE ?_ | refine rG ?_ | refine FinQ.now ?_ | refine FinQ.end ?_)))
        refine .mk (a + 1, d7) ⟨by simp only; omega, hd7⟩ (by simp only; omega) ?_ ?_
        · simp [go_sem, encNet]
        · simp
    · refine J_run 200 ?_
      iterate 20 (all_goals (try (first
        | (simp (maxSteps := 1000000) (disch := omega) only [go_sem])
        | ((with_reducible refine CallA.pure ca ?_ ?_); (· simp (disch := omega) only [go_sem]); rintro _ _ ⟨rfl, rfl⟩)
        | ((with_reducible first | refine gDt ?_ ?_ | refine gDf ?_ ?_ | refine gNt ?_ ?_ | refine gNf ?_ ?_ | refine cD ?_ ?_ | refine cN ?_ ?_ | refine cB ?_ ?_ | refine gB ?_ ?_) <;> intro h)
        | with_reducible first | refine And.intro ?_ ?_ | refine J_seq ?_ | refine J_block ?_ | refine J_inBlock ?_ | refine rC ?_ | refine rR ?_ | refine rE ?_ | refine rG ?_ | refine FinQ.now ?_ | refine FinQ.end ?_)))
  · rw [decide_eq_false h400] at cf
    refine holds_of Tryz.func3 rfl rfl ?_
    refine J_run 200 ?_
    delta Tryz.f3
    iterate 20 (all_goals (try (first
      | (simp (maxSteps := 1000000) (disch := omega) only [go_sem])
      | ((with_reducible refine CallA.pure ca ?_ ?_); (· simp (disch := omega) only [go_sem]); rintro _ _ ⟨rfl, rfl⟩)
      | ((with_reducible refine CallA.pure cf ?_ ?_); (· simp (disch := omega) only [go_sem]); rintro _ _ ⟨rfl, rfl⟩)
      | ((with_reducible first | refine gDt ?_ ?_ | refine gDf ?_ ?_ | refine gNt ?_ ?_ | refine gNf ?_ ?_ | refine cD ?_ ?_ | refine cN ?_ ?_ | refine cB ?_ ?_ | refine gB ?_ ?_) <;> intro h)
      | with_reducible first | refine And.intro ?_ ?_ | refine J_seq ?_ | refine J_block ?_ | refine J_inBlock ?_ | refine rC ?_ | refine rR ?_ | refine rE ?_ | refine rG ?_ | refine FinQ.now ?_ | refine FinQ.end ?_)))
theorem earthingAnswers_av (x0 : (Sh.slice (.int .i64)).Den) (o0 : (Sh.slice (.int .i64)).Ok x0) (x1 : (Sh.slice (.int .i64)).Den) (o1 : (Sh.slice (.int .i64)).Ok x1) (x2 : (Sh.slice (.int .i64)).Den) (o2 : (Sh.slice (.int .i64)).Ok x2) (x3 : shNet.Den) (o3 : shNet.Ok x3) (x4 : (Sh.slice shLk).Den) (o4 : (Sh.slice shLk).Ok x4) :
    Fn1 Tryz.prog GT0 3 [(Sh.slice (.int .i64)).av x0, (Sh.slice (.int .i64)).av x1, (Sh.slice (.int .i64)).av x2, shNet.av x3, (Sh.slice shLk).av x4] (.raw (.bool true)) [] := by
  rw [net_av, locks_av]
  exact earthingAnswers x0 x1 x2 (netOf x3) (locksOf x4) (nums_ok o0) (nums_ok o1).len (nums_ok o2).len (net_sized o3) (locks_len o4)
end Go.Proofs.YthgcmeniecaemaaGreatDoor.Abs
