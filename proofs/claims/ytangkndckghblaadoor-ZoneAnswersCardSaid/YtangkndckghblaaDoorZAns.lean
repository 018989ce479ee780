/- ZoneAnswers, walked: it returns true. -/
import Derived.Test.YtangkndckghblaaDoorRX
import Derived.Test.YtangkndckghblaaDoorR3
import Derived.Test.YtangkndckghblaaDoorMC
import Derived.Test.YtangkndckghblaaDoorMD
import Derived.Test.YtangkndckghblaaDoorZMore
import Derived.Test.YtangkndckghblaaDoorPlansC
import Derived.Test.YtangkndckghblaaDoorAbsS
import Derived.Test.YtangkndckghblaaDoorZShp
namespace Go.Proofs.YtangkndckghblaaDoor.Abs
set_option linter.unusedSimpArgs false
set_option linter.unusedVariables false
set_option maxRecDepth 100000
open Go Go.RowKit

def encL (l : List Int) : List AV := [.lst 1 (l.map encN)]
def encLL (l : List Lk) : List AV := [.lst 3 (l.map encLk)]
theorem reg_le {n : Net} {z g : List Int} : (regionR n z g).1.length ≤ n.nodes.length := by
  unfold regionR
  split
  · simp
  · exact regLen
theorem pts_le {n : Net} {l : List Lk} {z : List Int} : (pointsR n l z).1.length ≤ n.devs.length := by
  unfold pointsR
  split
  · simp
  · exact Nat.le_trans (List.length_filter_le _ _) gapsOf_len
theorem zoneW (d : Dk) (hd : d.ok) (n : Net) (h1 : 1 ≤ n.nodes.length) (h32 : n.nodes.length ≤ 32) : Holds Tryd.prog GT0 13 [.ref 0 0, .agg (encNet n)] [.box (encDk d)] (DrawnList 32) :=
  (zoneD d hd n h1 h32).mono fun r os ⟨z, d', h2, h3, h4, h5, h6⟩ => ⟨z, d', h2, by have := rising_len (by omega) h4; omega, h5, h6⟩
theorem light_len {n : Net} (h : lightB n = true) : n.nodes.length ≤ 100 ∧ n.devs.length ≤ 200 := by
  simp only [lightB, decide_eq_true_eq] at h
  omega
set_option maxHeartbeats 16000000 in
theorem zoneAnswers (l raw gaps : List Int) (odd : Net) (locks : List Lk) (hl : NumsOk l) (hrw : raw.length ≤ 9223372036854775807) (hgp : gaps.length ≤ 9223372036854775807) (ho : odd.sized) (hlk : locks.length ≤ 9223372036854775807) :
    Fn1 Tryd.prog GT0 7 [.lst 1 (l.map encN), .lst 1 (raw.map encN), .lst 1 (gaps.map encN), .agg (encNet odd), .lst 3 (locks.map encLk)] (.raw (.bool true)) [] := by
  have ca := awake15
  have cf := few l hl.len
  have cL := lightF odd ho
  by_cases h400 : l.length ≤ 400
  · rw [decide_eq_true h400] at cf
    by_cases hr60 : 60 < raw.length
    · refine holds_of Tryd.func7 rfl rfl ?_
      refine J_run 200 ?_
      delta Tryd.f7
      iterate 30 (all_goals (try (first
        | (exfalso; omega)
        | (simp (maxSteps := 1000000) (disch := omega) only [go_sem])
        | ((with_reducible refine CallA.pure ca ?_ ?_); (· simp (disch := omega) only [go_sem]); rintro _ _ ⟨rfl, rfl⟩)
        | ((with_reducible refine CallA.pure cf ?_ ?_); (· simp (disch := omega) only [go_sem]); rintro _ _ ⟨rfl, rfl⟩)
        | ((with_reducible first | refine gDt ?_ ?_ | refine gDf ?_ ?_ | refine gNt ?_ ?_ | refine gNf ?_ ?_ | refine cD ?_ ?_ | refine cN ?_ ?_ | refine cB ?_ ?_ | refine gB ?_ ?_) <;> intro h)
        | with_reducible first | refine And.intro ?_ ?_ | refine J_seq ?_ | refine J_block ?_ | refine J_inBlock ?_ | refine rC ?_ | refine rR ?_ | refine rE ?_ | refine rG ?_ | refine FinQ.now ?_ | refine FinQ.end ?_)))
    by_cases hg60 : 60 < gaps.length
    · refine holds_of Tryd.func7 rfl rfl ?_
      refine J_run 200 ?_
      delta Tryd.f7
      iterate 30 (all_goals (try (first
        | (exfalso; omega)
        | (simp (maxSteps := 1000000) (disch := omega) only [go_sem])
        | ((with_reducible refine CallA.pure ca ?_ ?_); (· simp (disch := omega) only [go_sem]); rintro _ _ ⟨rfl, rfl⟩)
        | ((with_reducible refine CallA.pure cf ?_ ?_); (· simp (disch := omega) only [go_sem]); rintro _ _ ⟨rfl, rfl⟩)
        | ((with_reducible first | refine gDt ?_ ?_ | refine gDf ?_ ?_ | refine gNt ?_ ?_ | refine gNf ?_ ?_ | refine cD ?_ ?_ | refine cN ?_ ?_ | refine cB ?_ ?_ | refine gB ?_ ?_) <;> intro h)
        | with_reducible first | refine And.intro ?_ ?_ | refine J_seq ?_ | refine J_block ?_ | refine J_inBlock ?_ | refine rC ?_ | refine rR ?_ | refine rE ?_ | refine rG ?_ | refine FinQ.now ?_ | refine FinQ.end ?_)))
    obtain ⟨bl, hbl⟩ : ∃ b, lightB odd = b := ⟨_, rfl⟩
    rw [hbl] at cL
    cases bl with
    | false =>
      refine holds_of Tryd.func7 rfl rfl ?_
      refine J_run 200 ?_
      delta Tryd.f7
      simp only [encNet] at cL ⊢
      iterate 30 (all_goals (try (first
        | (exfalso; omega)
        | (simp (maxSteps := 1000000) (disch := omega) only [go_sem])
        | ((with_reducible refine CallA.pure ca ?_ ?_); (· simp (disch := omega) only [go_sem]); rintro _ _ ⟨rfl, rfl⟩)
        | ((with_reducible refine CallA.pure cf ?_ ?_); (· simp (disch := omega) only [go_sem]); rintro _ _ ⟨rfl, rfl⟩)
        | ((with_reducible refine CallA.pure cL ?_ ?_); (· simp (disch := omega) only [go_sem]); rintro _ _ ⟨rfl, rfl⟩)
        | ((with_reducible first | refine gDt ?_ ?_ | refine gDf ?_ ?_ | refine gNt ?_ ?_ | refine gNf ?_ ?_ | refine cD ?_ ?_ | refine cN ?_ ?_ | refine cB ?_ ?_ | refine gB ?_ ?_) <;> intro h)
        | with_reducible first | refine And.intro ?_ ?_ | refine J_seq ?_ | refine J_block ?_ | refine J_inBlock ?_ | refine rC ?_ | refine rR ?_ | refine rE ?_ | refine rG ?_ | refine FinQ.now ?_ | refine FinQ.end ?_)))
    | true =>
    by_cases hk140 : 140 < locks.length
    · refine holds_of Tryd.func7 rfl rfl ?_
      refine J_run 200 ?_
      delta Tryd.f7
      simp only [encNet] at cL ⊢
      iterate 30 (all_goals (try (first
        | (exfalso; omega)
        | (simp (maxSteps := 1000000) (disch := omega) only [go_sem])
        | ((with_reducible refine CallA.pure ca ?_ ?_); (· simp (disch := omega) only [go_sem]); rintro _ _ ⟨rfl, rfl⟩)
        | ((with_reducible refine CallA.pure cf ?_ ?_); (· simp (disch := omega) only [go_sem]); rintro _ _ ⟨rfl, rfl⟩)
        | ((with_reducible refine CallA.pure cL ?_ ?_); (· simp (disch := omega) only [go_sem]); rintro _ _ ⟨rfl, rfl⟩)
        | ((with_reducible first | refine gDt ?_ ?_ | refine gDf ?_ ?_ | refine gNt ?_ ?_ | refine gNf ?_ ?_ | refine cD ?_ ?_ | refine cN ?_ ?_ | refine cB ?_ ?_ | refine gB ?_ ?_) <;> intro h)
        | with_reducible first | refine And.intro ?_ ?_ | refine J_seq ?_ | refine J_block ?_ | refine J_inBlock ?_ | refine rC ?_ | refine rR ?_ | refine rE ?_ | refine rG ?_ | refine FinQ.now ?_ | refine FinQ.end ?_)))
    have hlight := light_len hbl
    have cn := newDeck l
    have cw := networkD _ hl.deck 7 12 (by omega) (by omega)
    refine holds_of Tryd.func7 rfl rfl ?_
    refine J_run 200 ?_
    delta Tryd.f7
    simp only [encNet] at cL ⊢
    iterate 24 (all_goals (try (first
      | (simp (maxSteps := 1000000) (disch := omega) only [go_sem])
      | ((with_reducible refine CallA.pure cf ?_ ?_); (· simp (disch := omega) only [go_sem]); rintro _ _ ⟨rfl, rfl⟩)
      | ((with_reducible refine CallA.pure cL ?_ ?_); (· simp (disch := omega) only [go_sem]); rintro _ _ ⟨rfl, rfl⟩)
      | ((with_reducible refine CallA.pure cn ?_ ?_); (· simp (disch := omega) only [go_sem]); rintro _ _ ⟨rfl, rfl⟩)
      | ((with_reducible first | refine gDt ?_ ?_ | refine gDf ?_ ?_ | refine gNt ?_ ?_ | refine gNf ?_ ?_ | refine cD ?_ ?_ | refine cN ?_ ?_ | refine cB ?_ ?_ | refine gB ?_ ?_) <;> intro h)
      | with_reducible first | refine And.intro ?_ ?_ | refine J_seq ?_ | refine J_block ?_ | refine J_inBlock ?_ | refine rC ?_ | refine rR ?_ | refine rE ?_ | refine rG ?_ | refine FinQ.now ?_ | refine FinQ.end ?_)))
    refine CallA.mut [1] ?_ ?_ ?_ ?_ cw ?_
    · simp only [go_sem]
    · simp only [go_sem]
    · simp only [go_sem]
    · simp only [go_sem]
    rintro _ _ ⟨n, k, d1, hd1, hM, hk2, hk7, hdl, hd1', rfl, rfl⟩
    have hnl := hM.nl
    have hno := hM.ok (by omega) (by omega)
    have cs := fun (d : Dk) (hd : d.ok) => stateD d hd n (by omega)
    have cl := fun (d : Dk) (hd : d.ok) (st : List Int) (h : st.length = n.devs.length) => locksD d hd n hno st (by omega) 6 (by omega)
    have cz := fun (d : Dk) (hd : d.ok) => zoneD d hd n (by omega) (by omega)
    simp only [encNet] at cs cl cz ⊢
    iterate 3 (all_goals (try (first
      | (simp (maxSteps := 1000000) (disch := omega) only [go_sem])
      | ((with_reducible first | refine gDt ?_ ?_ | refine gDf ?_ ?_ | refine gNt ?_ ?_ | refine gNf ?_ ?_ | refine cD ?_ ?_ | refine cN ?_ ?_ | refine cB ?_ ?_ | refine gB ?_ ?_) <;> intro h)
      | with_reducible first | refine And.intro ?_ ?_ | refine J_seq ?_ | refine J_block ?_ | refine J_inBlock ?_ | refine rC ?_ | refine rR ?_ | refine rE ?_ | refine rG ?_ | refine FinQ.now ?_ | refine FinQ.end ?_)))
    refine J_mergeN 1 (upto 73 79) (fun x : List Lk × Dk => [(13, .lst 3 (x.1.map encLk))]) (fun x => [.box (encNet odd), .box (encDk x.2), .box (encNet n)]) (fun x => Locks n x.1 ∧ x.2.ok) ?_ ?_
    · simp only [go_sem]
      iterate 12 (all_goals (try (first
        | ((with_reducible refine J_draw (id := 5) 200 [4,5] plan7_5_4_5 (by kernel_rfl) (by kernel_rfl) ?_); delta plan7_5_4_5)
        | (simp (maxSteps := 1000000) (disch := omega) only [go_sem, take_lm])
        | ((with_reducible refine CallA.mut [1] ?_ ?_ ?_ ?_ (cs _ hd1) ?_); (· simp (disch := omega) only [go_sem, take_lm]); (· simp (disch := omega) only [go_sem, take_lm]); (· simp (disch := omega) only [go_sem, take_lm]); (· simp (disch := omega) only [go_sem, take_lm]); rintro _ _ ⟨st, d2, hd2, hst, _, rfl, rfl⟩)
        | ((with_reducible refine CallA.mutGive [1] [3] ?_ ?_ ?_ ?_ (cl _ hd2 st hst) ?_); (· simp (disch := omega) only [go_sem, take_lm]); (· simp (disch := omega) only [go_sem, take_lm]); (· simp (disch := omega) only [go_sem, take_lm]); (· simp (disch := omega) only [go_sem, take_lm]); rintro _ _ ⟨lk, d3, hd3, hL, rfl, rfl⟩)
        | ((with_reducible first | refine gDt ?_ ?_ | refine gDf ?_ ?_ | refine gNt ?_ ?_ | refine gNf ?_ ?_ | refine cD ?_ ?_ | refine cN ?_ ?_ | refine cB ?_ ?_ | refine gB ?_ ?_ | refine stepGuard_dect ?_ ?_ | refine stepGuard_decf ?_ ?_ | refine stepGuard_ndect ?_ ?_ | refine stepGuard_ndecf ?_ ?_ | refine stepGuard_by ?_ ?_) <;> intro h)
        | with_reducible first | refine And.intro ?_ ?_ | refine J_seq ?_ | refine J_block ?_ | refine J_inBlock ?_ | refine rC ?_ | refine rR ?_ | refine rE ?_ | refine rG ?_ | refine FinQ.now ?_ | refine FinQ.end ?_)))
      all_goals
        refine .mk (lk, d3) ⟨hL, hd3⟩ ?_ ?_
        · simp [go_sem, encNet]
        · simp
    rintro ⟨lk, d3⟩ ⟨hL, hd3⟩
    simp only [go_sem, encNet] at hL hd3 ⊢
    have hlk128 := hL.len
    refine J_run 200 ?_
    iterate 6 (all_goals (try (first
      | (simp (maxSteps := 1000000) (disch := omega) only [go_sem])
      | ((with_reducible first | refine gDt ?_ ?_ | refine gDf ?_ ?_ | refine gNt ?_ ?_ | refine gNf ?_ ?_ | refine cD ?_ ?_ | refine cN ?_ ?_ | refine cB ?_ ?_ | refine gB ?_ ?_) <;> intro h)
      | with_reducible first | refine And.intro ?_ ?_ | refine J_seq ?_ | refine J_block ?_ | refine J_inBlock ?_ | refine rC ?_ | refine rR ?_ | refine rE ?_ | refine rG ?_ | refine FinQ.now ?_ | refine FinQ.end ?_)))
    refine J_nilName 14 1 (by simp only [go_sem]) ?_
    simp only [go_sem]
    refine J_for ([15, 16] ++ upto 84 98) (fun x : Nat × List Int × Dk => [(82, .raw (.int .i64 x.1)), (14, .own 3 1 0 x.2.1.length)]) (fun x => [.box (encNet odd), .box (encDk x.2.2), .box (encNet n), .arr 1 (x.2.1.map encN)]) (fun x => x.1 ≤ n.devs.length ∧ x.2.1.length ≤ x.1 ∧ x.2.2.ok) (fun x => n.devs.length - x.1) (0, [], d3) ⟨by simp only; omega, by simp, hd3⟩ (.le (by simp [go_sem, encNet]) (by simp)) ?_
    rintro ⟨i, some_, d4⟩ ⟨hi, hsl, hd4⟩
    simp only [encNet] at hi hsl hd4 ⊢
    by_cases hlt : i < n.devs.length
    · have hdv := getD_Dv hlt
      have cg := refGap n.devs[i].kind
      cases hgk : gapK n.devs[i].kind with
      | false =>
        rw [hgk] at cg
        refine J_run 200 ?_
        iterate 14 (all_goals (try (first
          | (simp (maxSteps := 1000000) (disch := omega) only [go_sem, hdv])
          | ((with_reducible refine CallA.pure cg ?_ ?_); (· simp (disch := omega) only [go_sem, hdv]); rintro _ _ ⟨rfl, rfl⟩)
          | ((with_reducible first | refine gDt ?_ ?_ | refine gDf ?_ ?_ | refine gNt ?_ ?_ | refine gNf ?_ ?_ | refine cD ?_ ?_ | refine cN ?_ ?_ | refine cB ?_ ?_ | refine gB ?_ ?_) <;> intro h)
          | with_reducible first | refine And.intro ?_ ?_ | refine J_seq ?_ | refine J_block ?_ | refine J_inBlock ?_ | refine rC ?_ | refine rR ?_ | refine rE ?_ | refine rG ?_ | refine FinQ.now ?_ | refine FinQ.end ?_)))
        refine .mk (i + 1, some_, d4) ⟨by simp only; omega, by simp only; omega, hd4⟩ (by simp only; omega) ?_ ?_
        · simp [go_sem, encNet]
        · simp
      | true =>
        rw [hgk] at cg
        have co := fun (d : Dk) (hd : d.ok) => one d hd 2 (by decide)
        refine J_run 200 ?_
        iterate 20 (all_goals (try (first
          | (simp (maxSteps := 1000000) (disch := omega) only [go_sem, hdv])
          | ((with_reducible refine CallA.pure cg ?_ ?_); (· simp (disch := omega) only [go_sem, hdv]); rintro _ _ ⟨rfl, rfl⟩)
          | ((with_reducible refine CallA.mut [1] ?_ ?_ ?_ ?_ (co _ hd4) ?_); (· simp (disch := omega) only [go_sem, hdv]); (· simp (disch := omega) only [go_sem, hdv]); (· simp (disch := omega) only [go_sem, hdv]); (· simp (disch := omega) only [go_sem, hdv]); rintro _ _ ⟨(_|_), d5, hd5, rfl, rfl⟩)
          | ((with_reducible first | refine gDt ?_ ?_ | refine gDf ?_ ?_ | refine gNt ?_ ?_ | refine gNf ?_ ?_ | refine cD ?_ ?_ | refine cN ?_ ?_ | refine cB ?_ ?_ | refine gB ?_ ?_) <;> intro h)
          | with_reducible first | refine And.intro ?_ ?_ | refine J_seq ?_ | refine J_block ?_ | refine J_inBlock ?_ | refine rC ?_ | refine rR ?_ | refine rE ?_ | refine rG ?_ | refine FinQ.now ?_ | refine FinQ.end ?_)))
        · refine .mk (i + 1, some_, d5) ⟨by simp only; omega, by simp only; omega, hd5⟩ (by simp only; omega) ?_ ?_
          · simp [go_sem, encNet, encN]
          · simp
        · refine .mk (i + 1, some_ ++ [(i : Int)], d5) ⟨by simp only; omega, by simp; omega, hd5⟩ (by simp only; omega) ?_ ?_
          · simp [go_sem, encNet, encN]
          · simp
    have hie : i = n.devs.length := by omega
    subst hie
    refine J_run 200 ?_
    iterate 10 (all_goals (try (first
      | (simp (maxSteps := 1000000) (disch := omega) only [go_sem])
      | ((with_reducible first | refine gDt ?_ ?_ | refine gDf ?_ ?_ | refine gNt ?_ ?_ | refine gNf ?_ ?_ | refine cD ?_ ?_ | refine cN ?_ ?_ | refine cB ?_ ?_ | refine gB ?_ ?_) <;> intro h)
      | with_reducible first | refine And.intro ?_ ?_ | refine J_seq ?_ | refine J_block ?_ | refine J_inBlock ?_ | refine rC ?_ | refine rR ?_ | refine rE ?_ | refine rG ?_ | refine FinQ.now ?_ | refine FinQ.end ?_)))
    refine J_frz [3] ?_
    simp only [go_sem]
    refine J_frz [4] ?_
    simp only [go_sem]
    have htk : List.take some_.length (some_.map encN) = some_.map encN := take_lm
    simp only [htk]
    obtain ⟨nets, hnets⟩ : ∃ nets, [n, odd] = nets := ⟨_, rfl⟩
    have hnn : ∀ x, x ∈ nets → x.sized ∧ x.nodes.length ≤ 100 ∧ x.devs.length ≤ 200 := fun x hx => by
      rw [← hnets] at hx
      rcases List.mem_cons.1 hx with rfl | hx
      · exact ⟨hno.sized, by omega, by omega⟩
      · rw [List.mem_singleton.1 hx]; exact ⟨ho, by omega, by omega⟩
    have hn2 : nets.length = 2 := by rw [← hnets]; rfl
    refine J_for ([18, 20, 22, 23, 24, 25, 26, 27, 28, 29, 30, 32, 33, 34, 35, 36, 37, 38, 39, 40, 41, 42, 43, 44] ++ upto 104 269) (fun x : Nat × Dk => [(103, .raw (.int .i64 x.1)), (101, .lst 2 (nets.map encNet))]) (fun x => [.box (encNet odd), .box (encDk x.2), .box (encNet n)]) (fun x => x.1 ≤ 2 ∧ x.2.ok) (fun x => 2 - x.1) (0, d4) ⟨by simp only; omega, hd4⟩ (.le (by simp [go_sem, encNet, ← hnets]) (by simp)) ?_
    rintro ⟨a, d5⟩ ⟨ha, hd5⟩
    simp only [encNet] at ha hd5 ⊢
    by_cases ha2 : a < 2
    · have hxm := List.getElem_mem (l := nets) (n := a) (by omega)
      have hxg : (nets.map encNet).getD a [] = encNet (nets[a]'(by omega)) := getD_map (by omega)
      obtain ⟨x, hx⟩ : ∃ x, nets[a]'(by omega) = x := ⟨_, rfl⟩
      rw [hx] at hxm hxg
      obtain ⟨hxs, hxn, hxd⟩ := hnn x hxm
      simp only [encNet] at hxg
      refine J_run 200 ?_
      iterate 10 (all_goals (try (first
        | (simp (maxSteps := 1000000) (disch := omega) only [go_sem, hxg])
        | ((with_reducible first | refine gDt ?_ ?_ | refine gDf ?_ ?_ | refine gNt ?_ ?_ | refine gNf ?_ ?_ | refine cD ?_ ?_ | refine cN ?_ ?_ | refine cB ?_ ?_ | refine gB ?_ ?_) <;> intro h)
        | with_reducible first | refine And.intro ?_ ?_ | refine rG ?_ | refine FinQ.now ?_ | refine FinQ.end ?_)))
      have cz := fun (d : Dk) (hd : d.ok) => zoneW d hd n (by omega) (by omega)
      have cb := fun (d : Dk) (hd : d.ok) (l : List Int) (hl : l.length ≤ 1000) => bentD d hd l hl [-1, 0, 1, 6, 7] (by decide) (by decide)
      have cb2 := fun (d : Dk) (hd : d.ok) (l : List Int) (hl : l.length ≤ 1000) => bentD d hd l hl [-1, 0, 1, 2, 12] (by decide) (by decide)
      simp only [encNet] at cz
      simp only [List.map_cons, List.map_nil, encN] at cb cb2
      first | refine J_seq ?_ | skip
      refine J_mergeN 1 (upto 107 116) (fun x : List Int × List Int × Dk => [(117, .own 5 1 0 3), (118, .raw (.int .i64 3)), (119, .raw (.int .i64 0))]) (fun y => [.box (encNet odd), .box (encDk y.2.2), .box (encNet n), .box (encNet x), .dead, .arr 1 [encL y.1, encL raw, encL y.2.1]]) (fun y => y.1.length ≤ 32 ∧ y.2.1.length ≤ 33 ∧ y.2.2.ok) ?_ ?_
      · simp only [go_sem]
        iterate 24 (all_goals (try (first
          | ((with_reducible refine J_draw (id := 16) 200 [2,7,9] plan7_16_2_7_9 (by kernel_rfl) (by kernel_rfl) ?_); delta plan7_16_2_7_9)
          | (simp (maxSteps := 1000000) (disch := omega) only [go_sem, List.take_succ_cons, List.take_zero])
          | ((with_reducible refine CallA.mut [1] ?_ ?_ ?_ ?_ (cz _ hd5) ?_); (· simp (disch := omega) only [go_sem, List.take_succ_cons, List.take_zero]); (· simp (disch := omega) only [go_sem, List.take_succ_cons, List.take_zero]); (· simp (disch := omega) only [go_sem, List.take_succ_cons, List.take_zero]); (· simp (disch := omega) only [go_sem, List.take_succ_cons, List.take_zero]); rintro _ _ ⟨za, da, hda, hzal, rfl, rfl⟩)
          | ((with_reducible refine CallA.mut [1] ?_ ?_ ?_ ?_ (cz _ hda) ?_); (· simp (disch := omega) only [go_sem, List.take_succ_cons, List.take_zero]); (· simp (disch := omega) only [go_sem, List.take_succ_cons, List.take_zero]); (· simp (disch := omega) only [go_sem, List.take_succ_cons, List.take_zero]); (· simp (disch := omega) only [go_sem, List.take_succ_cons, List.take_zero]); rintro _ _ ⟨zb, db, hdb, hzbl, rfl, rfl⟩)
          | ((with_reducible refine CallA.mut [1] ?_ ?_ ?_ ?_ (cz _ hdw) ?_); (· simp (disch := omega) only [go_sem, List.take_succ_cons, List.take_zero]); (· simp (disch := omega) only [go_sem, List.take_succ_cons, List.take_zero]); (· simp (disch := omega) only [go_sem, List.take_succ_cons, List.take_zero]); (· simp (disch := omega) only [go_sem, List.take_succ_cons, List.take_zero]); rintro _ _ ⟨zb, db, hdb, hzbl, rfl, rfl⟩)
          | ((with_reducible refine CallA.mutGive [1] [4] ?_ ?_ ?_ ?_ (cb _ hda za (by omega)) ?_); (· simp (disch := omega) only [go_sem, List.take_succ_cons, List.take_zero]); (· simp (disch := omega) only [go_sem, List.take_succ_cons, List.take_zero]); (· simp (disch := omega) only [go_sem, List.take_succ_cons, List.take_zero]); (· simp (disch := omega) only [go_sem, List.take_succ_cons, List.take_zero]); rintro _ _ ⟨w, dw, hdw, hwl, rfl, rfl⟩)
          | ((with_reducible refine CallA.mutGive [1] [4] ?_ ?_ ?_ ?_ (cb _ hdb zb (by omega)) ?_); (· simp (disch := omega) only [go_sem, List.take_succ_cons, List.take_zero]); (· simp (disch := omega) only [go_sem, List.take_succ_cons, List.take_zero]); (· simp (disch := omega) only [go_sem, List.take_succ_cons, List.take_zero]); (· simp (disch := omega) only [go_sem, List.take_succ_cons, List.take_zero]); rintro _ _ ⟨w, dw, hdw, hwl, rfl, rfl⟩)
          | ((with_reducible refine CallA.mutGive [1] [4] ?_ ?_ ?_ ?_ (cb _ hdb za (by omega)) ?_); (· simp (disch := omega) only [go_sem, List.take_succ_cons, List.take_zero]); (· simp (disch := omega) only [go_sem, List.take_succ_cons, List.take_zero]); (· simp (disch := omega) only [go_sem, List.take_succ_cons, List.take_zero]); (· simp (disch := omega) only [go_sem, List.take_succ_cons, List.take_zero]); rintro _ _ ⟨w, dw, hdw, hwl, rfl, rfl⟩)
          | ((with_reducible first | refine gDt ?_ ?_ | refine gDf ?_ ?_ | refine gNt ?_ ?_ | refine gNf ?_ ?_ | refine cD ?_ ?_ | refine cN ?_ ?_ | refine cB ?_ ?_ | refine gB ?_ ?_ | refine stepGuard_dect ?_ ?_ | refine stepGuard_decf ?_ ?_ | refine stepGuard_ndect ?_ ?_ | refine stepGuard_ndecf ?_ ?_ | refine stepGuard_by ?_ ?_) <;> intro h)
          | with_reducible first | refine And.intro ?_ ?_ | refine J_seq ?_ | refine J_block ?_ | refine J_inBlock ?_ | refine rC ?_ | refine rR ?_ | refine rE ?_ | refine rG ?_ | refine FinQ.now ?_ | refine FinQ.end ?_)))
        all_goals first
          | (refine MergeEnd.mk (za, w, dw) ⟨hzal, by simp only; omega, hdw⟩ ?_ ?_; (· simp [go_sem, encNet, encL]; done); (· simp; done))
          | (refine MergeEnd.mk (zb, w, dw) ⟨hzbl, by simp only; omega, hdw⟩ ?_ ?_; (· simp [go_sem, encNet, encL]; done); (· simp; done))
          | (refine MergeEnd.mk (zb, w, db) ⟨hzbl, by simp only; omega, hdb⟩ ?_ ?_; (· simp [go_sem, encNet, encL]; done); (· simp; done))
          | (refine MergeEnd.mk (za, w, db) ⟨hzal, by simp only; omega, hdb⟩ ?_ ?_; (· simp [go_sem, encNet, encL]; done); (· simp; done))
      rintro ⟨z1, w, d6⟩ ⟨hz1, hw, hd6⟩
      simp only [go_sem, encNet] at hz1 hw hd6 ⊢
      refine J_frz [5] ?_
      simp only [go_sem]
      obtain ⟨zs, hzs⟩ : ∃ zs, [z1, raw, w] = zs := ⟨_, rfl⟩
      have hzz : ∀ z, z ∈ zs → z.length ≤ 1000 := fun z hz => by
        rw [← hzs] at hz
        rcases List.mem_cons.1 hz with rfl | hz
        · omega
        rcases List.mem_cons.1 hz with rfl | hz
        · omega
        · rw [List.mem_singleton.1 hz]; omega
      have hz3 : zs.length = 3 := by rw [← hzs]; rfl
      refine J_run 200 ?_
      iterate 4 (all_goals (try (first
        | (simp (maxSteps := 1000000) (disch := omega) only [go_sem])
        | ((with_reducible first | refine gDt ?_ ?_ | refine gDf ?_ ?_ | refine gNt ?_ ?_ | refine gNf ?_ ?_ | refine cD ?_ ?_ | refine cN ?_ ?_ | refine cB ?_ ?_ | refine gB ?_ ?_) <;> intro h)
        | with_reducible first | refine And.intro ?_ ?_ | refine J_seq ?_ | refine J_block ?_ | refine J_inBlock ?_ | refine rC ?_ | refine rR ?_ | refine rE ?_ | refine rG ?_ | refine FinQ.now ?_ | refine FinQ.end ?_)))
      refine J_for ([20, 22, 23, 24, 25, 26, 27, 28, 29, 30, 32, 33, 34, 35, 36, 37, 38, 39, 40, 41, 42, 43, 44] ++ upto 120 267) (fun x : Nat × Dk => [(119, .raw (.int .i64 x.1)), (117, .lst 1 (zs.map encL))]) (fun y => [.box (encNet odd), .box (encDk y.2), .box (encNet n), .box (encNet x)]) (fun x => x.1 ≤ 3 ∧ x.2.ok) (fun x => 3 - x.1) (0, d6) ⟨by simp only; omega, hd6⟩ (.le (by simp [go_sem, encNet, ← hzs]) (by simp)) ?_
      rintro ⟨i, d7⟩ ⟨hi, hd7⟩
      simp only [encNet] at hi hd7 ⊢
      by_cases hi3 : i < 3
      · have hzm := List.getElem_mem (l := zs) (n := i) (by omega)
        have hzg : (zs.map encL).getD i [] = encL (zs[i]'(by omega)) := getD_map (by omega)
        obtain ⟨z, hz⟩ : ∃ z, zs[i]'(by omega) = z := ⟨_, rfl⟩
        rw [hz] at hzm hzg
        have hzl := hzz z hzm
        simp only [encL] at hzg
        have cZ1 := checkZ x hxs z (by omega)
        have cZ2 := rZone x hxs z (by omega)
        simp only [encNet] at cZ1 cZ2
        refine J_run 200 ?_
        iterate 30 (all_goals (try (first
          | ((with_reducible refine J_draw (id := 19) 200 [] plan7_19 (by kernel_rfl) (by kernel_rfl) ?_); delta plan7_19)
          | (simp (maxSteps := 1000000) (disch := omega) only [go_sem, List.take_succ_cons, List.take_zero, hzg, decide_true, ne_eq, not_true_eq_false, decide_false])
          | ((with_reducible refine CallA.pure cZ1 ?_ ?_); (· simp (disch := omega) only [go_sem, List.take_succ_cons, List.take_zero, hzg, decide_true, ne_eq, not_true_eq_false, decide_false]); rintro _ _ ⟨rfl, rfl⟩)
          | ((with_reducible refine CallA.pure cZ2 ?_ ?_); (· simp (disch := omega) only [go_sem, List.take_succ_cons, List.take_zero, hzg, decide_true, ne_eq, not_true_eq_false, decide_false]); rintro _ _ ⟨rfl, rfl⟩)
          | ((with_reducible refine CallA.mutGive [1] [4] ?_ ?_ ?_ ?_ (cb2 _ hd7 some_ (by omega)) ?_); (· simp (disch := omega) only [go_sem, List.take_succ_cons, List.take_zero, hzg, decide_true, ne_eq, not_true_eq_false, decide_false]); (· simp (disch := omega) only [go_sem, List.take_succ_cons, List.take_zero, hzg, decide_true, ne_eq, not_true_eq_false, decide_false]); (· simp (disch := omega) only [go_sem, List.take_succ_cons, List.take_zero, hzg, decide_true, ne_eq, not_true_eq_false, decide_false]); (· simp (disch := omega) only [go_sem, List.take_succ_cons, List.take_zero, hzg, decide_true, ne_eq, not_true_eq_false, decide_false]); rintro _ _ ⟨w2, d8, hd8, hw2, rfl, rfl⟩)
          | ((with_reducible first | refine gDt ?_ ?_ | refine gDf ?_ ?_ | refine gNt ?_ ?_ | refine gNf ?_ ?_ | refine cD ?_ ?_ | refine cN ?_ ?_ | refine cB ?_ ?_ | refine gB ?_ ?_ | refine stepGuard_dect ?_ ?_ | refine stepGuard_decf ?_ ?_ | refine stepGuard_ndect ?_ ?_ | refine stepGuard_ndecf ?_ ?_ | refine stepGuard_by ?_ ?_) <;> intro h)
          | with_reducible first | refine And.intro ?_ ?_ | refine J_seq ?_ | refine J_block ?_ | refine J_inBlock ?_ | refine rC ?_ | refine rR ?_ | refine rE ?_ | refine rG ?_ | refine FinQ.now ?_ | refine FinQ.end ?_)))
        refine J_frz [5] ?_
        simp only [go_sem]
        obtain ⟨ys, hys⟩ : ∃ ys, [some_, gaps, w2] = ys := ⟨_, rfl⟩
        have hyy : ∀ y, y ∈ ys → y.length ≤ 1000 := fun y hy => by
          rw [← hys] at hy
          rcases List.mem_cons.1 hy with rfl | hy
          · omega
          rcases List.mem_cons.1 hy with rfl | hy
          · omega
          · rw [List.mem_singleton.1 hy]; omega
        have hy3 : ys.length = 3 := by rw [← hys]; rfl
        refine J_for ([22, 23, 24, 25, 26, 27, 28, 29, 30] ++ upto 139 190) (fun j : Nat => [(138, .raw (.int .i64 j)), (136, .lst 1 (ys.map encL))]) (fun _ => [.box (encNet odd), .box (encDk d8), .box (encNet n), .box (encNet x)]) (fun j => j ≤ 3) (fun j => 3 - j) 0 (by omega) (.le (by simp [go_sem, encNet, ← hys, encL]) (by simp)) ?_
        intro j hj
        simp only [encNet]
        by_cases hj3 : j < 3
        · have hym := List.getElem_mem (l := ys) (n := j) (by omega)
          have hyg : (ys.map encL).getD j [] = encL (ys[j]'(by omega)) := getD_map (by omega)
          obtain ⟨y, hy⟩ : ∃ y, ys[j]'(by omega) = y := ⟨_, rfl⟩
          rw [hy] at hym hyg
          have hyl := hyy y hym
          simp only [encL] at hyg
          have cR1 := RegionF x hxs z y (by omega) (by omega)
          have cR2 := rRegion x hxs z y (by omega) (by omega)
          have cE1 := EnoughF x hxs z y (by omega) (by omega)
          have cE2 := rEnough x hxs z y (by omega) (by omega)
          have hrl := reg_le (n := x) (z := z) (g := y)
          have cI := ints (regionR x z y).1 (regionR x z y).1 (by omega) (by omega)
          rw [decide_eq_true rfl] at cI
          simp only [encNet] at cR1 cR2 cE1 cE2
          obtain ⟨rr, hrr⟩ : ∃ r, regionR x z y = r := ⟨_, rfl⟩
          obtain ⟨er, her⟩ : ∃ r, enoughR x z y = r := ⟨_, rfl⟩
          rw [hrr] at cR1 cR2 cI
          rw [her] at cE1 cE2
          obtain ⟨rl, re⟩ := rr
          obtain ⟨el, ee⟩ := er
          simp only at cR1 cR2 cE1 cE2 cI
          refine J_run 200 ?_
          iterate 30 (all_goals (try (first
            | (simp (maxSteps := 1000000) (disch := omega) only [go_sem, hyg, decide_true, ne_eq, not_true_eq_false, decide_false])
            | ((with_reducible refine CallA.pure cR1 ?_ ?_); (· simp (disch := omega) only [go_sem, hyg, decide_true, ne_eq, not_true_eq_false, decide_false]); rintro _ _ ⟨rfl, rfl⟩)
            | ((with_reducible refine CallA.pure cR2 ?_ ?_); (· simp (disch := omega) only [go_sem, hyg, decide_true, ne_eq, not_true_eq_false, decide_false]); rintro _ _ ⟨rfl, rfl⟩)
            | ((with_reducible refine CallA.pure cE1 ?_ ?_); (· simp (disch := omega) only [go_sem, hyg, decide_true, ne_eq, not_true_eq_false, decide_false]); rintro _ _ ⟨rfl, rfl⟩)
            | ((with_reducible refine CallA.pure cE2 ?_ ?_); (· simp (disch := omega) only [go_sem, hyg, decide_true, ne_eq, not_true_eq_false, decide_false]); rintro _ _ ⟨rfl, rfl⟩)
            | ((with_reducible refine CallA.pure cI ?_ ?_); (· simp (disch := omega) only [go_sem, hyg, decide_true, ne_eq, not_true_eq_false, decide_false]); rintro _ _ ⟨rfl, rfl⟩)
            | ((with_reducible first | refine gDt ?_ ?_ | refine gDf ?_ ?_ | refine gNt ?_ ?_ | refine gNf ?_ ?_ | refine cD ?_ ?_ | refine cN ?_ ?_ | refine cB ?_ ?_ | refine gB ?_ ?_) <;> intro h)
            | with_reducible first | refine And.intro ?_ ?_ | refine J_seq ?_ | refine J_block ?_ | refine J_inBlock ?_ | refine rC ?_ | refine rR ?_ | refine rE ?_ | refine rG ?_ | refine FinQ.now ?_ | refine FinQ.end ?_)))
          refine .mk (j + 1) hj3 (by omega) ?_ ?_
          · simp [go_sem, encNet]
          · simp
        · refine J_run 200 ?_
          iterate 10 (all_goals (try (first
            | (simp (maxSteps := 1000000) (disch := omega) only [go_sem])
            | ((with_reducible first | refine gDt ?_ ?_ | refine gDf ?_ ?_ | refine gNt ?_ ?_ | refine gNf ?_ ?_ | refine cD ?_ ?_ | refine cN ?_ ?_ | refine cB ?_ ?_ | refine gB ?_ ?_) <;> intro h)
            | with_reducible first | refine And.intro ?_ ?_ | refine J_seq ?_ | refine J_block ?_ | refine J_inBlock ?_ | refine rC ?_ | refine rR ?_ | refine rE ?_ | refine rG ?_ | refine FinQ.now ?_ | refine FinQ.end ?_)))
          refine J_frz [4] ?_
          simp only [go_sem]
          obtain ⟨ks, hks⟩ : ∃ ks, [lk, locks] = ks := ⟨_, rfl⟩
          have hkk : ∀ y, y ∈ ks → y.length ≤ 1000 := fun y hy => by
            rw [← hks] at hy
            rcases List.mem_cons.1 hy with rfl | hy
            · omega
            · rw [List.mem_singleton.1 hy]; omega
          have hk2 : ks.length = 2 := by rw [← hks]; rfl
          refine J_for ([32, 33, 34, 35, 36, 37, 38, 39, 40] ++ upto 195 246) (fun j : Nat => [(194, .raw (.int .i64 j)), (192, .lst 1 (ks.map encLL))]) (fun _ => [.box (encNet odd), .box (encDk d8), .box (encNet n), .box (encNet x)]) (fun j => j ≤ 2) (fun j => 2 - j) 0 (by omega) (.le (by simp [go_sem, encNet, ← hks, encLL]) (by simp)) ?_
          intro m hm
          simp only [encNet]
          by_cases hm2 : m < 2
          · have hym := List.getElem_mem (l := ks) (n := m) (by omega)
            have hyg : (ks.map encLL).getD m [] = encLL (ks[m]'(by omega)) := getD_map (by omega)
            obtain ⟨y, hy⟩ : ∃ y, ks[m]'(by omega) = y := ⟨_, rfl⟩
            rw [hy] at hym hyg
            have hyl := hkk y hym
            simp only [encLL] at hyg
            have cR1 := pointsF x hxs y (by omega) z (by omega)
            have cR2 := rPoints x hxs y (by omega) z (by omega)
            have cE1 := isolatedF x hxs y (by omega) z (by omega)
            have cE2 := rIsolated x hxs y (by omega) z (by omega)
            have hrl := pts_le (n := x) (l := y) (z := z)
            have cI := ints (pointsR x y z).1 (pointsR x y z).1 (by omega) (by omega)
            rw [decide_eq_true rfl] at cI
            simp only [encNet] at cR1 cR2 cE1 cE2
            obtain ⟨rr, hrr⟩ : ∃ r, pointsR x y z = r := ⟨_, rfl⟩
            obtain ⟨er, her⟩ : ∃ r, isolatedR x y z = r := ⟨_, rfl⟩
            rw [hrr] at cR1 cR2 cI
            rw [her] at cE1 cE2
            obtain ⟨rl, re⟩ := rr
            obtain ⟨el, ee⟩ := er
            simp only at cR1 cR2 cE1 cE2 cI
            refine J_run 200 ?_
            iterate 30 (all_goals (try (first
              | (simp (maxSteps := 1000000) (disch := omega) only [go_sem, hyg, decide_true, ne_eq, not_true_eq_false, decide_false])
              | ((with_reducible refine CallA.pure cR1 ?_ ?_); (· simp (disch := omega) only [go_sem, hyg, decide_true, ne_eq, not_true_eq_false, decide_false]); rintro _ _ ⟨rfl, rfl⟩)
              | ((with_reducible refine CallA.pure cR2 ?_ ?_); (· simp (disch := omega) only [go_sem, hyg, decide_true, ne_eq, not_true_eq_false, decide_false]); rintro _ _ ⟨rfl, rfl⟩)
              | ((with_reducible refine CallA.pure cE1 ?_ ?_); (· simp (disch := omega) only [go_sem, hyg, decide_true, ne_eq, not_true_eq_false, decide_false]); rintro _ _ ⟨rfl, rfl⟩)
              | ((with_reducible refine CallA.pure cE2 ?_ ?_); (· simp (disch := omega) only [go_sem, hyg, decide_true, ne_eq, not_true_eq_false, decide_false]); rintro _ _ ⟨rfl, rfl⟩)
              | ((with_reducible refine CallA.pure cI ?_ ?_); (· simp (disch := omega) only [go_sem, hyg, decide_true, ne_eq, not_true_eq_false, decide_false]); rintro _ _ ⟨rfl, rfl⟩)
              | ((with_reducible first | refine gDt ?_ ?_ | refine gDf ?_ ?_ | refine gNt ?_ ?_ | refine gNf ?_ ?_ | refine cD ?_ ?_ | refine cN ?_ ?_ | refine cB ?_ ?_ | refine gB ?_ ?_) <;> intro h)
              | with_reducible first | refine And.intro ?_ ?_ | refine J_seq ?_ | refine J_block ?_ | refine J_inBlock ?_ | refine rC ?_ | refine rR ?_ | refine rE ?_ | refine rG ?_ | refine FinQ.now ?_ | refine FinQ.end ?_)))
            refine .mk (m + 1) hm2 (by omega) ?_ ?_
            · simp [go_sem, encNet]
            · simp
          · have cR1 := NearestF x hxs z (by omega)
            have cR2 := rNearest x hxs z (by omega)
            have hrl := near_len (n := x) (z := z)
            have cI := ints (nearestR x z).1 (nearestR x z).1 (by omega) (by omega)
            rw [decide_eq_true rfl] at cI
            simp only [encNet] at cR1 cR2
            obtain ⟨rr, hrr⟩ : ∃ r, nearestR x z = r := ⟨_, rfl⟩
            rw [hrr] at cR1 cR2 cI
            obtain ⟨rl, re⟩ := rr
            simp only at cR1 cR2 cI
            refine J_run 200 ?_
            iterate 30 (all_goals (try (first
              | (simp (maxSteps := 1000000) (disch := omega) only [go_sem, decide_true, ne_eq, not_true_eq_false, decide_false])
              | ((with_reducible refine CallA.pure cR1 ?_ ?_); (· simp (disch := omega) only [go_sem, decide_true, ne_eq, not_true_eq_false, decide_false]); rintro _ _ ⟨rfl, rfl⟩)
              | ((with_reducible refine CallA.pure cR2 ?_ ?_); (· simp (disch := omega) only [go_sem, decide_true, ne_eq, not_true_eq_false, decide_false]); rintro _ _ ⟨rfl, rfl⟩)
              | ((with_reducible refine CallA.pure cI ?_ ?_); (· simp (disch := omega) only [go_sem, decide_true, ne_eq, not_true_eq_false, decide_false]); rintro _ _ ⟨rfl, rfl⟩)
              | ((with_reducible first | refine gDt ?_ ?_ | refine gDf ?_ ?_ | refine gNt ?_ ?_ | refine gNf ?_ ?_ | refine cD ?_ ?_ | refine cN ?_ ?_ | refine cB ?_ ?_ | refine gB ?_ ?_) <;> intro h)
              | with_reducible first | refine And.intro ?_ ?_ | refine J_seq ?_ | refine J_block ?_ | refine J_inBlock ?_ | refine rC ?_ | refine rR ?_ | refine rE ?_ | refine rG ?_ | refine FinQ.now ?_ | refine FinQ.end ?_)))
            refine .mk (i + 1, d8) ⟨by simp only; omega, hd8⟩ (by simp only; omega) ?_ ?_
            · simp [go_sem, encNet]
            · simp
      · refine J_run 200 ?_
        iterate 10 (all_goals (try (first
          | (simp (maxSteps := 1000000) (disch := omega) only [go_sem])
          | ((with_reducible first | refine gDt ?_ ?_ | refine gDf ?_ ?_ | refine gNt ?_ ?_ | refine gNf ?_ ?_ | refine cD ?_ ?_ | refine cN ?_ ?_ | refine cB ?_ ?_ | refine gB ?_ ?_) <;> intro h)
          | with_reducible first | refine And.intro ?_ ?_ | refine J_seq ?_ | refine J_block ?_ | refine J_inBlock ?_ | refine rC ?_ | refine rR ?_ | refine rE ?_ | refine rG ?_ | refine FinQ.now ?_ | refine FinQ.end ?_)))
        refine .mk (a + 1, d7) ⟨by simp only; omega, hd7⟩ (by simp only; omega) ?_ ?_
        · simp [go_sem, encNet]
        · simp
    · refine J_run 200 ?_
      iterate 20 (all_goals (try (first
        | (simp (maxSteps := 1000000) (disch := omega) only [go_sem])
        | ((with_reducible refine CallA.pure ca ?_ ?_); (· simp (disch := omega) only [go_sem]); rintro _ _ ⟨rfl, rfl⟩)
        | ((with_reducible first | refine gDt ?_ ?_ | refine gDf ?_ ?_ | refine gNt ?_ ?_ | refine gNf ?_ ?_ | refine cD ?_ ?_ | refine cN ?_ ?_ | refine cB ?_ ?_ | refine gB ?_ ?_) <;> intro h)
        | with_reducible first | refine And.intro ?_ ?_ | refine J_seq ?_ | refine J_block ?_ | refine J_inBlock ?_ | refine rC ?_ | refine rR ?_ | refine rE ?_ | refine rG ?_ | refine FinQ.now ?_ | refine FinQ.end ?_)))
  · rw [decide_eq_false h400] at cf
    refine holds_of Tryd.func7 rfl rfl ?_
    refine J_run 200 ?_
    delta Tryd.f7
    iterate 20 (all_goals (try (first
      | (simp (maxSteps := 1000000) (disch := omega) only [go_sem])
      | ((with_reducible refine CallA.pure ca ?_ ?_); (· simp (disch := omega) only [go_sem]); rintro _ _ ⟨rfl, rfl⟩)
      | ((with_reducible refine CallA.pure cf ?_ ?_); (· simp (disch := omega) only [go_sem]); rintro _ _ ⟨rfl, rfl⟩)
      | ((with_reducible first | refine gDt ?_ ?_ | refine gDf ?_ ?_ | refine gNt ?_ ?_ | refine gNf ?_ ?_ | refine cD ?_ ?_ | refine cN ?_ ?_ | refine cB ?_ ?_ | refine gB ?_ ?_) <;> intro h)
      | with_reducible first | refine And.intro ?_ ?_ | refine J_seq ?_ | refine J_block ?_ | refine J_inBlock ?_ | refine rC ?_ | refine rR ?_ | refine rE ?_ | refine rG ?_ | refine FinQ.now ?_ | refine FinQ.end ?_)))
theorem zoneAnswers_av (x0 : (Sh.slice (.int .i64)).Den) (o0 : (Sh.slice (.int .i64)).Ok x0) (x1 : (Sh.slice (.int .i64)).Den) (o1 : (Sh.slice (.int .i64)).Ok x1) (x2 : (Sh.slice (.int .i64)).Den) (o2 : (Sh.slice (.int .i64)).Ok x2) (x3 : shNet.Den) (o3 : shNet.Ok x3) (x4 : (Sh.slice shLk).Den) (o4 : (Sh.slice shLk).Ok x4) :
    Fn1 Tryd.prog GT0 7 [(Sh.slice (.int .i64)).av x0, (Sh.slice (.int .i64)).av x1, (Sh.slice (.int .i64)).av x2, shNet.av x3, (Sh.slice shLk).av x4] (.raw (.bool true)) [] := by
  rw [net_av, locks_av]
  exact zoneAnswers x0 x1 x2 (netOf x3) (locksOf x4) (nums_ok o0) (nums_ok o1).len (nums_ok o2).len (net_sized o3) (locks_len o4)
end Go.Proofs.YtangkndckghblaaDoor.Abs
