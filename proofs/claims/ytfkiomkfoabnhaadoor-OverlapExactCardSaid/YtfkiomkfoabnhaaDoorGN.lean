/- OverlapExact, walked: it returns true. -/
import Derived.Test.YtfkiomkfoabnhaaDoorGE
import Derived.Test.YtfkiomkfoabnhaaDoorGCR
import Derived.Test.YtfkiomkfoabnhaaDoorFE
import Derived.Test.YtfkiomkfoabnhaaDoorGX
import Derived.Test.YtfkiomkfoabnhaaDoorGS
import Derived.Test.YtfkiomkfoabnhaaDoorZNear
import Derived.Test.YtfkiomkfoabnhaaDoorPlansC
import Derived.Test.YtfkiomkfoabnhaaDoorAbsS
namespace Go.Proofs.YtfkiomkfoabnhaaDoor.Abs
set_option linter.unusedSimpArgs false
set_option linter.unusedVariables false
set_option maxRecDepth 100000
open Go Go.RowKit

theorem smallZ {n : Net} {x : Doc} (h : x.small n) : x.sized :=
  ⟨by have := h.zl; omega, by have := h.lk.len; omega, by have := h.cl; omega, by have := h.il; omega, by have := h.hl; omega⟩
theorem clashR_len {n : Net} {l : List Doc} {d : Doc} : (clashR n l d).1.length ≤ l.length := by
  unfold clashR
  split
  · simp
  · exact clashL_len
theorem bne_bool {b : Bool} : (!decide (b = b)) = false := by simp
theorem beq_bool {b : Bool} : decide (b = b) = true := by simp
set_option maxHeartbeats 32000000 in
theorem overlapExact (l : List Int) (hl : NumsOk l) (raw : Doc) (hr : raw.came) : Fn1 Tryd.prog GT0 7 [.lst 1 (l.map encN), .agg (encDoc raw)] (.raw (.bool true)) [] := by
  have ca := awake27
  have cf := few l hl.len
  have hr1 := hr.zl
  have hr2 := hr.ll
  have hr3 := hr.cl
  have hr4 := hr.il
  have hr5 := hr.hl
  by_cases h400 : l.length ≤ 400
  · have cn := newDeck l
    have hdk := hl.deck
    rw [decide_eq_true h400] at cf
    by_cases hz60 : raw.zone.length ≤ 60
    rotate_left
    · have hb : decide ((60 : Int) < (raw.zone.length : Int)) = true := decide_eq_true (by omega)
      refine holds_of Tryd.func7 rfl rfl ?_
      refine J_run 200 ?_
      delta Tryd.f7
      simp only [encDoc]
      repeat' (first
        | (simp (maxSteps := 1000000) (disch := omega) only [go_sem, hb])
        | ((with_reducible refine CallA.pure ca ?_ ?_); (· simp (disch := omega) only [go_sem, hb]); rintro _ _ ⟨rfl, rfl⟩)
        | ((with_reducible refine CallA.pure cf ?_ ?_); (· simp (disch := omega) only [go_sem, hb]); rintro _ _ ⟨rfl, rfl⟩)
        | ((with_reducible first | refine gDt ?_ ?_ | refine gDf ?_ ?_ | refine gNt ?_ ?_ | refine gNf ?_ ?_ | refine cD ?_ ?_ | refine cN ?_ ?_ | refine cB ?_ ?_ | refine gB ?_ ?_) <;> intro h)
        | with_reducible first | refine And.intro ?_ ?_ | refine J_seq ?_ | refine J_block ?_ | refine J_inBlock ?_ | refine rC ?_ | refine rR ?_ | refine rE ?_ | refine rG ?_ | refine FinQ.now ?_ | refine FinQ.end ?_)
    by_cases hl60 : raw.locks.length ≤ 60
    rotate_left
    · have hb0 : decide ((60 : Int) < (raw.zone.length : Int)) = false := decide_eq_false (by omega)
      have hb : decide ((60 : Int) < (raw.locks.length : Int)) = true := decide_eq_true (by omega)
      refine holds_of Tryd.func7 rfl rfl ?_
      refine J_run 200 ?_
      delta Tryd.f7
      simp only [encDoc]
      repeat' (first
        | (simp (maxSteps := 1000000) (disch := omega) only [go_sem, hb, hb0])
        | ((with_reducible refine CallA.pure ca ?_ ?_); (· simp (disch := omega) only [go_sem, hb, hb0]); rintro _ _ ⟨rfl, rfl⟩)
        | ((with_reducible refine CallA.pure cf ?_ ?_); (· simp (disch := omega) only [go_sem, hb, hb0]); rintro _ _ ⟨rfl, rfl⟩)
        | ((with_reducible first | refine gDt ?_ ?_ | refine gDf ?_ ?_ | refine gNt ?_ ?_ | refine gNf ?_ ?_ | refine cD ?_ ?_ | refine cN ?_ ?_ | refine cB ?_ ?_ | refine gB ?_ ?_) <;> intro h)
        | with_reducible first | refine And.intro ?_ ?_ | refine J_seq ?_ | refine J_block ?_ | refine J_inBlock ?_ | refine rC ?_ | refine rR ?_ | refine rE ?_ | refine rG ?_ | refine FinQ.now ?_ | refine FinQ.end ?_)
    have hb0 : decide ((60 : Int) < (raw.zone.length : Int)) = false := decide_eq_false (by omega)
    have hb1 : decide ((60 : Int) < (raw.locks.length : Int)) = false := decide_eq_false (by omega)
    by_cases hc60 : raw.certs.length ≤ 60
    rotate_left
    · have hb : decide ((60 : Int) < (raw.certs.length : Int)) = true := decide_eq_true (by omega)
      refine holds_of Tryd.func7 rfl rfl ?_
      refine J_run 200 ?_
      delta Tryd.f7
      simp only [encDoc]
      repeat' (first
        | (simp (maxSteps := 1000000) (disch := omega) only [go_sem, hb, hb0, hb1])
        | ((with_reducible refine CallA.pure ca ?_ ?_); (· simp (disch := omega) only [go_sem, hb, hb0, hb1]); rintro _ _ ⟨rfl, rfl⟩)
        | ((with_reducible refine CallA.pure cf ?_ ?_); (· simp (disch := omega) only [go_sem, hb, hb0, hb1]); rintro _ _ ⟨rfl, rfl⟩)
        | ((with_reducible first | refine gDt ?_ ?_ | refine gDf ?_ ?_ | refine gNt ?_ ?_ | refine gNf ?_ ?_ | refine cD ?_ ?_ | refine cN ?_ ?_ | refine cB ?_ ?_ | refine gB ?_ ?_) <;> intro h)
        | with_reducible first | refine And.intro ?_ ?_ | refine J_seq ?_ | refine J_block ?_ | refine J_inBlock ?_ | refine rC ?_ | refine rR ?_ | refine rE ?_ | refine rG ?_ | refine FinQ.now ?_ | refine FinQ.end ?_)
    have hb2 : decide ((60 : Int) < (raw.certs.length : Int)) = false := decide_eq_false (by omega)
    by_cases hs60 : 100 < IntKind.i64.wrap ((raw.iss.size : Int) + (raw.hol.size : Int))
    · have hb : decide (100 < IntKind.i64.wrap ((raw.iss.size : Int) + (raw.hol.size : Int))) = true := decide_eq_true hs60
      refine holds_of Tryd.func7 rfl rfl ?_
      refine J_run 200 ?_
      delta Tryd.f7
      simp only [encDoc]
      repeat' (first
        | (simp (maxSteps := 1000000) (disch := omega) only [go_sem, hb, hb0, hb1, hb2])
        | ((with_reducible refine CallA.pure ca ?_ ?_); (· simp (disch := omega) only [go_sem, hb, hb0, hb1, hb2]); rintro _ _ ⟨rfl, rfl⟩)
        | ((with_reducible refine CallA.pure cf ?_ ?_); (· simp (disch := omega) only [go_sem, hb, hb0, hb1, hb2]); rintro _ _ ⟨rfl, rfl⟩)
        | ((with_reducible first | refine gDt ?_ ?_ | refine gDf ?_ ?_ | refine gNt ?_ ?_ | refine gNf ?_ ?_ | refine cD ?_ ?_ | refine cN ?_ ?_ | refine cB ?_ ?_ | refine gB ?_ ?_) <;> intro h)
        | with_reducible first | refine And.intro ?_ ?_ | refine J_seq ?_ | refine J_block ?_ | refine J_inBlock ?_ | refine rC ?_ | refine rR ?_ | refine rE ?_ | refine rG ?_ | refine FinQ.now ?_ | refine FinQ.end ?_)
    have hb3 : decide (100 < IntKind.i64.wrap ((raw.iss.size : Int) + (raw.hol.size : Int))) = false := decide_eq_false hs60
    have hrs : raw.sized := ⟨by omega, by omega, by omega, hr4, hr5⟩
    refine holds_of Tryd.func7 rfl rfl ?_
    refine J_run 200 ?_
    delta Tryd.f7
    simp only [encDoc]
    repeat' (first
      | (simp (maxSteps := 1000000) (disch := omega) only [go_sem, hb0, hb1, hb2, hb3])
      | ((with_reducible refine CallA.pure ca ?_ ?_); (· simp (disch := omega) only [go_sem, hb0, hb1, hb2, hb3]); rintro _ _ ⟨rfl, rfl⟩)
      | ((with_reducible refine CallA.pure cf ?_ ?_); (· simp (disch := omega) only [go_sem, hb0, hb1, hb2, hb3]); rintro _ _ ⟨rfl, rfl⟩)
      | ((with_reducible refine CallA.pure cn ?_ ?_); (· simp (disch := omega) only [go_sem, hb0, hb1, hb2, hb3]); rintro _ _ ⟨rfl, rfl⟩)
      | ((with_reducible first | refine gDt ?_ ?_ | refine gDf ?_ ?_ | refine gNt ?_ ?_ | refine gNf ?_ ?_ | refine cD ?_ ?_ | refine cN ?_ ?_ | refine cB ?_ ?_ | refine gB ?_ ?_) <;> intro h)
      | with_reducible first | refine And.intro ?_ ?_ | refine J_seq ?_ | refine J_block ?_ | refine J_inBlock ?_ | refine rC ?_ | refine rR ?_ | refine rE ?_ | refine rG ?_ | refine FinQ.now ?_ | refine FinQ.end ?_)
    refine CallA.mut [1] ?_ ?_ ?_ ?_ (tieD _ hdk) ?_
    · simp only [go_sem, Nat.reduceLT]
    · simp only [go_sem, Nat.reduceLT]
    · simp only [go_sem, Nat.reduceLT]
    · simp only [go_sem, Nat.reduceLT]
    rintro _ _ ⟨n, st, d1, hd1, hno, hn6, hv1, hv10, hst, hst12, rfl, rfl⟩
    have cl := listD d1 hd1 n hno (by omega) (by omega)
    simp only [encNet] at cl ⊢
    repeat' (first
      | (simp (maxSteps := 1000000) (disch := omega) only [go_sem, Nat.reduceLT])
      | ((with_reducible refine CallA.mut [1] ?_ ?_ ?_ ?_ cl ?_); (· simp (disch := omega) only [go_sem, Nat.reduceLT]); (· simp (disch := omega) only [go_sem, Nat.reduceLT]); (· simp (disch := omega) only [go_sem, Nat.reduceLT]); (· simp (disch := omega) only [go_sem, Nat.reduceLT]); rintro _ _ ⟨L, d2, hd2, hL4, hsm, rfl, rfl⟩)
      | ((with_reducible first | refine gDt ?_ ?_ | refine gDf ?_ ?_ | refine gNt ?_ ?_ | refine gNf ?_ ?_ | refine cD ?_ ?_ | refine cN ?_ ?_ | refine cB ?_ ?_ | refine gB ?_ ?_) <;> intro h)
      | with_reducible first | refine And.intro ?_ ?_ | refine J_seq ?_ | refine J_block ?_ | refine J_inBlock ?_ | refine rC ?_ | refine rR ?_ | refine rE ?_ | refine rG ?_ | refine FinQ.now ?_ | refine FinQ.end ?_)
    have cx := docD d2 hd2 n hno (by omega) (by omega)
    simp only [encNet] at cx
    refine CallA.mut [1] ?_ ?_ ?_ ?_ cx ?_
    · simp only [go_sem, Nat.reduceLT]
    · simp only [go_sem, Nat.reduceLT]
    · simp only [go_sem, Nat.reduceLT]
    · simp only [go_sem, Nat.reduceLT]
    rintro _ _ ⟨x, d3, hd3, hx, rfl, rfl⟩
    simp only [encDoc]
    have cy := docD d3 hd3 n hno (by omega) (by omega)
    simp only [encNet] at cy
    iterate 4 (all_goals (try (first
      | (simp (maxSteps := 1000000) (disch := omega) only [go_sem, Nat.reduceLT])
      | ((with_reducible first | refine gDt ?_ ?_ | refine gDf ?_ ?_ | refine gNt ?_ ?_ | refine gNf ?_ ?_ | refine cD ?_ ?_ | refine cN ?_ ?_ | refine cB ?_ ?_ | refine gB ?_ ?_) <;> intro h)
      | with_reducible first | refine And.intro ?_ ?_ | refine rG ?_ | refine FinQ.now ?_ | refine FinQ.end ?_)))
    first | refine J_seq ?_ | skip
    refine J_mergeN 1 (upto 83 87) (fun q : List Doc × Dk => [(88, .lst 12 (q.1.map encDoc)), (89, .raw (.int .i64 3)), (90, .raw (.int .i64 0))]) (fun q => [.box (encDoc raw), .box (encDk q.2), .box [.lst 3 (n.nodes.map encNd), .lst 5 (n.devs.map encDv)], .box (encDoc x)]) (fun q => q.1.length = 3 ∧ (∀ a, a ∈ q.1 → a.sized) ∧ q.2.ok) ?_ ?_
    · simp only [go_sem, encDoc]
      repeat' (first
        | ((with_reducible refine J_draw (id := 7) 200 [4] plan7_7_4 (by kernel_rfl) (by kernel_rfl) ?_); delta plan7_7_4)
        | (simp (maxSteps := 1000000) (disch := omega) only [go_sem, Nat.reduceLT, encDoc])
        | ((with_reducible refine CallA.mut [1] ?_ ?_ ?_ ?_ cy ?_); (· simp (disch := omega) only [go_sem, Nat.reduceLT, encDoc]); (· simp (disch := omega) only [go_sem, Nat.reduceLT, encDoc]); (· simp (disch := omega) only [go_sem, Nat.reduceLT, encDoc]); (· simp (disch := omega) only [go_sem, Nat.reduceLT, encDoc]); rintro _ _ ⟨y, d4, hd4, hy, rfl, rfl⟩)
        | ((with_reducible first | refine gDt ?_ ?_ | refine gDf ?_ ?_ | refine gNt ?_ ?_ | refine gNf ?_ ?_ | refine cD ?_ ?_ | refine cN ?_ ?_ | refine cB ?_ ?_ | refine gB ?_ ?_ | refine stepGuard_dect ?_ ?_ | refine stepGuard_decf ?_ ?_ | refine stepGuard_ndect ?_ ?_ | refine stepGuard_ndecf ?_ ?_ | refine stepGuard_by ?_ ?_) <;> intro h)
        | with_reducible first | refine And.intro ?_ ?_ | refine J_seq ?_ | refine J_block ?_ | refine J_inBlock ?_ | refine rC ?_ | refine rR ?_ | refine rE ?_ | refine rG ?_)
      all_goals
        refine ⟨([x, raw, y], d4), ⟨rfl, fun a ha => ?_, hd4⟩, SemLe.trans (SemLe.frz _ _ [4]) ?_⟩
        · simp only [List.mem_cons, List.not_mem_nil, or_false] at ha
          rcases ha with rfl | rfl | rfl
          · exact smallZ hx
          · exact hrs
          · exact smallZ hy
        · refine .le ?_ ?_
          · simp [go_sem, encDoc]
          · simp
    rintro ⟨A, d4⟩ ⟨hA3, hAs, hd4⟩
    simp only at hA3 hAs hd4
    have hsz : ∀ q, q ∈ L → q.sized := fun q hq => smallZ (hsm q hq)
    have c1 := ovClear n hno.sized L (by omega) hsz
    have c2 := rClear n hno.sized L (by omega) hsz
    obtain ⟨⟨cb, ce⟩, hcl⟩ : ∃ p, clearR n L = p := ⟨_, rfl⟩
    rw [hcl] at c1 c2
    simp only [encNet] at c1 c2
    simp only [go_sem, encDoc]
    refine J_run 200 ?_
    repeat' (first
      | (simp (maxSteps := 1000000) (disch := omega) only [go_sem])
      | ((with_reducible first | refine gDt ?_ ?_ | refine gDf ?_ ?_ | refine gNt ?_ ?_ | refine gNf ?_ ?_ | refine cD ?_ ?_ | refine cN ?_ ?_ | refine cB ?_ ?_ | refine gB ?_ ?_) <;> intro h)
      | with_reducible first | refine And.intro ?_ ?_ | refine J_seq ?_ | refine J_block ?_ | refine J_inBlock ?_ | refine rC ?_ | refine rR ?_ | refine rE ?_ | refine rG ?_)
    refine J_for ([11, 12, 13, 14, 15, 16, 17, 18, 19, 20, 21, 22, 23, 24, 25, 26, 27, 28, 29] ++ upto 91 196) (fun i : Nat => [(90, .raw (.int .i64 i))]) (fun i => [.box (encDoc raw), .box (encDk d4), .box [.lst 3 (n.nodes.map encNd), .lst 5 (n.devs.map encDv)], .box (encDoc x)]) (fun i => i ≤ 3) (fun i => 3 - i) 0 (by omega) (.le (by simp [go_sem, encDoc]) (by simp)) ?_
    intro i hi
    simp only [encDoc]
    by_cases hlt : i < 3
    · have hai := hAs _ (List.getElem_mem (show i < A.length by omega))
      have hga := getD_Doc (l := A) (i := i) (by omega)
      obtain ⟨a, haa⟩ : ∃ a, A[i]'(by omega) = a := ⟨_, rfl⟩
      rw [haa] at hai hga
      have r1 := ovRegion n hno.sized a hai
      have r2 := rRegion27 n hno.sized a hai
      have k1 := ovClashes n hno.sized L (by omega) hsz a hai
      have k2 := rClashes n hno.sized L (by omega) hsz a hai
      have hrl := regionD_len (n := n) (x := a)
      have hkl := clashR_len (n := n) (l := L) (d := a)
      obtain ⟨⟨R, e⟩, hR⟩ : ∃ p, regionD n a = p := ⟨_, rfl⟩
      obtain ⟨⟨C, f⟩, hC⟩ : ∃ p, clashR n L a = p := ⟨_, rfl⟩
      rw [hR] at r1 r2 hrl
      rw [hC] at k1 k2 hkl
      simp only at r1 r2 k1 k2 hrl hkl
      have iR := ints R R (by omega) (by omega)
      have iC := ints C C (by omega) (by omega)
      rw [decide_eq_true rfl] at iR iC
      simp only [encNet, encDoc] at r1 r2 k1 k2 hga
      refine J_run 200 ?_
      repeat' (first
        | (simp (maxSteps := 1000000) (disch := omega) only [go_sem, hga, Nat.reduceLT])
        | ((with_reducible refine CallA.pure r1 ?_ ?_); (· simp (disch := omega) only [go_sem, hga, Nat.reduceLT]); rintro _ _ ⟨rfl, rfl⟩)
        | ((with_reducible refine CallA.pure r2 ?_ ?_); (· simp (disch := omega) only [go_sem, hga, Nat.reduceLT]); rintro _ _ ⟨rfl, rfl⟩)
        | ((with_reducible refine CallA.pure k1 ?_ ?_); (· simp (disch := omega) only [go_sem, hga, Nat.reduceLT]); rintro _ _ ⟨rfl, rfl⟩)
        | ((with_reducible refine CallA.pure k2 ?_ ?_); (· simp (disch := omega) only [go_sem, hga, Nat.reduceLT]); rintro _ _ ⟨rfl, rfl⟩)
        | ((with_reducible refine CallA.pure iR ?_ ?_); (· simp (disch := omega) only [go_sem, hga, Nat.reduceLT]); rintro _ _ ⟨rfl, rfl⟩)
        | ((with_reducible refine CallA.pure iC ?_ ?_); (· simp (disch := omega) only [go_sem, hga, Nat.reduceLT]); rintro _ _ ⟨rfl, rfl⟩)
        | ((with_reducible first | refine gDt ?_ ?_ | refine gDf ?_ ?_ | refine gNt ?_ ?_ | refine gNf ?_ ?_ | refine cD ?_ ?_ | refine cN ?_ ?_ | refine cB ?_ ?_ | refine gB ?_ ?_) <;> intro h)
        | with_reducible first | refine And.intro ?_ ?_ | refine rG ?_)
      first | refine J_seq ?_ | skip
      refine J_mergeN 1 (upto 140 144) (fun q : List Doc => [(145, .lst 12 (q.map encDoc)), (146, .raw (.int .i64 q.length)), (147, .raw (.int .i64 0))]) (fun q => [.box (encDoc raw), .box (encDk d4), .box [.lst 3 (n.nodes.map encNd), .lst 5 (n.devs.map encDv)], .box (encDoc x), .box (encDoc a)]) (fun q => q.length ≤ 6 ∧ (∀ a, a ∈ q → a.sized)) ?_ ?_
      · simp only [go_sem, encDoc]
        have htk : ∀ u v, (L.map encDoc ++ [u, v]).take (L.length + 2) = L.map encDoc ++ [u, v] := fun u v => List.take_of_length_le (by simp)
        repeat' (first
          | ((with_reducible refine J_draw (id := 16) 200 [] plan7_16 (by kernel_rfl) (by kernel_rfl) ?_); delta plan7_16)
          | (simp (maxSteps := 1000000) (disch := omega) only [go_sem, Nat.reduceLT])
          | ((with_reducible first | refine gDt ?_ ?_ | refine gDf ?_ ?_ | refine gNt ?_ ?_ | refine gNf ?_ ?_ | refine cD ?_ ?_ | refine cN ?_ ?_ | refine cB ?_ ?_ | refine gB ?_ ?_ | refine stepGuard_dect ?_ ?_ | refine stepGuard_decf ?_ ?_ | refine stepGuard_ndect ?_ ?_ | refine stepGuard_ndecf ?_ ?_ | refine stepGuard_by ?_ ?_) <;> intro h)
          | with_reducible first | refine And.intro ?_ ?_ | refine J_seq ?_ | refine J_block ?_ | refine J_inBlock ?_ | refine rC ?_ | refine rR ?_ | refine rE ?_ | refine rG ?_)
        all_goals
          refine ⟨L ++ [x, raw], ⟨by rw [List.length_append]; simp; omega, fun a ha => ?_⟩, SemLe.trans (SemLe.frz _ _ [5, 6]) ?_⟩
          · rcases List.mem_append.1 ha with ha | ha
            · exact hsz a ha
            · simp only [List.mem_cons, List.not_mem_nil, or_false] at ha
              rcases ha with rfl | rfl
              · exact smallZ hx
              · exact hrs
          · simp only [go_sem, htk]
            refine .le ?_ ?_
            · simp [go_sem, encDoc]
            · simp
      rintro B ⟨hB6, hBs⟩
      simp only [go_sem, encDoc]
      refine J_run 200 ?_
      repeat' (first
        | (simp (maxSteps := 1000000) (disch := omega) only [go_sem])
        | ((with_reducible first | refine gDt ?_ ?_ | refine gDf ?_ ?_ | refine gNt ?_ ?_ | refine gNf ?_ ?_ | refine cD ?_ ?_ | refine cN ?_ ?_ | refine cB ?_ ?_ | refine gB ?_ ?_) <;> intro h)
        | with_reducible first | refine And.intro ?_ ?_ | refine J_seq ?_ | refine J_block ?_ | refine J_inBlock ?_ | refine rC ?_ | refine rR ?_ | refine rE ?_ | refine rG ?_)
      refine J_for ([21, 22, 23, 24, 25, 26, 27, 28, 29] ++ upto 148 195) (fun k : Nat => [(147, .raw (.int .i64 k))]) (fun k => [.box (encDoc raw), .box (encDk d4), .box [.lst 3 (n.nodes.map encNd), .lst 5 (n.devs.map encDv)], .box (encDoc x), .box (encDoc a)]) (fun k => k ≤ B.length) (fun k => B.length - k) 0 (by omega) (.le (by simp [go_sem, encDoc]) (by simp)) ?_
      intro k hk
      simp only [encDoc]
      by_cases hkt : k < B.length
      · have hbk := hBs _ (List.getElem_mem hkt)
        have hgb := getD_Doc hkt
        obtain ⟨b, hbb⟩ : ∃ b, B[k] = b := ⟨_, rfl⟩
        rw [hbb] at hbk hgb
        have m1 := ovMeet n hno.sized a b hai hbk
        have m2 := rMeet n hno.sized a b hai hbk
        have e1 := ovExcl n hno.sized a b hai hbk
        have e2 := rExcl n hno.sized a b hai hbk
        obtain ⟨⟨mb, me⟩, hM⟩ : ∃ p, meetR n a b = p := ⟨_, rfl⟩
        obtain ⟨⟨eb, ee⟩, hE⟩ : ∃ p, exclR n a b = p := ⟨_, rfl⟩
        rw [hM] at m1 m2
        rw [hE] at e1 e2
        simp only [encNet, encDoc] at m1 m2 e1 e2 hgb
        refine J_run 200 ?_
        repeat' (first
          | (simp (maxSteps := 1000000) (disch := omega) only [go_sem, hgb, Nat.reduceLT, bne_bool])
          | ((with_reducible refine CallA.pure m1 ?_ ?_); (· simp (disch := omega) only [go_sem, hgb, Nat.reduceLT, bne_bool]); rintro _ _ ⟨rfl, rfl⟩)
          | ((with_reducible refine CallA.pure m2 ?_ ?_); (· simp (disch := omega) only [go_sem, hgb, Nat.reduceLT, bne_bool]); rintro _ _ ⟨rfl, rfl⟩)
          | ((with_reducible refine CallA.pure e1 ?_ ?_); (· simp (disch := omega) only [go_sem, hgb, Nat.reduceLT, bne_bool]); rintro _ _ ⟨rfl, rfl⟩)
          | ((with_reducible refine CallA.pure e2 ?_ ?_); (· simp (disch := omega) only [go_sem, hgb, Nat.reduceLT, bne_bool]); rintro _ _ ⟨rfl, rfl⟩)
          | ((with_reducible first | refine gDt ?_ ?_ | refine gDf ?_ ?_ | refine gNt ?_ ?_ | refine gNf ?_ ?_ | refine cD ?_ ?_ | refine cN ?_ ?_ | refine cB ?_ ?_ | refine gB ?_ ?_) <;> intro h)
          | with_reducible first | refine And.intro ?_ ?_ | refine J_seq ?_ | refine J_block ?_ | refine J_inBlock ?_ | refine rC ?_ | refine rR ?_ | refine rE ?_ | refine rG ?_)
        refine .mk (k + 1) hkt (by omega) ?_ ?_
        · simp [go_sem, encDoc]
        · simp
      · refine J_run 200 ?_
        repeat' (first
          | (simp (maxSteps := 1000000) (disch := omega) only [go_sem])
          | ((with_reducible first | refine gDt ?_ ?_ | refine gDf ?_ ?_ | refine gNt ?_ ?_ | refine gNf ?_ ?_ | refine cD ?_ ?_ | refine cN ?_ ?_ | refine cB ?_ ?_ | refine gB ?_ ?_) <;> intro h)
          | with_reducible first | refine And.intro ?_ ?_ | refine J_seq ?_ | refine J_block ?_ | refine J_inBlock ?_ | refine rC ?_ | refine rR ?_ | refine rE ?_ | refine rG ?_)
        refine .mk (i + 1) hlt (by omega) ?_ ?_
        · simp [go_sem, encDoc]
        · simp
    · refine J_run 200 ?_
      repeat' (first
        | (simp (maxSteps := 1000000) (disch := omega) only [go_sem, beq_bool])
        | ((with_reducible refine CallA.pure c1 ?_ ?_); (· simp (disch := omega) only [go_sem, beq_bool]); rintro _ _ ⟨rfl, rfl⟩)
        | ((with_reducible refine CallA.pure c2 ?_ ?_); (· simp (disch := omega) only [go_sem, beq_bool]); rintro _ _ ⟨rfl, rfl⟩)
        | ((with_reducible first | refine gDt ?_ ?_ | refine gDf ?_ ?_ | refine gNt ?_ ?_ | refine gNf ?_ ?_ | refine cD ?_ ?_ | refine cN ?_ ?_ | refine cB ?_ ?_ | refine gB ?_ ?_) <;> intro h)
        | with_reducible first | refine And.intro ?_ ?_ | refine J_seq ?_ | refine J_block ?_ | refine J_inBlock ?_ | refine rC ?_ | refine rR ?_ | refine rE ?_ | refine rG ?_ | refine FinQ.now ?_ | refine FinQ.end ?_)
  · rw [decide_eq_false h400] at cf
    refine holds_of Tryd.func7 rfl rfl ?_
    refine J_run 200 ?_
    delta Tryd.f7
    simp only [encDoc]
    repeat' (first
      | (simp (maxSteps := 1000000) (disch := omega) only [go_sem])
      | ((with_reducible refine CallA.pure ca ?_ ?_); (· simp (disch := omega) only [go_sem]); rintro _ _ ⟨rfl, rfl⟩)
      | ((with_reducible refine CallA.pure cf ?_ ?_); (· simp (disch := omega) only [go_sem]); rintro _ _ ⟨rfl, rfl⟩)
      | ((with_reducible first | refine gDt ?_ ?_ | refine gDf ?_ ?_ | refine gNt ?_ ?_ | refine gNf ?_ ?_ | refine cD ?_ ?_ | refine cN ?_ ?_ | refine cB ?_ ?_ | refine gB ?_ ?_) <;> intro h)
      | with_reducible first | refine And.intro ?_ ?_ | refine J_seq ?_ | refine J_block ?_ | refine J_inBlock ?_ | refine rC ?_ | refine rR ?_ | refine rE ?_ | refine rG ?_ | refine FinQ.now ?_ | refine FinQ.end ?_)
theorem overlapExact_av (x0 : (Sh.slice (.int .i64)).Den) (o0 : (Sh.slice (.int .i64)).Ok x0) (x1 : shDoc.Den) (o1 : shDoc.Ok x1) : Fn1 Tryd.prog GT0 7 [(Sh.slice (.int .i64)).av x0, shDoc.av x1] (.raw (.bool true)) [] := by
  rw [doc_av]
  exact overlapExact x0 (nums_ok o0) (docOf x1) (doc_came o1)
end Go.Proofs.YtfkiomkfoabnhaaDoor.Abs
