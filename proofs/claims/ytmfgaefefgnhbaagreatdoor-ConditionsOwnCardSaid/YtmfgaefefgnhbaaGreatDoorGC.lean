/- Overlap: the documents of a list that one excludes. -/
import Derived.Test.YtmfgaefefgnhbaaGreatDoorGB
import Derived.Test.YtmfgaefefgnhbaaGreatDoorDE
namespace Go.Proofs.YtmfgaefefgnhbaaGreatDoor.Abs
set_option linter.unusedSimpArgs false
set_option linter.unusedVariables false
set_option maxRecDepth 100000
open Go Go.RowKit

theorem clash_next {n : Net} {d : Doc} {l : List Doc} {i : Nat} (hi : i < l.length) : clashL n (l.take (i + 1)) d = clashL n (l.take i) d ++ (if clashB n d l[i] then [l[i].num] else []) := by
  unfold clashL
  rw [List.take_succ_eq_append_getElem hi, List.filter_append, List.map_append]
  congr 1
  simp only [List.filter_cons, List.filter_nil]
  cases clashB n d l[i] <;> rfl
theorem clash_len {n : Net} {d : Doc} {l : List Doc} {i : Nat} : (clashL n (l.take i) d).length ≤ i := by
  unfold clashL
  rw [List.length_map]
  exact Nat.le_trans (List.length_filter_le _ _) (by rw [List.length_take]; omega)
theorem clashL_len {n : Net} {d : Doc} {l : List Doc} : (clashL n l d).length ≤ l.length := by
  unfold clashL
  rw [List.length_map]
  exact List.length_filter_le _ _
theorem clashE_all {n : Net} {l : List Doc} {d : Doc} (h : allChk n l ≠ 0) : clashR n l d = ([], allChk n l) := by
  have e : clashE n l d = allChk n l := if_pos h
  unfold clashR
  rw [e, if_pos h]
theorem clashE_doc {n : Net} {l : List Doc} {d : Doc} (h : allChk n l = 0) (hd : docChk n d ≠ 0) : clashR n l d = ([], docChk n d) := by
  have e : clashE n l d = docChk n d := if_neg (by simp [h])
  unfold clashR
  rw [e, if_pos hd]
theorem clashE_ok {n : Net} {l : List Doc} {d : Doc} (h : allChk n l = 0) (hd : docChk n d = 0) : clashR n l d = (clashL n l d, 0) := by
  have e : clashE n l d = docChk n d := if_neg (by simp [h])
  unfold clashR
  rw [e, if_neg (by simp [hd])]
theorem exclR_ok {n : Net} {a b : Doc} (ha : docChk n a = 0) (hb : docChk n b = 0) : exclR n a b = (meetB n a b && testB a b, 0) := by
  unfold exclR
  rw [meetR_ok ha hb]
set_option maxHeartbeats 16000000 in
theorem ovClashes (n : Net) (hs : n.sized) (l : List Doc) (hl : l.length ≤ 1000000) (hx : ∀ x, x ∈ l → x.sized) (d : Doc) (hd : d.sized) : Fn1 Tryz.prog GT0 39 [.agg (encNet n), .lst 12 (l.map encDoc), .agg (encDoc d)] (.tup [.lst 1 ((clashR n l d).1.map encN), .raw (.int .i64 (clashR n l d).2)]) [] := by
  have c0 := docAll n hs l hl hx
  have c1 := docCheck n hs d hd
  have ACT := activeF
  have EXC0 := fun (x : Doc) (h : x.sized) => ovExcl n hs d x hd h
  have EXR0 := fun (x : Doc) (h1 : docChk n d = 0) (h2 : docChk n x = 0) => exclR_ok h1 h2
  by_cases h0 : allChk n l = 0
  · rw [h0] at c0
    by_cases h1 : docChk n d = 0
    · rw [h1] at c1
      rw [clashE_ok h0 h1]
      obtain ⟨hno, hl24, _⟩ := allChk_zero h0
      show Fn1 _ _ _ _ (.tup [.lst 1 ((clashL n l d).map encN), .raw (.int .i64 0)]) []
      refine holds_of Tryz.func39 rfl rfl ?_
      refine J_run 200 ?_
      delta Tryz.f39
      simp only [encNet, encDoc] at c0 c1 ⊢
      iterate 16 (all_goals (try (first
        | (simp (maxSteps := 1000000) (disch := omega) only [go_sem])
        | ((with_reducible refine CallA.pure c0 ?_ ?_); (· simp (disch := omega) only [go_sem]); rintro _ _ ⟨rfl, rfl⟩)
        | ((with_reducible refine CallA.pure c1 ?_ ?_); (· simp (disch := omega) only [go_sem]); rintro _ _ ⟨rfl, rfl⟩)
        | ((with_reducible first | refine gDt ?_ ?_ | refine gDf ?_ ?_ | refine gNt ?_ ?_ | refine gNf ?_ ?_ | refine cD ?_ ?_ | refine cN ?_ ?_ | refine cB ?_ ?_ | refine gB ?_ ?_) <;> intro h)
        | with_reducible first | refine And.intro ?_ ?_ | refine J_seq ?_ | refine J_block ?_ | refine J_inBlock ?_ | refine rC ?_ | refine rR ?_ | refine rE ?_ | refine rG ?_ | refine FinQ.now ?_ | refine FinQ.end ?_)))
      refine J_nilName 10 1 (by simp only [go_sem]) ?_
      simp only [go_sem]
      refine J_for ([12, 13, 14] ++ upto 30 57) (fun i : Nat => [(29, .raw (.int .i64 i)), (10, .own 2 1 0 (clashL n (l.take i) d).length)]) (fun i => [.box (encNet n), .box (encDoc d), .arr 1 ((clashL n (l.take i) d).map encN)]) (fun i => i ≤ l.length) (fun i => l.length - i) 0 (by omega) (.le (by simp [go_sem, encNet, encDoc, clashL]) (by simp)) ?_
      intro i hi
      simp only [encNet, encDoc]
      have hcl := clash_len (n := n) (d := d) (l := l) (i := i)
      by_cases hlt : i < l.length
      · have hxi := hx _ (List.getElem_mem hlt)
        have hci := allChk_mem h0 (List.getElem_mem hlt)
        have hg := getD_Doc hlt
        have ht := clash_next (n := n) (d := d) hlt
        have ca := ACT l[i]
        have ce := EXC0 l[i] hxi
        have hcb : clashB n d l[i] = (activeB l[i] && decide (l[i].num ≠ d.num) && (meetB n d l[i] && testB d l[i])) := rfl
        rw [EXR0 l[i] h1 hci] at ce
        obtain ⟨A, hA⟩ : ∃ b, activeB l[i] = b := ⟨_, rfl⟩
        obtain ⟨E, hE⟩ : ∃ b, (meetB n d l[i] && testB d l[i]) = b := ⟨_, rfl⟩
        rw [hA] at ca hcb
        rw [hE] at ce hcb
        simp only [encNet, encDoc] at ca ce hg
        by_cases hN : l[i].num = d.num
        · have e1 : decide (l[i].num ≠ d.num) = false := by simp [hN]
          have hNd := decide_eq_true hN
          rw [e1] at hcb
          cases A <;> cases E
          all_goals
            simp only [Bool.and_true, Bool.and_false, Bool.false_and, Bool.true_and] at hcb
            rw [hcb] at ht
            simp only [Bool.false_eq_true, if_false, if_true, List.append_nil] at ht
            refine J_run 200 ?_
            repeat' (first
              | (simp (maxSteps := 1000000) (disch := omega) only [go_sem, hg, hNd, Nat.reduceLT])
              | ((with_reducible refine CallA.pure ca ?_ ?_); (· simp (disch := omega) only [go_sem, hg, hNd, Nat.reduceLT]); rintro _ _ ⟨rfl, rfl⟩)
              | ((with_reducible refine CallA.pure ce ?_ ?_); (· simp (disch := omega) only [go_sem, hg, hNd, Nat.reduceLT]); rintro _ _ ⟨rfl, rfl⟩)
              | ((with_reducible first | refine gDt ?_ ?_ | refine gDf ?_ ?_ | refine gNt ?_ ?_ | refine gNf ?_ ?_ | refine cD ?_ ?_ | refine cN ?_ ?_ | refine cB ?_ ?_ | refine gB ?_ ?_) <;> intro h)
              | with_reducible first | refine And.intro ?_ ?_ | refine J_seq ?_ | refine J_block ?_ | refine J_inBlock ?_ | refine rC ?_ | refine rR ?_ | refine rE ?_ | refine rG ?_ | refine FinQ.now ?_ | refine FinQ.end ?_)
            refine .mk (i + 1) hlt (by omega) ?_ ?_
            · rw [ht]; simp [go_sem, encNet, encDoc, encN]
            · simp
        · have e1 : decide (l[i].num ≠ d.num) = true := by simp [hN]
          have hNd := decide_eq_false hN
          rw [e1] at hcb
          cases A <;> cases E
          all_goals
            simp only [Bool.and_true, Bool.and_false, Bool.false_and, Bool.true_and] at hcb
            rw [hcb] at ht
            simp only [Bool.false_eq_true, if_false, if_true, List.append_nil] at ht
            refine J_run 200 ?_
            repeat' (first
              | (simp (maxSteps := 1000000) (disch := omega) only [go_sem, hg, hNd, Nat.reduceLT])
              | ((with_reducible refine CallA.pure ca ?_ ?_); (· simp (disch := omega) only [go_sem, hg, hNd, Nat.reduceLT]); rintro _ _ ⟨rfl, rfl⟩)
              | ((with_reducible refine CallA.pure ce ?_ ?_); (· simp (disch := omega) only [go_sem, hg, hNd, Nat.reduceLT]); rintro _ _ ⟨rfl, rfl⟩)
              | ((with_reducible first | refine gDt ?_ ?_ | refine gDf ?_ ?_ | refine gNt ?_ ?_ | refine gNf ?_ ?_ | refine cD ?_ ?_ | refine cN ?_ ?_ | refine cB ?_ ?_ | refine gB ?_ ?_) <;> intro h)
              | with_reducible first | refine And.intro ?_ ?_ | refine J_seq ?_ | refine J_block ?_ | refine J_inBlock ?_ | refine rC ?_ | refine rR ?_ | refine rE ?_ | refine rG ?_ | refine FinQ.now ?_ | refine FinQ.end ?_)
            refine .mk (i + 1) hlt (by omega) ?_ ?_
            · rw [ht]; simp [go_sem, encNet, encDoc, encN]
            · simp
      · have hie : i = l.length := by omega
        subst hie
        rw [List.take_length]
        refine J_run 200 ?_
        iterate 12 (all_goals (try (first
          | (simp (maxSteps := 1000000) (disch := omega) only [go_sem])
          | ((with_reducible first | refine gDt ?_ ?_ | refine gDf ?_ ?_ | refine gNt ?_ ?_ | refine gNf ?_ ?_ | refine cD ?_ ?_ | refine cN ?_ ?_ | refine cB ?_ ?_ | refine gB ?_ ?_) <;> intro h)
          | with_reducible first | refine And.intro ?_ ?_ | refine J_seq ?_ | refine J_block ?_ | refine J_inBlock ?_ | refine rC ?_ | refine rR ?_ | refine rE ?_ | refine rG ?_)))
        refine .frz [2] (.now ?_)
        simp only [go_sem, take_lm]
    · rw [clashE_doc h0 h1]
      refine holds_ofV Tryz.func39 rfl rfl ?_
      refine J_run 200 ?_
      delta Tryz.f39
      simp only [encNet, encDoc] at c0 c1 ⊢
      iterate 16 (all_goals (try (first
        | (simp (maxSteps := 1000000) (disch := omega) only [go_sem, h1])
        | ((with_reducible refine CallA.pure c0 ?_ ?_); (· simp (disch := omega) only [go_sem, h1]); rintro _ _ ⟨rfl, rfl⟩)
        | ((with_reducible refine CallA.pure c1 ?_ ?_); (· simp (disch := omega) only [go_sem, h1]); rintro _ _ ⟨rfl, rfl⟩)
        | ((with_reducible first | refine gDt ?_ ?_ | refine gDf ?_ ?_ | refine gNt ?_ ?_ | refine gNf ?_ ?_ | refine cD ?_ ?_ | refine cN ?_ ?_ | refine cB ?_ ?_ | refine gB ?_ ?_) <;> intro h)
        | with_reducible first | refine And.intro ?_ ?_ | refine J_seq ?_ | refine J_block ?_ | refine J_inBlock ?_ | refine rC ?_ | refine rR ?_ | refine rE ?_ | refine rG ?_ | refine FinQ.now ?_ | refine FinQ.end ?_)))
      exact ⟨_, .tup (.cons (.nilLst 1) (VLes.refl _)), rfl, rfl⟩
  · rw [clashE_all h0]
    refine holds_ofV Tryz.func39 rfl rfl ?_
    refine J_run 200 ?_
    delta Tryz.f39
    simp only [encNet, encDoc] at c0 ⊢
    iterate 16 (all_goals (try (first
      | (simp (maxSteps := 1000000) (disch := omega) only [go_sem, h0])
      | ((with_reducible refine CallA.pure c0 ?_ ?_); (· simp (disch := omega) only [go_sem, h0]); rintro _ _ ⟨rfl, rfl⟩)
      | ((with_reducible first | refine gDt ?_ ?_ | refine gDf ?_ ?_ | refine gNt ?_ ?_ | refine gNf ?_ ?_ | refine cD ?_ ?_ | refine cN ?_ ?_ | refine cB ?_ ?_ | refine gB ?_ ?_) <;> intro h)
      | with_reducible first | refine And.intro ?_ ?_ | refine J_seq ?_ | refine J_block ?_ | refine J_inBlock ?_ | refine rC ?_ | refine rR ?_ | refine rE ?_ | refine rG ?_ | refine FinQ.now ?_ | refine FinQ.end ?_)))
    exact ⟨_, .tup (.cons (.nilLst 1) (VLes.refl _)), rfl, rfl⟩
end Go.Proofs.YtmfgaefefgnhbaaGreatDoor.Abs
