/- References: names, kinds, sets, the check of a network. References: the check of a network. References: locks. References: the check of locks. -/
import Derived.Test.YtmfgaefefgnhbaaGreatDoorZ3
import Derived.Test.YtmfgaefefgnhbaaGreatDoorZ1
namespace Go.Proofs.YtmfgaefefgnhbaaGreatDoor.Abs
set_option linter.unusedSimpArgs false
set_option linter.unusedVariables false
set_option maxRecDepth 100000
open Go Go.RowKit

theorem rLetter (b : Nat) (hb : b < 256) : Fn1 Tryz.prog GT0 140 [.raw (.int .u8 b)] (.raw (.bool (isLetter b))) [] := by
  refine holds_of Tryz.func140 rfl rfl ?_
  refine J_run 200 ?_
  delta Tryz.f140
  repeat' (first
    | (simp (maxSteps := 1000000) (disch := omega) only [go_sem])
    | ((with_reducible first | refine gDt ?_ ?_ | refine gDf ?_ ?_ | refine gNt ?_ ?_ | refine gNf ?_ ?_ | refine cD ?_ ?_ | refine cN ?_ ?_ | refine cB ?_ ?_ | refine gB ?_ ?_) <;> intro h)
    | with_reducible first | refine And.intro ?_ ?_ | refine J_seq ?_ | refine J_block ?_ | refine J_inBlock ?_ | refine rC ?_ | refine rR ?_ | refine rE ?_ | refine rG ?_ | refine FinQ.now ?_ | refine FinQ.end ?_)
  all_goals first | (rw [Bool.eq_iff_iff]; simp [isLetter]; omega) | (simp_all [isLetter]; done) | (rw [Bool.eq_iff_iff]; simp_all [isLetter]; omega) | (simp_all [isLetter]; omega) | omega
theorem rDigit (b : Nat) (hb : b < 256) : Fn1 Tryz.prog GT0 141 [.raw (.int .u8 b)] (.raw (.bool (isDigit b))) [] := by
  refine holds_of Tryz.func141 rfl rfl ?_
  refine J_run 200 ?_
  delta Tryz.f141
  repeat' (first
    | (simp (maxSteps := 1000000) (disch := omega) only [go_sem])
    | ((with_reducible first | refine gDt ?_ ?_ | refine gDf ?_ ?_ | refine gNt ?_ ?_ | refine gNf ?_ ?_ | refine cD ?_ ?_ | refine cN ?_ ?_ | refine cB ?_ ?_ | refine gB ?_ ?_) <;> intro h)
    | with_reducible first | refine And.intro ?_ ?_ | refine J_seq ?_ | refine J_block ?_ | refine J_inBlock ?_ | refine rC ?_ | refine rR ?_ | refine rE ?_ | refine rG ?_ | refine FinQ.now ?_ | refine FinQ.end ?_)
  all_goals first | (rw [Bool.eq_iff_iff]; simp [isDigit]; omega) | (simp_all [isDigit]; done) | (rw [Bool.eq_iff_iff]; simp_all [isDigit]; omega) | (simp_all [isDigit]; omega) | omega
theorem rJoins (k : Int) : Fn1 Tryz.prog GT0 118 [.raw (.int .i64 k)] (.raw (.bool (joinsK k))) [] := by
  refine holds_of Tryz.func118 rfl rfl ?_
  refine J_run 200 ?_
  delta Tryz.f118
  repeat' (first
    | (simp (maxSteps := 1000000) (disch := omega) only [go_sem])
    | ((with_reducible first | refine gDt ?_ ?_ | refine gDf ?_ ?_ | refine gNt ?_ ?_ | refine gNf ?_ ?_ | refine cD ?_ ?_ | refine cN ?_ ?_ | refine cB ?_ ?_ | refine gB ?_ ?_) <;> intro h)
    | with_reducible first | refine And.intro ?_ ?_ | refine J_seq ?_ | refine J_block ?_ | refine J_inBlock ?_ | refine rC ?_ | refine rR ?_ | refine rE ?_ | refine rG ?_ | refine FinQ.now ?_ | refine FinQ.end ?_)
  all_goals first | (rw [Bool.eq_iff_iff]; simp [joinsK]; omega) | (simp_all [joinsK]; done) | (rw [Bool.eq_iff_iff]; simp_all [joinsK]; omega) | (simp_all [joinsK]; omega) | omega
theorem rising_not {l : List Int} {u : Int} {i : Nat} (hi : i < l.length) (h : l[i] < 0 ∨ u ≤ l[i] ∨ (0 < i ∧ l[i] ≤ l.getD (i - 1) 0)) : rising l u = false := by
  rw [← Bool.not_eq_true]
  intro hr
  have h1 := risingFrom_iff.1 hr i hi
  have h2 := rising_mem hr (List.getElem_mem hi)
  rcases h with h | h | ⟨h0, h⟩
  · omega
  · omega
  · rw [if_neg (by omega)] at h1; omega
set_option maxHeartbeats 2000000 in
theorem rName (s : ByteArray) (hs : s.size ≤ 9223372036854775807) : Fn1 Tryz.prog GT0 117 [.raw (.string s)] (.raw (.bool (isName s))) [] := by
  have cl := rLetter (byteAt s 0) (by rw [← byteAt_eq]; exact byte_lt s 0)
  refine holds_of Tryz.func117 rfl rfl ?_
  refine J_run 200 ?_
  delta Tryz.f117
  repeat' (first
    | (simp (maxSteps := 1000000) (disch := omega) only [go_sem, byteAt_eq])
    | ((with_reducible refine CallA.pure cl ?_ ?_); (· simp (disch := omega) only [go_sem, byteAt_eq]); rintro _ _ ⟨rfl, rfl⟩)
    | ((with_reducible first | refine gDt ?_ ?_ | refine gDf ?_ ?_ | refine gNt ?_ ?_ | refine gNf ?_ ?_ | refine cD ?_ ?_ | refine cN ?_ ?_ | refine cB ?_ ?_ | refine gB ?_ ?_) <;> intro h)
    | with_reducible first | refine And.intro ?_ ?_ | refine J_seq ?_ | refine J_block ?_ | refine J_inBlock ?_ | refine rC ?_ | refine rR ?_ | refine rE ?_ | refine rG ?_ | refine FinQ.now ?_ | refine FinQ.end ?_)
  rotate_left
  · refine J_for (upto 18 41) (fun i : Nat => [(3, .raw (.int .i64 i))]) (fun _ => []) (fun i => i ≤ s.size ∧ ∀ j, j < i → (isLetter (byteAt s j) || isDigit (byteAt s j) || decide (byteAt s j = 95)) = true) (fun i => s.size - i) 0 ⟨by omega, by omega⟩ (.le (by simp [go_sem]) (by simp)) ?_
    rintro i ⟨hi, hpre⟩
    by_cases hlt : i < s.size
    · have c1 := rLetter (byteAt s i) (by rw [← byteAt_eq]; exact byte_lt s i)
      have c2 := rDigit (byteAt s i) (by rw [← byteAt_eq]; exact byte_lt s i)
      refine J_run 200 ?_
      have nxt : (isLetter (byteAt s i) || isDigit (byteAt s i) || decide (byteAt s i = 95)) = true → ∀ j, j < i + 1 → (isLetter (byteAt s j) || isDigit (byteAt s j) || decide (byteAt s j = 95)) = true := fun hx j hj => by
        rcases Nat.lt_succ_iff_lt_or_eq.1 hj with h3 | rfl
        · exact hpre j h3
        · exact hx
      repeat' (first
        | (simp (maxSteps := 1000000) (disch := omega) only [go_sem, byteAt_eq])
        | ((with_reducible refine CallA.pure c1 ?_ ?_); (· simp (disch := omega) only [go_sem, byteAt_eq]); rintro _ _ ⟨rfl, rfl⟩)
        | ((with_reducible refine CallA.pure c2 ?_ ?_); (· simp (disch := omega) only [go_sem, byteAt_eq]); rintro _ _ ⟨rfl, rfl⟩)
        | ((with_reducible first | refine gDt ?_ ?_ | refine gDf ?_ ?_ | refine gNt ?_ ?_ | refine gNf ?_ ?_ | refine cD ?_ ?_ | refine cN ?_ ?_ | refine cB ?_ ?_ | refine gB ?_ ?_) <;> intro h)
        | with_reducible first | refine And.intro ?_ ?_ | refine J_seq ?_ | refine J_block ?_ | refine J_inBlock ?_ | refine rC ?_ | refine rR ?_ | refine rE ?_ | refine rG ?_ | refine FinQ.now ?_ | refine FinQ.end ?_)
      all_goals first
        | (refine .mk (i + 1) ⟨hlt, nxt ?_⟩ (by omega) ?_ ?_; (· simp_all; try omega); (· simp [go_sem]); (· simp))
        | (symm; rw [← Bool.not_eq_true]; intro hx; unfold isName at hx; rw [Bool.and_eq_true, List.all_eq_true] at hx; have := hx.2 i (List.mem_range.2 hlt); simp_all; done)
        | (symm; rw [← Bool.not_eq_true]; intro hx; unfold isName at hx; rw [Bool.and_eq_true, List.all_eq_true] at hx; have := hx.2 i (List.mem_range.2 hlt); simp_all; omega)
    · refine J_run 200 ?_
      have hall : (List.range s.size).all (fun i => isLetter (byteAt s i) || isDigit (byteAt s i) || decide (byteAt s i = 95)) = true := by
        rw [List.all_eq_true]
        exact fun j hj => hpre j (by have := List.mem_range.1 hj; omega)
      repeat' (first
        | (simp (maxSteps := 1000000) (disch := omega) only [go_sem])
        | ((with_reducible first | refine gDt ?_ ?_ | refine gDf ?_ ?_ | refine gNt ?_ ?_ | refine gNf ?_ ?_ | refine cD ?_ ?_ | refine cN ?_ ?_ | refine cB ?_ ?_ | refine gB ?_ ?_) <;> intro h)
        | with_reducible first | refine And.intro ?_ ?_ | refine J_seq ?_ | refine J_block ?_ | refine J_inBlock ?_ | refine rC ?_ | refine rR ?_ | refine rE ?_ | refine rG ?_ | refine FinQ.now ?_ | refine FinQ.end ?_)
      unfold isName
      rw [hall]
      simp_all
      omega
  all_goals (unfold isName; simp_all; try omega)
end Go.Proofs.YtmfgaefefgnhbaaGreatDoor.Abs
namespace Go.Proofs.YtmfgaefefgnhbaaGreatDoor.Abs
set_option linter.unusedSimpArgs false
set_option linter.unusedVariables false
set_option maxRecDepth 100000
open Go Go.RowKit

theorem mem_take_names {α : Type} {f : α → ByteArray} {l : List α} {s : ByteArray} {i : Nat} (hi : i ≤ l.length) : s ∈ (l.take i).map f ↔ ∃ j, ∃ hj : j < l.length, j < i ∧ f l[j] = s := by
  rw [List.mem_map]
  constructor
  · rintro ⟨x, hx, rfl⟩
    obtain ⟨j, hj, rfl⟩ := List.getElem_of_mem hx
    rw [List.length_take] at hj
    exact ⟨j, by omega, by omega, by rw [List.getElem_take]⟩
  · rintro ⟨j, hj, hji, rfl⟩
    exact ⟨l[j], by rw [List.mem_take_iff_getElem]; exact ⟨j, by omega, rfl⟩, rfl⟩
set_option maxHeartbeats 16000000 in
theorem refCheck (n : Net) (hs : n.sized) : Fn1 Tryz.prog GT0 90 [.agg (encNet n)] (.raw (.int .i64 n.chk)) [] := by
  have h1 := hs.nl; have h2 := hs.dl
  refine holds_of Tryz.func90 rfl rfl ?_
  refine J_run 200 ?_
  delta Tryz.f90
  simp only [encNet]
  repeat' (first
    | (simp (maxSteps := 1000000) (disch := omega) only [go_sem])
    | ((with_reducible first | refine gDt ?_ ?_ | refine gDf ?_ ?_ | refine gNt ?_ ?_ | refine gNf ?_ ?_ | refine cD ?_ ?_ | refine cN ?_ ?_ | refine cB ?_ ?_ | refine gB ?_ ?_) <;> intro h)
    | with_reducible first | refine And.intro ?_ ?_ | refine J_seq ?_ | refine J_block ?_ | refine J_inBlock ?_ | refine rC ?_ | refine rR ?_ | refine rE ?_ | refine rG ?_ | refine FinQ.now ?_ | refine FinQ.end ?_)
  · simp only [Net.chk]; rw [if_pos (by omega)]
  rotate_left
  · simp only [Net.chk]; rw [if_pos (by omega)]
  have hc0 : ¬ (32 < n.nodes.length ∨ 64 < n.devs.length) := by omega
  refine J_for ([4, 5] ++ upto 20 67) (fun i : Nat => [(3, .raw (.int .i64 i))]) (fun i => [.box (encNet n)]) (fun i => i ≤ n.nodes.length ∧ ∀ j, j < i → nErr n j = 0) (fun i => n.nodes.length - i) 0 ⟨by omega, by omega⟩ (.le (by simp [go_sem, encNet]) (by simp)) ?_
  rintro i ⟨hi, hpre⟩
  simp only [encNet]
  by_cases hlt : i < n.nodes.length
  · have c1 := rName n.nodes[i].name (hs.nn _ (List.getElem_mem hlt))
    have hgi := getD_Nd hlt
    have hne : ∀ e, nErr n i = e → e ≠ 0 → n.chk = e := fun e he h0 => by
      have := firstE_hit hlt hpre (by omega)
      simp only [Net.chk]; rw [if_neg hc0, this, if_pos (by omega), he]
    refine J_run 200 ?_
    by_cases hnm : isName n.nodes[i].name = true
    · rw [hnm] at c1
      iterate 12 (all_goals (try (first
        | (simp (maxSteps := 1000000) (disch := omega) only [go_sem, hgi])
        | ((with_reducible refine CallA.pure c1 ?_ ?_); (· simp (disch := omega) only [go_sem, hgi]); rintro _ _ ⟨rfl, rfl⟩)
        | ((with_reducible first | refine gDt ?_ ?_ | refine gDf ?_ ?_ | refine gNt ?_ ?_ | refine gNf ?_ ?_ | refine cD ?_ ?_ | refine cN ?_ ?_ | refine cB ?_ ?_ | refine gB ?_ ?_) <;> intro h)
        | with_reducible first | refine And.intro ?_ ?_ | refine J_seq ?_ | refine J_block ?_ | refine J_inBlock ?_ | refine rC ?_ | refine rR ?_ | refine rE ?_ | refine rG ?_ | refine FinQ.now ?_ | refine FinQ.end ?_)))
      refine J_for ([] ++ upto 36 49) (fun k : Nat => [(5, .raw (.int .i64 k))]) (fun k => [.box (encNet n), .box [.raw (.string n.nodes[i].name), .raw (.int .i64 n.nodes[i].cust), .raw (.int .i64 n.nodes[i].comp)]]) (fun k => k ≤ i ∧ ∀ j (hj : j < n.nodes.length), j < k → n.nodes[j].name ≠ n.nodes[i].name) (fun k => i - k) 0 ⟨by omega, by omega⟩ (.le (by simp [go_sem, encNet]) (by simp)) ?_
      rintro k ⟨hk, hpk⟩
      simp only [encNet]
      by_cases hkt : k < i
      · have hgk := getD_Nd (l := n.nodes) (i := k) (by omega)
        refine J_run 200 ?_
        iterate 12 (all_goals (try (first
          | ((with_reducible refine J_draw (id := 12) 200 [] plan90_12 (by kernel_rfl) (by kernel_rfl) ?_); delta plan90_12)
          | (simp (maxSteps := 1000000) (disch := omega) only [go_sem, hgk])
          | ((with_reducible first | refine gDt ?_ ?_ | refine gDf ?_ ?_ | refine gNt ?_ ?_ | refine gNf ?_ ?_ | refine cD ?_ ?_ | refine cN ?_ ?_ | refine cB ?_ ?_ | refine gB ?_ ?_ | refine stepGuard_dect ?_ ?_ | refine stepGuard_decf ?_ ?_ | refine stepGuard_ndect ?_ ?_ | refine stepGuard_ndecf ?_ ?_ | refine stepGuard_by ?_ ?_) <;> intro h)
          | with_reducible first | refine And.intro ?_ ?_ | refine J_seq ?_ | refine J_block ?_ | refine J_inBlock ?_ | refine rC ?_ | refine rR ?_ | refine rE ?_ | refine rG ?_ | refine FinQ.now ?_ | refine FinQ.end ?_)))
        · refine (hne 4 ?_ (by decide)).symm
          simp only [nErr, getD_get hlt]
          rw [if_neg (by simp [hnm]), if_pos ((mem_take_names (by omega)).2 ⟨k, by omega, hkt, h⟩)]
        · refine .mk (k + 1) ⟨hkt, fun j hj hjk => ?_⟩ (by omega) ?_ ?_
          · rcases Nat.lt_succ_iff_lt_or_eq.1 hjk with h3 | rfl
            · exact hpk j hj h3
            · exact h
          · simp [go_sem, encNet]
          · simp
      · have hki : k = i := by omega
        subst hki
        have hnt : ¬ n.nodes[k].name ∈ (n.nodes.take k).map Nd.name := by
          rw [mem_take_names (by omega)]
          rintro ⟨j, hj, hjk, e⟩
          exact hpk j hj hjk e
        refine J_run 200 ?_
        repeat' (first
          | (simp (maxSteps := 1000000) (disch := omega) only [go_sem])
          | ((with_reducible first | refine gDt ?_ ?_ | refine gDf ?_ ?_ | refine gNt ?_ ?_ | refine gNf ?_ ?_ | refine cD ?_ ?_ | refine cN ?_ ?_ | refine cB ?_ ?_ | refine gB ?_ ?_) <;> intro h)
          | with_reducible first | refine And.intro ?_ ?_ | refine J_seq ?_ | refine J_block ?_ | refine J_inBlock ?_ | refine rC ?_ | refine rR ?_ | refine rE ?_ | refine rG ?_ | refine FinQ.now ?_ | refine FinQ.end ?_)
        all_goals first
          | (refine (hne 5 ?_ (by decide)).symm; simp only [nErr, getD_get hlt]; rw [if_neg (by simp [hnm]), if_neg hnt, if_pos (by omega)]; done)
          | (refine .mk (k + 1) ⟨hlt, fun j hj => ?_⟩ (by omega) ?_ ?_; (· rcases Nat.lt_succ_iff_lt_or_eq.1 hj with h3 | rfl; (· exact hpre j h3); (· simp only [nErr, getD_get hlt]; rw [if_neg (by simp [hnm]), if_neg hnt, if_neg (by omega)])); (· simp [go_sem, encNet]); (· simp))
    · rw [Bool.not_eq_true] at hnm
      rw [hnm] at c1
      iterate 12 (all_goals (try (first
        | (simp (maxSteps := 1000000) (disch := omega) only [go_sem, hgi])
        | ((with_reducible refine CallA.pure c1 ?_ ?_); (· simp (disch := omega) only [go_sem, hgi]); rintro _ _ ⟨rfl, rfl⟩)
        | ((with_reducible first | refine gDt ?_ ?_ | refine gDf ?_ ?_ | refine gNt ?_ ?_ | refine gNf ?_ ?_ | refine cD ?_ ?_ | refine cN ?_ ?_ | refine cB ?_ ?_ | refine gB ?_ ?_) <;> intro h)
        | with_reducible first | refine And.intro ?_ ?_ | refine J_seq ?_ | refine J_block ?_ | refine J_inBlock ?_ | refine rC ?_ | refine rR ?_ | refine rE ?_ | refine rG ?_ | refine FinQ.now ?_ | refine FinQ.end ?_)))
      refine (hne 3 ?_ (by decide)).symm
      simp only [nErr, getD_get hlt, hnm, Bool.not_false, if_true]
  have hil : i = n.nodes.length := by omega
  subst hil
  have hN : firstE (nErr n) n.nodes.length = 0 := firstE_none hpre
  refine J_run 200 ?_
  iterate 12 (all_goals (try (first
    | (simp (maxSteps := 1000000) (disch := omega) only [go_sem])
    | ((with_reducible first | refine gDt ?_ ?_ | refine gDf ?_ ?_ | refine gNt ?_ ?_ | refine gNf ?_ ?_ | refine cD ?_ ?_ | refine cN ?_ ?_ | refine cB ?_ ?_ | refine gB ?_ ?_) <;> intro h)
    | with_reducible first | refine And.intro ?_ ?_ | refine J_seq ?_ | refine J_block ?_ | refine J_inBlock ?_ | refine rC ?_ | refine rR ?_ | refine rE ?_ | refine rG ?_ | refine FinQ.now ?_ | refine FinQ.end ?_)))
  refine J_for ([7, 8, 9] ++ upto 68 176) (fun i : Nat => [(6, .raw (.int .i64 i))]) (fun i => [.box (encNet n)]) (fun i => i ≤ n.devs.length ∧ ∀ j, j < i → dErr n j = 0) (fun i => n.devs.length - i) 0 ⟨by omega, by omega⟩ (.le (by simp [go_sem, encNet]) (by simp)) ?_
  rintro i ⟨hi, hpre⟩
  simp only [encNet]
  by_cases hlt : i < n.devs.length
  · have c1 := rName n.devs[i].name (hs.dn _ (List.getElem_mem hlt))
    have hgi := getD_Dv hlt
    have c2 := rJoins n.devs[i].kind
    have hne : ∀ e, dErr n i = e → e ≠ 0 → n.chk = e := fun e he h0 => by
      have := firstE_hit hlt hpre (by omega)
      simp only [Net.chk]; rw [if_neg hc0, if_neg (by omega), this, he]
    refine J_run 200 ?_
    by_cases hnm : isName n.devs[i].name = true
    · rw [hnm] at c1
      iterate 12 (all_goals (try (first
        | (simp (maxSteps := 1000000) (disch := omega) only [go_sem, hgi])
        | ((with_reducible refine CallA.pure c1 ?_ ?_); (· simp (disch := omega) only [go_sem, hgi]); rintro _ _ ⟨rfl, rfl⟩)
        | ((with_reducible first | refine gDt ?_ ?_ | refine gDf ?_ ?_ | refine gNt ?_ ?_ | refine gNf ?_ ?_ | refine cD ?_ ?_ | refine cN ?_ ?_ | refine cB ?_ ?_ | refine gB ?_ ?_) <;> intro h)
        | with_reducible first | refine And.intro ?_ ?_ | refine J_seq ?_ | refine J_block ?_ | refine J_inBlock ?_ | refine rC ?_ | refine rR ?_ | refine rE ?_ | refine rG ?_ | refine FinQ.now ?_ | refine FinQ.end ?_)))
      refine J_for ([] ++ upto 84 99) (fun k : Nat => [(8, .raw (.int .i64 k))]) (fun k => [.box (encNet n), .box (encDv n.devs[i])]) (fun k => k ≤ n.nodes.length ∧ ∀ j (hj : j < n.nodes.length), j < k → n.nodes[j].name ≠ n.devs[i].name) (fun k => n.nodes.length - k) 0 ⟨by omega, by omega⟩ (.le (by simp [go_sem, encNet, encDv]) (by simp)) ?_
      rintro k ⟨hk, hpk⟩
      simp only [encNet, encDv]
      by_cases hkt : k < n.nodes.length
      · have hgk := getD_Nd hkt
        refine J_run 200 ?_
        iterate 12 (all_goals (try (first
          | ((with_reducible refine J_draw (id := 25) 200 [] plan90_25 (by kernel_rfl) (by kernel_rfl) ?_); delta plan90_25)
          | (simp (maxSteps := 1000000) (disch := omega) only [go_sem, hgk])
          | ((with_reducible first | refine gDt ?_ ?_ | refine gDf ?_ ?_ | refine gNt ?_ ?_ | refine gNf ?_ ?_ | refine cD ?_ ?_ | refine cN ?_ ?_ | refine cB ?_ ?_ | refine gB ?_ ?_ | refine stepGuard_dect ?_ ?_ | refine stepGuard_decf ?_ ?_ | refine stepGuard_ndect ?_ ?_ | refine stepGuard_ndecf ?_ ?_ | refine stepGuard_by ?_ ?_) <;> intro h)
          | with_reducible first | refine And.intro ?_ ?_ | refine J_seq ?_ | refine J_block ?_ | refine J_inBlock ?_ | refine rC ?_ | refine rR ?_ | refine rE ?_ | refine rG ?_ | refine FinQ.now ?_ | refine FinQ.end ?_)))
        · refine (hne 4 ?_ (by decide)).symm
          simp only [dErr, getD_get hlt]
          rw [if_neg (by simp [hnm]), if_pos (List.mem_append_left _ (List.mem_map.2 ⟨_, List.getElem_mem hkt, h⟩))]
        · refine .mk (k + 1) ⟨hkt, fun j hj hjk => ?_⟩ (by omega) ?_ ?_
          · rcases Nat.lt_succ_iff_lt_or_eq.1 hjk with h3 | rfl
            · exact hpk j hj h3
            · exact h
          · simp [go_sem, encNet, encDv]
          · simp
      have hki : k = n.nodes.length := by omega
      subst hki
      refine J_run 200 ?_
      iterate 12 (all_goals (try (first
        | (simp (maxSteps := 1000000) (disch := omega) only [go_sem])
        | ((with_reducible first | refine gDt ?_ ?_ | refine gDf ?_ ?_ | refine gNt ?_ ?_ | refine gNf ?_ ?_ | refine cD ?_ ?_ | refine cN ?_ ?_ | refine cB ?_ ?_ | refine gB ?_ ?_) <;> intro h)
        | with_reducible first | refine And.intro ?_ ?_ | refine J_seq ?_ | refine J_block ?_ | refine J_inBlock ?_ | refine rC ?_ | refine rR ?_ | refine rE ?_ | refine rG ?_ | refine FinQ.now ?_ | refine FinQ.end ?_)))
      refine J_for ([] ++ upto 100 113) (fun k : Nat => [(9, .raw (.int .i64 k))]) (fun k => [.box (encNet n), .box (encDv n.devs[i])]) (fun k => k ≤ i ∧ ∀ j (hj : j < n.devs.length), j < k → n.devs[j].name ≠ n.devs[i].name) (fun k => i - k) 0 ⟨by omega, by omega⟩ (.le (by simp [go_sem, encNet, encDv]) (by simp)) ?_
      rintro k ⟨hk, hpk2⟩
      simp only [encNet, encDv]
      by_cases hkt : k < i
      · have hgk := getD_Dv (l := n.devs) (i := k) (by omega)
        refine J_run 200 ?_
        iterate 12 (all_goals (try (first
          | ((with_reducible refine J_draw (id := 30) 200 [] plan90_30 (by kernel_rfl) (by kernel_rfl) ?_); delta plan90_30)
          | (simp (maxSteps := 1000000) (disch := omega) only [go_sem, hgk])
          | ((with_reducible first | refine gDt ?_ ?_ | refine gDf ?_ ?_ | refine gNt ?_ ?_ | refine gNf ?_ ?_ | refine cD ?_ ?_ | refine cN ?_ ?_ | refine cB ?_ ?_ | refine gB ?_ ?_ | refine stepGuard_dect ?_ ?_ | refine stepGuard_decf ?_ ?_ | refine stepGuard_ndect ?_ ?_ | refine stepGuard_ndecf ?_ ?_ | refine stepGuard_by ?_ ?_) <;> intro h)
          | with_reducible first | refine And.intro ?_ ?_ | refine J_seq ?_ | refine J_block ?_ | refine J_inBlock ?_ | refine rC ?_ | refine rR ?_ | refine rE ?_ | refine rG ?_ | refine FinQ.now ?_ | refine FinQ.end ?_)))
        · refine (hne 4 ?_ (by decide)).symm
          simp only [dErr, getD_get hlt]
          rw [if_neg (by simp [hnm]), if_pos (List.mem_append_right _ ((mem_take_names (by omega)).2 ⟨k, by omega, hkt, h⟩))]
        · refine .mk (k + 1) ⟨hkt, fun j hj hjk => ?_⟩ (by omega) ?_ ?_
          · rcases Nat.lt_succ_iff_lt_or_eq.1 hjk with h3 | rfl
            · exact hpk2 j hj h3
            · exact h
          · simp [go_sem, encNet, encDv]
          · simp
      have hki : k = i := by omega
      subst hki
      have hnt : ¬ n.devs[k].name ∈ n.nodes.map Nd.name ++ (n.devs.take k).map Dv.name := by
        rw [List.mem_append, List.mem_map, mem_take_names (by omega)]
        rintro (⟨x, hx, e⟩ | ⟨j, hj, hjk, e⟩)
        · obtain ⟨j, hj, rfl⟩ := List.getElem_of_mem hx
          exact hpk j hj hj e
        · exact hpk2 j hj hjk e
      refine J_run 200 ?_
      cases hj : joinsK n.devs[k].kind
      all_goals
        rw [hj] at c2
        repeat' (first
          | (simp (maxSteps := 1000000) (disch := omega) only [go_sem])
          | ((with_reducible refine CallA.pure c2 ?_ ?_); (· simp (disch := omega) only [go_sem]); rintro _ _ ⟨rfl, rfl⟩)
          | ((with_reducible first | refine gDt ?_ ?_ | refine gDf ?_ ?_ | refine gNt ?_ ?_ | refine gNf ?_ ?_ | refine cD ?_ ?_ | refine cN ?_ ?_ | refine cB ?_ ?_ | refine gB ?_ ?_) <;> intro h)
          | with_reducible first | refine And.intro ?_ ?_ | refine J_seq ?_ | refine J_block ?_ | refine J_inBlock ?_ | refine rC ?_ | refine rR ?_ | refine rE ?_ | refine rG ?_ | refine FinQ.now ?_ | refine FinQ.end ?_)
        all_goals first
          | (refine (hne 5 ?_ (by decide)).symm; simp only [dErr, getD_get hlt, hj]; rw [if_neg (by simp [hnm]), if_neg hnt, if_neg (by omega), if_neg (by simp; omega), if_pos (by omega)]; done)
          | (refine (hne 6 ?_ (by decide)).symm; simp only [dErr, getD_get hlt, hj]; rw [if_neg (by simp [hnm]), if_neg hnt, if_pos (by omega)]; done)
          | (refine (hne 7 ?_ (by decide)).symm; simp only [dErr, getD_get hlt, hj]; rw [if_neg (by simp [hnm]), if_neg hnt, if_neg (by omega), if_pos (by simp; omega)]; done)
          | (refine .mk (k + 1) ⟨hlt, fun j hji => ?_⟩ (by omega) ?_ ?_; (· rcases Nat.lt_succ_iff_lt_or_eq.1 hji with h3 | rfl; (· exact hpre j h3); (· simp only [dErr, getD_get hlt, hj]; rw [if_neg (by simp [hnm]), if_neg hnt, if_neg (by omega), if_neg (by simp; omega), if_neg (by omega)])); (· simp [go_sem, encNet]); (· simp))
    · rw [Bool.not_eq_true] at hnm
      rw [hnm] at c1
      iterate 12 (all_goals (try (first
        | (simp (maxSteps := 1000000) (disch := omega) only [go_sem, hgi])
        | ((with_reducible refine CallA.pure c1 ?_ ?_); (· simp (disch := omega) only [go_sem, hgi]); rintro _ _ ⟨rfl, rfl⟩)
        | ((with_reducible first | refine gDt ?_ ?_ | refine gDf ?_ ?_ | refine gNt ?_ ?_ | refine gNf ?_ ?_ | refine cD ?_ ?_ | refine cN ?_ ?_ | refine cB ?_ ?_ | refine gB ?_ ?_) <;> intro h)
        | with_reducible first | refine And.intro ?_ ?_ | refine J_seq ?_ | refine J_block ?_ | refine J_inBlock ?_ | refine rC ?_ | refine rR ?_ | refine rE ?_ | refine rG ?_ | refine FinQ.now ?_ | refine FinQ.end ?_)))
      refine (hne 3 ?_ (by decide)).symm
      simp only [dErr, getD_get hlt, hnm, Bool.not_false, if_true]
  · have hil : i = n.devs.length := by omega
    subst hil
    have hD : firstE (dErr n) n.devs.length = 0 := firstE_none hpre
    refine J_run 200 ?_
    repeat' (first
      | (simp (maxSteps := 1000000) (disch := omega) only [go_sem])
      | ((with_reducible first | refine gDt ?_ ?_ | refine gDf ?_ ?_ | refine gNt ?_ ?_ | refine gNf ?_ ?_ | refine cD ?_ ?_ | refine cN ?_ ?_ | refine cB ?_ ?_ | refine gB ?_ ?_) <;> intro h)
      | with_reducible first | refine And.intro ?_ ?_ | refine J_seq ?_ | refine J_block ?_ | refine J_inBlock ?_ | refine rC ?_ | refine rR ?_ | refine rE ?_ | refine rG ?_ | refine FinQ.now ?_ | refine FinQ.end ?_)
    simp only [Net.chk]; rw [if_neg hc0, if_neg (by omega), hD]
end Go.Proofs.YtmfgaefefgnhbaaGreatDoor.Abs
namespace Go.Proofs.YtmfgaefefgnhbaaGreatDoor.Abs
set_option linter.unusedSimpArgs false
set_option linter.unusedVariables false
set_option maxRecDepth 100000
open Go Go.RowKit

theorem getD_Lk {l : List Lk} {i : Nat} (h : i < l.length) : (l.map encLk).getD i [] = [.raw (.int .i64 l[i].dev), .raw (.int .i64 l[i].pos), .raw (.int .i64 l[i].key)] := by rw [getD_map h]; rfl
theorem rFault (n : Net) (hs : n.sized) (k : Lk) : Fn1 Tryz.prog GT0 48 [.agg (encNet n), .agg (encLk k)] (.raw (.int .i64 (lErr n k))) [] := by
  have hdl := hs.dl
  refine holds_of Tryz.func48 rfl rfl ?_
  refine J_run 200 ?_
  delta Tryz.f48
  simp only [encNet, encLk]
  by_cases hd : k.dev < 0 ∨ (n.devs.length : Int) ≤ k.dev
  · have e : lErr n k = 8 := by unfold lErr; rw [if_pos hd]
    rw [e]
    repeat' (first
      | (exfalso; omega)
      | (simp (maxSteps := 1000000) (disch := omega) only [go_sem])
      | ((with_reducible first | refine gDt ?_ ?_ | refine gDf ?_ ?_ | refine gNt ?_ ?_ | refine gNf ?_ ?_ | refine cD ?_ ?_ | refine cN ?_ ?_ | refine cB ?_ ?_ | refine gB ?_ ?_) <;> intro h)
      | with_reducible first | refine And.intro ?_ ?_ | refine J_seq ?_ | refine J_block ?_ | refine J_inBlock ?_ | refine rC ?_ | refine rR ?_ | refine rE ?_ | refine rG ?_ | refine FinQ.now ?_ | refine FinQ.end ?_)
  · have hg := getD_Dv (l := n.devs) (i := k.dev.toNat) (by omega)
    have e1 : n.devs.getD k.dev.toNat ⟨⟨#[]⟩, 0, 0, 0, 0⟩ = n.devs[k.dev.toNat]'(by omega) := getD_get (by omega)
    have e : lErr n k = if (n.devs[k.dev.toNat]'(by omega)).kind = 5 then 6 else if k.pos ≠ 1 ∧ k.pos ≠ 2 then 10 else if k.key < 0 ∨ 65536 < k.key then 5 else 0 := by unfold lErr; rw [if_neg hd, e1]
    rw [e]
    repeat' (first
      | (exfalso; omega)
      | (simp (maxSteps := 1000000) (disch := omega) only [go_sem, hg])
      | ((with_reducible first | refine gDt ?_ ?_ | refine gDf ?_ ?_ | refine gNt ?_ ?_ | refine gNf ?_ ?_ | refine cD ?_ ?_ | refine cN ?_ ?_ | refine cB ?_ ?_ | refine gB ?_ ?_) <;> intro h)
      | with_reducible first | refine And.intro ?_ ?_ | refine J_seq ?_ | refine J_block ?_ | refine J_inBlock ?_ | refine rC ?_ | refine rR ?_ | refine rE ?_ | refine rG ?_ | refine FinQ.now ?_ | refine FinQ.end ?_)
    all_goals first
      | (rw [if_pos (by omega)]; done)
      | (rw [if_neg (by omega), if_pos (by omega)]; done)
      | (rw [if_neg (by omega), if_neg (by omega), if_pos (by omega)]; done)
      | (rw [if_neg (by omega), if_neg (by omega), if_neg (by omega)]; done)
theorem rBefore (a b : Lk) : Fn1 Tryz.prog GT0 50 [.agg (encLk a), .agg (encLk b)] (.raw (.bool (lkBefore a b))) [] := by
  refine holds_of Tryz.func50 rfl rfl ?_
  refine J_run 200 ?_
  delta Tryz.f50
  simp only [encLk]
  repeat' (first
    | (simp (maxSteps := 1000000) (disch := omega) only [go_sem])
    | ((with_reducible first | refine gDt ?_ ?_ | refine gDf ?_ ?_ | refine gNt ?_ ?_ | refine gNf ?_ ?_ | refine cD ?_ ?_ | refine cN ?_ ?_ | refine cB ?_ ?_ | refine gB ?_ ?_) <;> intro h)
    | with_reducible first | refine And.intro ?_ ?_ | refine J_seq ?_ | refine J_block ?_ | refine J_inBlock ?_ | refine rC ?_ | refine rR ?_ | refine rE ?_ | refine rG ?_ | refine FinQ.now ?_ | refine FinQ.end ?_)
  all_goals first | (rw [Bool.eq_iff_iff]; simp [lkBefore]; omega) | (simp_all [lkBefore]; done) | (rw [Bool.eq_iff_iff]; simp_all [lkBefore]; omega) | (simp_all [lkBefore]; omega) | omega
set_option maxHeartbeats 1000000 in
theorem rLocked (l : List Lk) (hl : l.length ≤ 1000000) (d : Int) : Fn1 Tryz.prog GT0 49 [.lst 3 (l.map encLk), .raw (.int .i64 d)] (.tup [.raw (.int .i64 ((lockedAt l d).getD 0)), .raw (.bool (lockedAt l d).isSome)]) [] := by
  refine holds_of Tryz.func49 rfl rfl ?_
  refine J_run 200 ?_
  delta Tryz.f49
  repeat' (first
    | (simp (maxSteps := 1000000) (disch := omega) only [go_sem])
    | ((with_reducible first | refine gDt ?_ ?_ | refine gDf ?_ ?_ | refine gNt ?_ ?_ | refine gNf ?_ ?_ | refine cD ?_ ?_ | refine cN ?_ ?_ | refine cB ?_ ?_ | refine gB ?_ ?_) <;> intro h)
    | with_reducible first | refine And.intro ?_ ?_ | refine J_seq ?_ | refine J_block ?_ | refine J_inBlock ?_ | refine rC ?_ | refine rR ?_ | refine rE ?_ | refine rG ?_ | refine FinQ.now ?_ | refine FinQ.end ?_)
  refine J_for ([] ++ upto 7 24) (fun i : Nat => [(6, .raw (.int .i64 i))]) (fun _ => []) (fun i => i ≤ l.length ∧ lockedAt l d = lockedAt (l.drop i) d) (fun i => l.length - i) 0 ⟨by omega, rfl⟩ (.le (by simp [go_sem]) (by simp)) ?_
  rintro i ⟨hi, hpre⟩
  by_cases hlt : i < l.length
  · have hg := getD_Lk hlt
    rw [List.drop_eq_getElem_cons hlt, lockedAt] at hpre
    rw [hpre]
    refine J_run 200 ?_
    repeat' (first
      | (simp (maxSteps := 1000000) (disch := omega) only [go_sem, hg])
      | ((with_reducible first | refine gDt ?_ ?_ | refine gDf ?_ ?_ | refine gNt ?_ ?_ | refine gNf ?_ ?_ | refine cD ?_ ?_ | refine cN ?_ ?_ | refine cB ?_ ?_ | refine gB ?_ ?_) <;> intro h)
      | with_reducible first | refine And.intro ?_ ?_ | refine J_seq ?_ | refine J_block ?_ | refine J_inBlock ?_ | refine rC ?_ | refine rR ?_ | refine rE ?_ | refine rG ?_ | refine FinQ.now ?_ | refine FinQ.end ?_)
    · rw [if_pos h]; rfl
    · refine .mk (i + 1) ⟨hlt, ?_⟩ (by omega) ?_ ?_
      · exact if_neg h
      · simp [go_sem]
      · simp
  · rw [List.drop_eq_nil_of_le (by omega)] at hpre
    rw [hpre]
    refine J_run 200 ?_
    repeat' (first
      | (simp (maxSteps := 1000000) (disch := omega) only [go_sem])
      | ((with_reducible first | refine gDt ?_ ?_ | refine gDf ?_ ?_ | refine gNt ?_ ?_ | refine gNf ?_ ?_ | refine cD ?_ ?_ | refine cN ?_ ?_ | refine cB ?_ ?_ | refine gB ?_ ?_) <;> intro h)
      | with_reducible first | refine And.intro ?_ ?_ | refine J_seq ?_ | refine J_block ?_ | refine J_inBlock ?_ | refine rC ?_ | refine rR ?_ | refine rE ?_ | refine rG ?_ | refine FinQ.now ?_ | refine FinQ.end ?_)
    rfl
end Go.Proofs.YtmfgaefefgnhbaaGreatDoor.Abs
namespace Go.Proofs.YtmfgaefefgnhbaaGreatDoor.Abs
set_option linter.unusedSimpArgs false
set_option linter.unusedVariables false
set_option maxRecDepth 100000
open Go Go.RowKit

theorem any_take {α : Type} {l : List α} {i : Nat} {p : α → Bool} (hi : i ≤ l.length) : (l.take i).any p = true ↔ ∃ j, ∃ hj : j < l.length, j < i ∧ p l[j] = true := by
  rw [List.any_eq_true]
  constructor
  · rintro ⟨x, hx, hp⟩
    obtain ⟨j, hj, rfl⟩ := List.getElem_of_mem hx
    rw [List.length_take] at hj
    exact ⟨j, by omega, by omega, by rwa [List.getElem_take] at hp⟩
  · rintro ⟨j, hj, hji, hp⟩
    exact ⟨l[j], by rw [List.mem_take_iff_getElem]; exact ⟨j, by omega, rfl⟩, hp⟩
theorem lockChk_hit {n : Net} {l : List Lk} (hc : n.chk = 0) (hl : ¬ 128 < l.length) {i : Nat} (hi : i < l.length) (hpre : ∀ j, j < i → kErr n l j = 0) {e : Int} (he : kErr n l i = e) (h0 : e ≠ 0) : lockChk n l = e := by
  unfold lockChk
  rw [if_neg (by simp [hc]), if_neg hl, firstE_hit hi hpre (by omega), he]
set_option maxHeartbeats 8000000 in
theorem rLockChk (n : Net) (hs : n.sized) (l : List Lk) (hl : l.length ≤ 1000000) : Fn1 Tryz.prog GT0 47 [.agg (encNet n), .lst 3 (l.map encLk)] (.raw (.int .i64 (lockChk n l))) [] := by
  have cc := refCheck n hs
  refine holds_of Tryz.func47 rfl rfl ?_
  refine J_run 200 ?_
  delta Tryz.f47
  simp only [encNet] at cc ⊢
  by_cases h0 : n.chk = 0
  · rw [h0] at cc
    by_cases h128 : 128 < l.length
    · have e : lockChk n l = 1 := by unfold lockChk; rw [if_neg (by simp [h0]), if_pos h128]
      rw [e]
      repeat' (first
        | (exfalso; omega)
        | (simp (maxSteps := 1000000) (disch := omega) only [go_sem])
        | ((with_reducible refine CallA.pure cc ?_ ?_); (· simp (disch := omega) only [go_sem]); rintro _ _ ⟨rfl, rfl⟩)
        | ((with_reducible first | refine gDt ?_ ?_ | refine gDf ?_ ?_ | refine gNt ?_ ?_ | refine gNf ?_ ?_ | refine cD ?_ ?_ | refine cN ?_ ?_ | refine cB ?_ ?_ | refine gB ?_ ?_) <;> intro h)
        | with_reducible first | refine And.intro ?_ ?_ | refine J_seq ?_ | refine J_block ?_ | refine J_inBlock ?_ | refine rC ?_ | refine rR ?_ | refine rE ?_ | refine rG ?_ | refine FinQ.now ?_ | refine FinQ.end ?_)
    iterate 10 (all_goals (try (first
      | (exfalso; omega)
      | (simp (maxSteps := 1000000) (disch := omega) only [go_sem])
      | ((with_reducible refine CallA.pure cc ?_ ?_); (· simp (disch := omega) only [go_sem]); rintro _ _ ⟨rfl, rfl⟩)
      | ((with_reducible first | refine gDt ?_ ?_ | refine gDf ?_ ?_ | refine gNt ?_ ?_ | refine gNf ?_ ?_ | refine cD ?_ ?_ | refine cN ?_ ?_ | refine cB ?_ ?_ | refine gB ?_ ?_) <;> intro h)
      | with_reducible first | refine And.intro ?_ ?_ | refine J_seq ?_ | refine J_block ?_ | refine J_inBlock ?_ | refine rC ?_ | refine rR ?_ | refine rE ?_ | refine rG ?_ | refine FinQ.now ?_ | refine FinQ.end ?_)))
    refine J_for ([7, 8, 9] ++ upto 18 92) (fun i : Nat => [(6, .raw (.int .i64 i))]) (fun i => [.box (encNet n)]) (fun i => i ≤ l.length ∧ ∀ j, j < i → kErr n l j = 0) (fun i => l.length - i) 0 ⟨by omega, by omega⟩ (.le (by simp [go_sem, encNet]) (by simp)) ?_
    rintro i ⟨hi, hpre⟩
    simp only [encNet]
    by_cases hlt : i < l.length
    · have hne := fun e => lockChk_hit (e := e) h0 h128 hlt hpre
      simp only [kErr, getD_get hlt] at hne
      have cf := rFault n hs l[i]
      simp only [encNet, encLk] at cf
      have hg := getD_Lk hlt
      refine J_run 200 ?_
      by_cases hf : lErr n l[i] = 0
      · rw [hf] at cf
        have hne2 := fun e he => hne e (by rw [if_neg (by simp [hf])]; exact he)
        by_cases hi0 : i = 0
        · have hnb : ¬ (0 < i ∧ lkBefore (l.getD (i - 1) .zero) l[i] = false) := by omega
          have hne3 := fun e he => hne2 e (by rw [if_neg hnb]; exact he)
          iterate 12 (all_goals (try (first
            | (exfalso; omega)
            | ((with_reducible refine J_draw (id := 9) 200 [] plan47_9 (by kernel_rfl) (by kernel_rfl) ?_); delta plan47_9)
            | ((with_reducible refine J_draw (id := 12) 200 [] plan47_12 (by kernel_rfl) (by kernel_rfl) ?_); delta plan47_12)
            | (simp (maxSteps := 1000000) (disch := omega) only [go_sem, hg])
            | ((with_reducible refine CallA.pure cf ?_ ?_); (· simp (disch := omega) only [go_sem, hg]); rintro _ _ ⟨rfl, rfl⟩)
            | ((with_reducible first | refine gDt ?_ ?_ | refine gDf ?_ ?_ | refine gNt ?_ ?_ | refine gNf ?_ ?_ | refine cD ?_ ?_ | refine cN ?_ ?_ | refine cB ?_ ?_ | refine gB ?_ ?_ | refine stepGuard_dect ?_ ?_ | refine stepGuard_decf ?_ ?_ | refine stepGuard_ndect ?_ ?_ | refine stepGuard_ndecf ?_ ?_ | refine stepGuard_by ?_ ?_) <;> intro h)
            | with_reducible first | refine And.intro ?_ ?_ | refine J_seq ?_ | refine J_block ?_ | refine J_inBlock ?_ | refine rC ?_ | refine rR ?_ | refine rE ?_ | refine rG ?_ | refine FinQ.now ?_ | refine FinQ.end ?_)))
          refine J_for (upto 48 76) (fun k : Nat => [(8, .raw (.int .i64 k))]) (fun _ => [.box (encNet n)]) (fun k => k ≤ i ∧ ∀ j (hj : j < l.length), j < k → ¬ (l[j].dev = l[i].dev ∧ l[j].pos ≠ l[i].pos)) (fun k => i - k) 0 ⟨by omega, by omega⟩ (.le (by simp [go_sem, encNet]) (by simp)) ?_
          rintro k ⟨hk, hpk⟩
          simp only [encNet]
          by_cases hkt : k < i
          · have hgk := getD_Lk (l := l) (i := k) (by omega)
            refine J_run 200 ?_
            iterate 14 (all_goals (try (first
              | (exfalso; omega)
              | ((with_reducible refine J_draw (id := 17) 200 [] plan47_17 (by kernel_rfl) (by kernel_rfl) ?_); delta plan47_17)
              | (simp (maxSteps := 1000000) (disch := omega) only [go_sem, hg, hgk])
              | ((with_reducible first | refine gDt ?_ ?_ | refine gDf ?_ ?_ | refine gNt ?_ ?_ | refine gNf ?_ ?_ | refine cD ?_ ?_ | refine cN ?_ ?_ | refine cB ?_ ?_ | refine gB ?_ ?_ | refine stepGuard_dect ?_ ?_ | refine stepGuard_decf ?_ ?_ | refine stepGuard_ndect ?_ ?_ | refine stepGuard_ndecf ?_ ?_ | refine stepGuard_by ?_ ?_) <;> intro h)
              | with_reducible first | refine And.intro ?_ ?_ | refine J_seq ?_ | refine J_block ?_ | refine J_inBlock ?_ | refine rC ?_ | refine rR ?_ | refine rE ?_ | refine rG ?_ | refine FinQ.now ?_ | refine FinQ.end ?_)))
            all_goals first
              | (refine (hne3 18 ?_ (by decide)).symm; rw [if_pos ((any_take (by omega)).2 ⟨k, by omega, hkt, by simp; omega⟩)]; done)
              | (refine .mk (k + 1) ⟨hkt, fun j hj hjk => ?_⟩ (by omega) ?_ ?_; (· rcases Nat.lt_succ_iff_lt_or_eq.1 hjk with h3 | rfl; (· exact hpk j hj h3); (· omega)); (· simp [go_sem, encNet]); (· simp))
          have hki : k = i := by omega
          subst hki
          have hn1 : ¬ (l.take k).any (fun x => decide (x.dev = l[k].dev ∧ x.pos ≠ l[k].pos)) = true := by
            rw [any_take (by omega)]
            rintro ⟨j, hj, hjk, e⟩
            exact hpk j hj hjk (of_decide_eq_true e)
          have hne4 := fun e he => hne3 e (by rw [if_neg hn1]; exact he)
          refine J_run 200 ?_
          iterate 10 (all_goals (try (first
            | (simp (maxSteps := 1000000) (disch := omega) only [go_sem])
            | ((with_reducible first | refine gDt ?_ ?_ | refine gDf ?_ ?_ | refine gNt ?_ ?_ | refine gNf ?_ ?_ | refine cD ?_ ?_ | refine cN ?_ ?_ | refine cB ?_ ?_ | refine gB ?_ ?_) <;> intro h)
            | with_reducible first | refine And.intro ?_ ?_ | refine J_seq ?_ | refine J_block ?_ | refine J_inBlock ?_ | refine rC ?_ | refine rR ?_ | refine rE ?_ | refine rG ?_ | refine FinQ.now ?_ | refine FinQ.end ?_)))
          refine J_for (upto 77 92) (fun k : Nat => [(9, .raw (.int .i64 k))]) (fun _ => [.box (encNet n)]) (fun q => q ≤ k ∧ ∀ j (hj : j < l.length), j < q → ¬ l[j].key = l[k].key) (fun q => k - q) 0 ⟨by omega, by omega⟩ (.le (by simp [go_sem, encNet]) (by simp)) ?_
          rintro q ⟨hq, hpq⟩
          simp only [encNet]
          by_cases hqt : q < k
          · have hgq := getD_Lk (l := l) (i := q) (by omega)
            refine J_run 200 ?_
            iterate 14 (all_goals (try (first
              | (exfalso; omega)
              | ((with_reducible refine J_draw (id := 22) 200 [] plan47_22 (by kernel_rfl) (by kernel_rfl) ?_); delta plan47_22)
              | (simp (maxSteps := 1000000) (disch := omega) only [go_sem, hg, hgq])
              | ((with_reducible first | refine gDt ?_ ?_ | refine gDf ?_ ?_ | refine gNt ?_ ?_ | refine gNf ?_ ?_ | refine cD ?_ ?_ | refine cN ?_ ?_ | refine cB ?_ ?_ | refine gB ?_ ?_ | refine stepGuard_dect ?_ ?_ | refine stepGuard_decf ?_ ?_ | refine stepGuard_ndect ?_ ?_ | refine stepGuard_ndecf ?_ ?_ | refine stepGuard_by ?_ ?_) <;> intro h)
              | with_reducible first | refine And.intro ?_ ?_ | refine J_seq ?_ | refine J_block ?_ | refine J_inBlock ?_ | refine rC ?_ | refine rR ?_ | refine rE ?_ | refine rG ?_ | refine FinQ.now ?_ | refine FinQ.end ?_)))
            all_goals first
              | (refine (hne4 4 ?_ (by decide)).symm; rw [if_pos ((any_take (by omega)).2 ⟨q, by omega, hqt, by simp; omega⟩)]; done)
              | (refine .mk (q + 1) ⟨hqt, fun j hj hjk => ?_⟩ (by omega) ?_ ?_; (· rcases Nat.lt_succ_iff_lt_or_eq.1 hjk with h3 | rfl; (· exact hpq j hj h3); (· omega)); (· simp [go_sem, encNet]); (· simp))
          have hqk : q = k := by omega
          subst hqk
          have hn2 : ¬ (l.take q).any (fun x => decide (x.key = l[q].key)) = true := by
            rw [any_take (by omega)]
            rintro ⟨j, hj, hjk, e⟩
            exact hpq j hj hjk (of_decide_eq_true e)
          refine J_run 200 ?_
          iterate 10 (all_goals (try (first
            | (simp (maxSteps := 1000000) (disch := omega) only [go_sem])
            | ((with_reducible first | refine gDt ?_ ?_ | refine gDf ?_ ?_ | refine gNt ?_ ?_ | refine gNf ?_ ?_ | refine cD ?_ ?_ | refine cN ?_ ?_ | refine cB ?_ ?_ | refine gB ?_ ?_) <;> intro h)
            | with_reducible first | refine And.intro ?_ ?_ | refine J_seq ?_ | refine J_block ?_ | refine J_inBlock ?_ | refine rC ?_ | refine rR ?_ | refine rE ?_ | refine rG ?_ | refine FinQ.now ?_ | refine FinQ.end ?_)))
          refine .mk (q + 1) ⟨hlt, fun j hji => ?_⟩ (by omega) ?_ ?_
          · rcases Nat.lt_succ_iff_lt_or_eq.1 hji with h3 | rfl
            · exact hpre j h3
            · simp only [kErr, getD_get hlt]
              simp only [hf, ne_eq, not_true_eq_false, if_false]
              first | rw [if_neg hnb, if_neg hn1, if_neg hn2] | (rw [e2, if_neg hnb, if_neg hn1, if_neg hn2])
          · simp [go_sem, encNet]
          · simp
        · have hg' := getD_Lk (l := l) (i := i - 1) (by omega)
          have e1 : ((i : Int) - 1).toNat = i - 1 := by omega
          have e2 : l.getD (i - 1) .zero = l[i - 1]'(by omega) := getD_get (by omega)
          have cb := rBefore (l[i - 1]'(by omega)) l[i]
          rw [e2] at hne2
          simp only [encLk] at cb
          cases hb : lkBefore (l[i - 1]'(by omega)) l[i] with
          | false =>
            rw [hb] at cb
            have e := hne2 14 (by rw [if_pos ⟨by omega, hb⟩]) (by decide)
            rw [e]
            iterate 12 (all_goals (try (first
              | (exfalso; omega)
              | ((with_reducible refine J_draw (id := 9) 200 [] plan47_9 (by kernel_rfl) (by kernel_rfl) ?_); delta plan47_9)
              | ((with_reducible refine J_draw (id := 12) 200 [] plan47_12 (by kernel_rfl) (by kernel_rfl) ?_); delta plan47_12)
              | (simp (maxSteps := 1000000) (disch := omega) only [go_sem, hg, hg', e1])
              | ((with_reducible refine CallA.pure cf ?_ ?_); (· simp (disch := omega) only [go_sem, hg, hg', e1]); rintro _ _ ⟨rfl, rfl⟩)
              | ((with_reducible refine CallA.pure cb ?_ ?_); (· simp (disch := omega) only [go_sem, hg, hg', e1]); rintro _ _ ⟨rfl, rfl⟩)
              | ((with_reducible first | refine gDt ?_ ?_ | refine gDf ?_ ?_ | refine gNt ?_ ?_ | refine gNf ?_ ?_ | refine cD ?_ ?_ | refine cN ?_ ?_ | refine cB ?_ ?_ | refine gB ?_ ?_ | refine stepGuard_dect ?_ ?_ | refine stepGuard_decf ?_ ?_ | refine stepGuard_ndect ?_ ?_ | refine stepGuard_ndecf ?_ ?_ | refine stepGuard_by ?_ ?_) <;> intro h)
              | with_reducible first | refine And.intro ?_ ?_ | refine J_seq ?_ | refine J_block ?_ | refine J_inBlock ?_ | refine rC ?_ | refine rR ?_ | refine rE ?_ | refine rG ?_ | refine FinQ.now ?_ | refine FinQ.end ?_)))
          | true =>
            rw [hb] at cb
            have hnb : ¬ (0 < i ∧ lkBefore (l[i - 1]'(by omega)) l[i] = false) := by simp [hb]
            have hne3 := fun e he => hne2 e (by rw [if_neg hnb]; exact he)
            iterate 12 (all_goals (try (first
              | (exfalso; omega)
              | ((with_reducible refine J_draw (id := 9) 200 [] plan47_9 (by kernel_rfl) (by kernel_rfl) ?_); delta plan47_9)
              | ((with_reducible refine J_draw (id := 12) 200 [] plan47_12 (by kernel_rfl) (by kernel_rfl) ?_); delta plan47_12)
              | (simp (maxSteps := 1000000) (disch := omega) only [go_sem, hg, hg', e1])
              | ((with_reducible refine CallA.pure cf ?_ ?_); (· simp (disch := omega) only [go_sem, hg, hg', e1]); rintro _ _ ⟨rfl, rfl⟩)
              | ((with_reducible refine CallA.pure cb ?_ ?_); (· simp (disch := omega) only [go_sem, hg, hg', e1]); rintro _ _ ⟨rfl, rfl⟩)
              | ((with_reducible first | refine gDt ?_ ?_ | refine gDf ?_ ?_ | refine gNt ?_ ?_ | refine gNf ?_ ?_ | refine cD ?_ ?_ | refine cN ?_ ?_ | refine cB ?_ ?_ | refine gB ?_ ?_ | refine stepGuard_dect ?_ ?_ | refine stepGuard_decf ?_ ?_ | refine stepGuard_ndect ?_ ?_ | refine stepGuard_ndecf ?_ ?_ | refine stepGuard_by ?_ ?_) <;> intro h)
              | with_reducible first | refine And.intro ?_ ?_ | refine J_seq ?_ | refine J_block ?_ | refine J_inBlock ?_ | refine rC ?_ | refine rR ?_ | refine rE ?_ | refine rG ?_ | refine FinQ.now ?_ | refine FinQ.end ?_)))
            refine J_for (upto 48 76) (fun k : Nat => [(8, .raw (.int .i64 k))]) (fun _ => [.box (encNet n)]) (fun k => k ≤ i ∧ ∀ j (hj : j < l.length), j < k → ¬ (l[j].dev = l[i].dev ∧ l[j].pos ≠ l[i].pos)) (fun k => i - k) 0 ⟨by omega, by omega⟩ (.le (by simp [go_sem, encNet]) (by simp)) ?_
            rintro k ⟨hk, hpk⟩
            simp only [encNet]
            by_cases hkt : k < i
            · have hgk := getD_Lk (l := l) (i := k) (by omega)
              refine J_run 200 ?_
              iterate 14 (all_goals (try (first
                | (exfalso; omega)
                | ((with_reducible refine J_draw (id := 17) 200 [] plan47_17 (by kernel_rfl) (by kernel_rfl) ?_); delta plan47_17)
                | (simp (maxSteps := 1000000) (disch := omega) only [go_sem, hg, hgk])
                | ((with_reducible first | refine gDt ?_ ?_ | refine gDf ?_ ?_ | refine gNt ?_ ?_ | refine gNf ?_ ?_ | refine cD ?_ ?_ | refine cN ?_ ?_ | refine cB ?_ ?_ | refine gB ?_ ?_ | refine stepGuard_dect ?_ ?_ | refine stepGuard_decf ?_ ?_ | refine stepGuard_ndect ?_ ?_ | refine stepGuard_ndecf ?_ ?_ | refine stepGuard_by ?_ ?_) <;> intro h)
                | with_reducible first | refine And.intro ?_ ?_ | refine J_seq ?_ | refine J_block ?_ | refine J_inBlock ?_ | refine rC ?_ | refine rR ?_ | refine rE ?_ | refine rG ?_ | refine FinQ.now ?_ | refine FinQ.end ?_)))
              all_goals first
                | (refine (hne3 18 ?_ (by decide)).symm; rw [if_pos ((any_take (by omega)).2 ⟨k, by omega, hkt, by simp; omega⟩)]; done)
                | (refine .mk (k + 1) ⟨hkt, fun j hj hjk => ?_⟩ (by omega) ?_ ?_; (· rcases Nat.lt_succ_iff_lt_or_eq.1 hjk with h3 | rfl; (· exact hpk j hj h3); (· omega)); (· simp [go_sem, encNet]); (· simp))
            have hki : k = i := by omega
            subst hki
            have hn1 : ¬ (l.take k).any (fun x => decide (x.dev = l[k].dev ∧ x.pos ≠ l[k].pos)) = true := by
              rw [any_take (by omega)]
              rintro ⟨j, hj, hjk, e⟩
              exact hpk j hj hjk (of_decide_eq_true e)
            have hne4 := fun e he => hne3 e (by rw [if_neg hn1]; exact he)
            refine J_run 200 ?_
            iterate 10 (all_goals (try (first
              | (simp (maxSteps := 1000000) (disch := omega) only [go_sem])
              | ((with_reducible first | refine gDt ?_ ?_ | refine gDf ?_ ?_ | refine gNt ?_ ?_ | refine gNf ?_ ?_ | refine cD ?_ ?_ | refine cN ?_ ?_ | refine cB ?_ ?_ | refine gB ?_ ?_) <;> intro h)
              | with_reducible first | refine And.intro ?_ ?_ | refine J_seq ?_ | refine J_block ?_ | refine J_inBlock ?_ | refine rC ?_ | refine rR ?_ | refine rE ?_ | refine rG ?_ | refine FinQ.now ?_ | refine FinQ.end ?_)))
            refine J_for (upto 77 92) (fun k : Nat => [(9, .raw (.int .i64 k))]) (fun _ => [.box (encNet n)]) (fun q => q ≤ k ∧ ∀ j (hj : j < l.length), j < q → ¬ l[j].key = l[k].key) (fun q => k - q) 0 ⟨by omega, by omega⟩ (.le (by simp [go_sem, encNet]) (by simp)) ?_
            rintro q ⟨hq, hpq⟩
            simp only [encNet]
            by_cases hqt : q < k
            · have hgq := getD_Lk (l := l) (i := q) (by omega)
              refine J_run 200 ?_
              iterate 14 (all_goals (try (first
                | (exfalso; omega)
                | ((with_reducible refine J_draw (id := 22) 200 [] plan47_22 (by kernel_rfl) (by kernel_rfl) ?_); delta plan47_22)
                | (simp (maxSteps := 1000000) (disch := omega) only [go_sem, hg, hgq])
                | ((with_reducible first | refine gDt ?_ ?_ | refine gDf ?_ ?_ | refine gNt ?_ ?_ | refine gNf ?_ ?_ | refine cD ?_ ?_ | refine cN ?_ ?_ | refine cB ?_ ?_ | refine gB ?_ ?_ | refine stepGuard_dect ?_ ?_ | refine stepGuard_decf ?_ ?_ | refine stepGuard_ndect ?_ ?_ | refine stepGuard_ndecf ?_ ?_ | refine stepGuard_by ?_ ?_) <;> intro h)
                | with_reducible first | refine And.intro ?_ ?_ | refine J_seq ?_ | refine J_block ?_ | refine J_inBlock ?_ | refine rC ?_ | refine rR ?_ | refine rE ?_ | refine rG ?_ | refine FinQ.now ?_ | refine FinQ.end ?_)))
              all_goals first
                | (refine (hne4 4 ?_ (by decide)).symm; rw [if_pos ((any_take (by omega)).2 ⟨q, by omega, hqt, by simp; omega⟩)]; done)
                | (refine .mk (q + 1) ⟨hqt, fun j hj hjk => ?_⟩ (by omega) ?_ ?_; (· rcases Nat.lt_succ_iff_lt_or_eq.1 hjk with h3 | rfl; (· exact hpq j hj h3); (· omega)); (· simp [go_sem, encNet]); (· simp))
            have hqk : q = k := by omega
            subst hqk
            have hn2 : ¬ (l.take q).any (fun x => decide (x.key = l[q].key)) = true := by
              rw [any_take (by omega)]
              rintro ⟨j, hj, hjk, e⟩
              exact hpq j hj hjk (of_decide_eq_true e)
            refine J_run 200 ?_
            iterate 10 (all_goals (try (first
              | (simp (maxSteps := 1000000) (disch := omega) only [go_sem])
              | ((with_reducible first | refine gDt ?_ ?_ | refine gDf ?_ ?_ | refine gNt ?_ ?_ | refine gNf ?_ ?_ | refine cD ?_ ?_ | refine cN ?_ ?_ | refine cB ?_ ?_ | refine gB ?_ ?_) <;> intro h)
              | with_reducible first | refine And.intro ?_ ?_ | refine J_seq ?_ | refine J_block ?_ | refine J_inBlock ?_ | refine rC ?_ | refine rR ?_ | refine rE ?_ | refine rG ?_ | refine FinQ.now ?_ | refine FinQ.end ?_)))
            refine .mk (q + 1) ⟨hlt, fun j hji => ?_⟩ (by omega) ?_ ?_
            · rcases Nat.lt_succ_iff_lt_or_eq.1 hji with h3 | rfl
              · exact hpre j h3
              · simp only [kErr, getD_get hlt]
                simp only [hf, ne_eq, not_true_eq_false, if_false]
                first | rw [if_neg hnb, if_neg hn1, if_neg hn2] | (rw [e2, if_neg hnb, if_neg hn1, if_neg hn2])
            · simp [go_sem, encNet]
            · simp
      · have e := hne _ (if_pos hf) hf
        rw [e]
        repeat' (first
          | (exfalso; omega)
          | ((with_reducible refine J_draw (id := 9) 200 [] plan47_9 (by kernel_rfl) (by kernel_rfl) ?_); delta plan47_9)
          | (simp (maxSteps := 1000000) (disch := omega) only [go_sem, hg])
          | ((with_reducible refine CallA.pure cf ?_ ?_); (· simp (disch := omega) only [go_sem, hg]); rintro _ _ ⟨rfl, rfl⟩)
          | ((with_reducible first | refine gDt ?_ ?_ | refine gDf ?_ ?_ | refine gNt ?_ ?_ | refine gNf ?_ ?_ | refine cD ?_ ?_ | refine cN ?_ ?_ | refine cB ?_ ?_ | refine gB ?_ ?_ | refine stepGuard_dect ?_ ?_ | refine stepGuard_decf ?_ ?_ | refine stepGuard_ndect ?_ ?_ | refine stepGuard_ndecf ?_ ?_ | refine stepGuard_by ?_ ?_) <;> intro h)
          | with_reducible first | refine And.intro ?_ ?_ | refine J_seq ?_ | refine J_block ?_ | refine J_inBlock ?_ | refine rC ?_ | refine rR ?_ | refine rE ?_ | refine rG ?_ | refine FinQ.now ?_ | refine FinQ.end ?_)
    · refine J_run 200 ?_
      have e : lockChk n l = 0 := by
        unfold lockChk
        rw [if_neg (by simp [h0]), if_neg h128]
        exact firstE_none fun j hj => hpre j (by omega)
      rw [e]
      repeat' (first
        | (simp (maxSteps := 1000000) (disch := omega) only [go_sem])
        | ((with_reducible first | refine gDt ?_ ?_ | refine gDf ?_ ?_ | refine gNt ?_ ?_ | refine gNf ?_ ?_ | refine cD ?_ ?_ | refine cN ?_ ?_ | refine cB ?_ ?_ | refine gB ?_ ?_) <;> intro h)
        | with_reducible first | refine And.intro ?_ ?_ | refine J_seq ?_ | refine J_block ?_ | refine J_inBlock ?_ | refine rC ?_ | refine rR ?_ | refine rE ?_ | refine rG ?_ | refine FinQ.now ?_ | refine FinQ.end ?_)
  · have e : lockChk n l = n.chk := by unfold lockChk; rw [if_pos h0]
    rw [e]
    iterate 12 (all_goals (try (first
      | (exfalso; omega)
      | (simp (maxSteps := 1000000) (disch := omega) only [go_sem])
      | ((with_reducible refine CallA.pure cc ?_ ?_); (· simp (disch := omega) only [go_sem]); rintro _ _ ⟨rfl, rfl⟩)
      | ((with_reducible first | refine gDt ?_ ?_ | refine gDf ?_ ?_ | refine gNt ?_ ?_ | refine gNf ?_ ?_ | refine cD ?_ ?_ | refine cN ?_ ?_ | refine cB ?_ ?_ | refine gB ?_ ?_) <;> intro h)
      | with_reducible first | refine And.intro ?_ ?_ | refine J_seq ?_ | refine J_block ?_ | refine J_inBlock ?_ | refine rC ?_ | refine rR ?_ | refine rE ?_ | refine rG ?_ | refine FinQ.now ?_ | refine FinQ.end ?_)))
end Go.Proofs.YtmfgaefefgnhbaaGreatDoor.Abs
