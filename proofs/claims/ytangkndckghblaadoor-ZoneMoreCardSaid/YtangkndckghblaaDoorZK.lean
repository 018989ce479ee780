/- Names and the check of a network: what the functions compute. -/
import Derived.Test.YtangkndckghblaaDoorZH
namespace Go.Proofs.YtangkndckghblaaDoor.Abs
set_option linter.unusedSimpArgs false
set_option linter.unusedVariables false
set_option maxRecDepth 100000
open Go Go.RowKit

theorem byte_lt (s : ByteArray) (i : Nat) : (s.data.toList.getD i 0).toNat < 256 := UInt8.toNat_lt _
theorem byteAt_eq (s : ByteArray) (i : Nat) : (s.data.toList.getD i 0).toNat = byteAt s i := by simp [byteAt, Array.getD_eq_getD_getElem?, List.getD_eq_getElem?_getD]
/-- A name, byte by byte. -/
theorem isName_iff (s : ByteArray) : isName s = ((List.range s.size).all (fun i => fitsB (byteAt s i) (decide (i = 0))) && decide (1 ≤ s.size ∧ s.size ≤ 12)) := by
  rw [Bool.eq_iff_iff]
  simp only [isName, Bool.and_eq_true, decide_eq_true_eq, List.all_eq_true, List.mem_range]
  constructor
  · rintro ⟨⟨h1, h2⟩, h3⟩
    refine ⟨fun i hi => ?_, h1⟩
    have := h3 i hi
    by_cases h0 : i = 0
    · subst h0; simp [fitsB, h2]
    · simp only [Bool.or_eq_true, decide_eq_true_eq] at this
      simp only [fitsB, h0, decide_false, Bool.not_false, Bool.true_and, Bool.or_eq_true, decide_eq_true_eq]
      rcases this with (h | h) | h
      · exact .inl h
      · exact .inr (.inl h)
      · exact .inr (.inr h)
  · rintro ⟨h1, h2⟩
    refine ⟨⟨h2, ?_⟩, fun i hi => ?_⟩
    · have := h1 0 (by omega)
      simpa [fitsB] using this
    · have := h1 i hi
      simp only [fitsB, Bool.or_eq_true, Bool.and_eq_true, decide_eq_true_eq] at this ⊢
      rcases this with h | ⟨_, h | h⟩
      · exact .inl (.inl h)
      · exact .inl (.inr h)
      · exact .inr h
set_option maxHeartbeats 1000000 in
theorem nameF (s : ByteArray) (hs : s.size ≤ 9223372036854775807) : Fn1 Tryd.prog GT0 77 [.raw (.string s)] (.raw (.bool (isName s))) [] := by
  refine holds_of Tryd.func77 rfl rfl ?_
  refine J_run 200 ?_
  delta Tryd.f77
  repeat' (first
    | (simp (maxSteps := 1000000) (disch := omega) only [go_sem])
    | ((with_reducible first | refine gDt ?_ ?_ | refine gDf ?_ ?_ | refine gNt ?_ ?_ | refine gNf ?_ ?_ | refine cD ?_ ?_ | refine cN ?_ ?_ | refine cB ?_ ?_ | refine gB ?_ ?_) <;> intro h)
    | with_reducible first | refine And.intro ?_ ?_ | refine J_seq ?_ | refine J_block ?_ | refine J_inBlock ?_ | refine rC ?_ | refine rR ?_ | refine rE ?_ | refine rG ?_ | refine FinQ.now ?_ | refine FinQ.end ?_)
  refine J_for ([3] ++ upto 7 16) (fun i : Nat => [(6, .raw (.int .i64 i))]) (fun _ => []) (fun i => i ≤ s.size ∧ ∀ j, j < i → fitsB (byteAt s j) (decide (j = 0)) = true) (fun i => s.size - i) 0 ⟨by omega, by omega⟩ (.le (by simp [go_sem]) (by simp)) ?_
  rintro i ⟨hi, hpre⟩
  by_cases hlt : i < s.size
  · have c := fits (byteAt s i) (by rw [← byteAt_eq]; exact byte_lt s i) (decide ((i : Int) = 0))
    have e0 : decide ((i : Int) = 0) = decide (i = 0) := by simp
    refine J_run 200 ?_
    repeat' (first
      | (simp (maxSteps := 1000000) (disch := omega) only [go_sem, byteAt_eq])
      | ((with_reducible refine CallA.pure c ?_ ?_); (· simp only [go_sem]); rintro _ _ ⟨rfl, rfl⟩)
      | ((with_reducible first | refine gDt ?_ ?_ | refine gDf ?_ ?_ | refine gNt ?_ ?_ | refine gNf ?_ ?_ | refine cD ?_ ?_ | refine cN ?_ ?_ | refine cB ?_ ?_ | refine gB ?_ ?_) <;> intro h)
      | with_reducible first | refine And.intro ?_ ?_ | refine J_seq ?_ | refine J_block ?_ | refine J_inBlock ?_ | refine rC ?_ | refine rR ?_ | refine rE ?_ | refine rG ?_ | refine FinQ.now ?_ | refine FinQ.end ?_)
    all_goals rw [e0] at h
    · rw [isName_iff]
      symm
      rw [Bool.and_eq_false_iff]
      left
      rw [List.all_eq_false]
      exact ⟨i, List.mem_range.2 hlt, by simpa using h⟩
    · refine .mk (i + 1) ⟨hlt, fun j hj => ?_⟩ (by omega) (by simp [go_sem]) (by simp)
      rcases Nat.lt_succ_iff_lt_or_eq.1 hj with h3 | rfl
      · exact hpre j h3
      · simpa using h
  · refine J_run 200 ?_
    have hall : (List.range s.size).all (fun i => fitsB (byteAt s i) (decide (i = 0))) = true := by
      rw [List.all_eq_true]
      exact fun j hj => hpre j (by have := List.mem_range.1 hj; omega)
    repeat' (first
      | (simp (maxSteps := 1000000) (disch := omega) only [go_sem])
      | ((with_reducible first | refine gDt ?_ ?_ | refine gDf ?_ ?_ | refine gNt ?_ ?_ | refine gNf ?_ ?_ | refine cD ?_ ?_ | refine cN ?_ ?_ | refine cB ?_ ?_ | refine gB ?_ ?_) <;> intro h)
      | with_reducible first | refine And.intro ?_ ?_ | refine J_seq ?_ | refine J_block ?_ | refine J_inBlock ?_ | refine rC ?_ | refine rR ?_ | refine rE ?_ | refine rG ?_ | refine FinQ.now ?_ | refine FinQ.end ?_)
    all_goals (rw [isName_iff, hall, Bool.true_and])
    all_goals (rw [Bool.eq_iff_iff]; simp; omega)

theorem endsB_iff (x : Dv) (nl : Nat) : endsB x nl = !decide (x.a < 0 ∨ (nl : Int) ≤ x.a ∨ (joinsK x.kind = true ∧ (x.b < 0 ∨ (nl : Int) ≤ x.b ∨ x.b = x.a)) ∨ (joinsK x.kind = false ∧ x.b ≠ -1)) := by
  rw [Bool.eq_iff_iff]
  cases hj : joinsK x.kind <;> simp [endsB, hj] <;> omega
theorem names_len (n : Net) (i j : Nat) : (n.nodes.map Nd.name ++ (n.devs.take j).map Dv.name).length ≤ n.nodes.length + n.devs.length := by simp; omega
theorem take_map_succ {α β : Type} {f : α → β} {l : List α} {i : Nat} (hi : i < l.length) : (l.take (i + 1)).map f = (l.take i).map f ++ [f l[i]] := by
  rw [List.take_succ_eq_append_getElem hi, List.map_append]; rfl
theorem getD_Nd {l : List Nd} {i : Nat} (h : i < l.length) : (l.map encNd).getD i [] = [.raw (.string l[i].name), .raw (.int .i64 l[i].cust), .raw (.int .i64 l[i].comp)] := by rw [getD_map h]; rfl
theorem getD_Dv {l : List Dv} {i : Nat} (h : i < l.length) : (l.map encDv).getD i [] = [.raw (.string l[i].name), .raw (.int .i64 l[i].kind), .raw (.int .i64 l[i].a), .raw (.int .i64 l[i].b), .raw (.int .i64 l[i].comp)] := by rw [getD_map h]; rfl
/-- Names are no longer than memory holds. -/
structure Net.sized (n : Net) : Prop where
  nl : n.nodes.length ≤ 9223372036854775807
  dl : n.devs.length ≤ 9223372036854775807
  nn : ∀ x, x ∈ n.nodes → x.name.size ≤ 9223372036854775807
  dn : ∀ x, x ∈ n.devs → x.name.size ≤ 9223372036854775807
set_option maxHeartbeats 8000000 in
theorem netCheck (n : Net) (hs : n.sized) : Fn1 Tryd.prog GT0 58 [.agg (encNet n)] (.raw (.int .i64 n.chk)) [] := by
  have h1 := hs.nl; have h2 := hs.dl
  refine holds_of Tryd.func58 rfl rfl ?_
  refine J_run 200 ?_
  delta Tryd.f58
  simp only [encNet]
  repeat' (first
    | (simp (maxSteps := 1000000) (disch := omega) only [go_sem])
    | ((with_reducible first | refine gDt ?_ ?_ | refine gDf ?_ ?_ | refine gNt ?_ ?_ | refine gNf ?_ ?_ | refine cD ?_ ?_ | refine cN ?_ ?_ | refine cB ?_ ?_ | refine gB ?_ ?_) <;> intro h)
    | with_reducible first | refine And.intro ?_ ?_ | refine J_seq ?_ | refine J_block ?_ | refine J_inBlock ?_ | refine rC ?_ | refine rR ?_ | refine rE ?_ | refine rG ?_ | refine FinQ.now ?_ | refine FinQ.end ?_)
  rotate_left 2
  · simp only [Net.chk]; rw [if_pos (by omega)]
  · simp only [Net.chk]; rw [if_pos (by omega)]
  refine J_for ([5] ++ upto 23 54) (fun i : Nat => [(22, .raw (.int .i64 i))]) (fun i => [.box (encNet n), .mp .str (nameMap ((n.nodes.take i).map Nd.name))]) (fun i => i ≤ n.nodes.length ∧ ∀ j, j < i → nErr n j = 0) (fun i => n.nodes.length - i) 0 ⟨by omega, by omega⟩ (.le (by simp [go_sem, encNet, nameMap]) (by simp)) ?_
  rintro i ⟨hi, hpre⟩
  have hc0 : ¬ (32 < n.nodes.length ∨ 64 < n.devs.length) := by omega
  by_cases hlt : i < n.nodes.length
  · have c1 := nameF n.nodes[i].name (hs.nn _ (List.getElem_mem hlt))
    have c2 := company n.nodes[i].comp
    have hne : ∀ e, nErr n i = e → e ≠ 0 → n.chk = e := fun e he h0 => by
      have := firstE_hit hlt hpre (by omega)
      simp only [Net.chk]; rw [if_neg hc0, this, if_pos (by omega), he]
    simp only [nErr, getD_get hlt] at hne
    simp only [encNet]
    refine J_run 200 ?_
    repeat' (first
      | (simp (maxSteps := 1000000) (disch := omega) only [go_sem, getD_Nd, nameMap_find])
      | ((with_reducible refine CallA.pure c1 ?_ ?_); (· simp only [go_sem]); rintro _ _ ⟨rfl, rfl⟩)
      | ((with_reducible refine CallA.pure c2 ?_ ?_); (· simp only [go_sem]); rintro _ _ ⟨rfl, rfl⟩)
      | ((with_reducible first | refine gDt ?_ ?_ | refine gDf ?_ ?_ | refine gNt ?_ ?_ | refine gNf ?_ ?_ | refine cD ?_ ?_ | refine cN ?_ ?_ | refine cB ?_ ?_ | refine gB ?_ ?_) <;> intro h)
      | with_reducible first | refine And.intro ?_ ?_ | refine J_seq ?_ | refine J_block ?_ | refine J_inBlock ?_ | refine rC ?_ | refine rR ?_ | refine rE ?_ | refine rG ?_ | refine FinQ.now ?_ | refine FinQ.end ?_)
    rotate_left 3
    · have hnm : ¬ n.nodes[i].name ∈ (n.nodes.take i).map Nd.name := by simp_all
      have h0 : nErr n i = 0 := by
        simp only [nErr, getD_get hlt]
        rw [if_neg (by simp_all), if_neg hnm, if_neg]
        simp_all
      have hP : mput (nameMap (List.take i (List.map Nd.name n.nodes))) (MKey.str n.nodes[i].name) (AV.raw (Value.bool true)) = nameMap (List.take (i + 1) (List.map Nd.name n.nodes)) := by
        rw [← List.map_take, ← List.map_take, nameMap_put hnm, take_map_succ hlt]
      refine .mk (i + 1) ⟨hlt, fun j hj => ?_⟩ (by omega) (by simp [go_sem, encNet, hP]) (by simp)
      rcases Nat.lt_succ_iff_lt_or_eq.1 hj with h3 | rfl
      · exact hpre j h3
      · exact h0
    all_goals refine (hne _ ?_ (by decide)).symm
    all_goals first | (simp_all; done) | (simp_all; omega)
  have hil : i = n.nodes.length := by omega
  subst hil
  have hN : firstE (nErr n) n.nodes.length = 0 := firstE_none hpre
  simp only [encNet, List.take_length]
  refine J_run 200 ?_
  repeat' (first
    | (simp (maxSteps := 1000000) (disch := omega) only [go_sem])
    | ((with_reducible first | refine gDt ?_ ?_ | refine gDf ?_ ?_ | refine gNt ?_ ?_ | refine gNf ?_ ?_ | refine cD ?_ ?_ | refine cN ?_ ?_ | refine cB ?_ ?_ | refine gB ?_ ?_) <;> intro h)
    | with_reducible first | refine And.intro ?_ ?_ | refine J_seq ?_ | refine J_block ?_ | refine J_inBlock ?_ | refine rC ?_ | refine rR ?_ | refine rE ?_ | refine rG ?_ | refine FinQ.now ?_ | refine FinQ.end ?_)
  refine J_for ([7] ++ upto 59 96) (fun i : Nat => [(58, .raw (.int .i64 i))]) (fun i => [.box (encNet n), .mp .str (nameMap (n.nodes.map Nd.name ++ (n.devs.take i).map Dv.name))]) (fun i => i ≤ n.devs.length ∧ ∀ j, j < i → dErr n j = 0) (fun i => n.devs.length - i) 0 ⟨by omega, by omega⟩ (.le (by simp [go_sem, encNet]) (by simp)) ?_
  rintro i ⟨hi, hpre⟩
  by_cases hlt : i < n.devs.length
  · have c1 := nameF n.devs[i].name (hs.dn _ (List.getElem_mem hlt))
    have c2 := company n.devs[i].comp
    have c3 := ends n.devs[i] n.nodes.length
    rw [endsB_iff] at c3
    simp only [encDv] at c3
    have hne : ∀ e, dErr n i = e → e ≠ 0 → n.chk = e := fun e he h0 => by
      have := firstE_hit hlt hpre (by omega)
      simp only [Net.chk]; rw [if_neg hc0, if_neg (by omega), this, he]
    simp only [dErr, getD_get hlt] at hne
    simp only [encNet]
    refine J_run 200 ?_
    repeat' (first
      | (simp (maxSteps := 1000000) (disch := omega) only [go_sem, getD_Dv, nameMap_find])
      | ((with_reducible refine CallA.pure c1 ?_ ?_); (· simp only [go_sem]); rintro _ _ ⟨rfl, rfl⟩)
      | ((with_reducible refine CallA.pure c2 ?_ ?_); (· simp only [go_sem]); rintro _ _ ⟨rfl, rfl⟩)
      | ((with_reducible refine CallA.pure c3 ?_ ?_); (· simp only [go_sem]); rintro _ _ ⟨rfl, rfl⟩)
      | ((with_reducible first | refine gDt ?_ ?_ | refine gDf ?_ ?_ | refine gNt ?_ ?_ | refine gNf ?_ ?_ | refine cD ?_ ?_ | refine cN ?_ ?_ | refine cB ?_ ?_ | refine gB ?_ ?_) <;> intro h)
      | with_reducible first | refine And.intro ?_ ?_ | refine J_seq ?_ | refine J_block ?_ | refine J_inBlock ?_ | refine rC ?_ | refine rR ?_ | refine rE ?_ | refine rG ?_ | refine FinQ.now ?_ | refine FinQ.end ?_)
    rotate_left 5
    · have hnm : ¬ n.devs[i].name ∈ n.nodes.map Nd.name ++ (n.devs.take i).map Dv.name := by simp_all
      have h0 : dErr n i = 0 := by
        simp only [dErr, getD_get hlt]
        rw [if_neg (by simp_all), if_neg hnm, if_neg (by omega), if_neg, if_neg]
        · simp_all
        · simp_all
      have hP : mput (nameMap (n.nodes.map Nd.name ++ List.take i (List.map Dv.name n.devs))) (MKey.str n.devs[i].name) (AV.raw (Value.bool true)) = nameMap (n.nodes.map Nd.name ++ List.take (i + 1) (List.map Dv.name n.devs)) := by
        rw [← List.map_take, ← List.map_take, nameMap_put hnm, take_map_succ hlt, List.append_assoc]
      refine .mk (i + 1) ⟨hlt, fun j hj => ?_⟩ (by omega) (by simp [go_sem, encNet, hP]) (by simp)
      rcases Nat.lt_succ_iff_lt_or_eq.1 hj with h3 | rfl
      · exact hpre j h3
      · exact h0
    all_goals refine (hne _ ?_ (by decide)).symm
    all_goals first
      | (rw [if_neg (by simp_all), if_neg (by simp_all), if_neg (by omega), if_pos (by simpa using h)]; done)
      | (rw [if_neg (by simp_all), if_neg (by simp_all), if_neg (by omega), if_neg (by simp_all), if_pos (by omega)]; done)
      | (simp_all; done)
      | (simp_all; omega)
      | trace_state
  · have hil : i = n.devs.length := by omega
    subst hil
    have hD : firstE (dErr n) n.devs.length = 0 := firstE_none hpre
    simp only [encNet]
    refine J_run 200 ?_
    repeat' (first
      | (simp (maxSteps := 1000000) (disch := omega) only [go_sem])
      | ((with_reducible first | refine gDt ?_ ?_ | refine gDf ?_ ?_ | refine gNt ?_ ?_ | refine gNf ?_ ?_ | refine cD ?_ ?_ | refine cN ?_ ?_ | refine cB ?_ ?_ | refine gB ?_ ?_) <;> intro h)
      | with_reducible first | refine And.intro ?_ ?_ | refine J_seq ?_ | refine J_block ?_ | refine J_inBlock ?_ | refine rC ?_ | refine rR ?_ | refine rE ?_ | refine rG ?_ | refine FinQ.now ?_ | refine FinQ.end ?_)
    simp only [Net.chk]; rw [if_neg hc0, if_neg (by omega), hD]
end Go.Proofs.YtangkndckghblaaDoor.Abs
