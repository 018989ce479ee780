/- Names and the check of a network: what the functions compute. Sizes of valid networks; a list cut at its own length. No program in sight. What is reached: network.Flood. slices.IndexFunc and slices.DeleteFunc over numbers: what they compute. network.Flood: what it computes. zone.Check, zone.region, zone.at, zone.check: what they compute. zone.check, zone.enough, zone.Enough, zone.Region: what they compute. slices.DeleteFunc over numbers: what it computes. -/
import Derived.Test.YtmfgaefefgnhbaaGreatDoorZ1
import Derived.Test.YtmfgaefefgnhbaaGreatDoorT3
namespace Go.Proofs.YtmfgaefefgnhbaaGreatDoor.Abs
set_option linter.unusedSimpArgs false
set_option linter.unusedVariables false
set_option maxRecDepth 100000
open Go Go.RowKit

theorem byte_lt (s : ByteArray) (i : Nat) : (s.data.toList.getD i 0).toNat < 256 := UInt8.toNat_lt _
theorem byteAt_eq (s : ByteArray) (i : Nat) : (s.data.toList.getD i 0).toNat = byteAt s i := by simp [byteAt, Array.getD_eq_getD_getElem?, List.getD_eq_getElem?_getD]
/-- A name, byte by byte. -/
theorem isName_iff (s : ByteArray) : isName s = ((List.range s.size).all (fun i => fitsB (byteAt s i) (decide (i = 0))) && decide (1 ≤ s.size ∧ s.size ≤ 12)) := by
  rw [Bool.eq_iff_iff]
  simp only [isName, Bool.and_eq_true, decide_eq_true_eq, List.all_eq_true, List.mem_range]
  constructor
  · rintro ⟨⟨h1, h2⟩, h3⟩
    refine ⟨fun i hi => ?_, h1⟩
    have := h3 i hi
    by_cases h0 : i = 0
    · subst h0; simp [fitsB, h2]
    · simp only [Bool.or_eq_true, decide_eq_true_eq] at this
      simp only [fitsB, h0, decide_false, Bool.not_false, Bool.true_and, Bool.or_eq_true, decide_eq_true_eq]
      rcases this with (h | h) | h
      · exact .inl h
      · exact .inr (.inl h)
      · exact .inr (.inr h)
  · rintro ⟨h1, h2⟩
    refine ⟨⟨h2, ?_⟩, fun i hi => ?_⟩
    · have := h1 0 (by omega)
      simpa [fitsB] using this
    · have := h1 i hi
      simp only [fitsB, Bool.or_eq_true, Bool.and_eq_true, decide_eq_true_eq] at this ⊢
      rcases this with h | ⟨_, h | h⟩
      · exact .inl (.inl h)
      · exact .inl (.inr h)
      · exact .inr h
set_option maxHeartbeats 1000000 in
theorem nameF (s : ByteArray) (hs : s.size ≤ 9223372036854775807) : Fn1 Tryz.prog GT0 58 [.raw (.string s)] (.raw (.bool (isName s))) [] := by
  refine holds_of Tryz.func58 rfl rfl ?_
  refine J_run 200 ?_
  delta Tryz.f58
  repeat' (first
    | (simp (maxSteps := 1000000) (disch := omega) only [go_sem])
    | ((with_reducible first | refine gDt ?_ ?_ | refine gDf ?_ ?_ | refine gNt ?_ ?_ | refine gNf ?_ ?_ | refine cD ?_ ?_ | refine cN ?_ ?_ | refine cB ?_ ?_ | refine gB ?_ ?_) <;> intro h)
    | with_reducible first | refine And.intro ?_ ?_ | refine J_seq ?_ | refine J_block ?_ | refine J_inBlock ?_ | refine rC ?_ | refine rR ?_ | refine rE ?_ | refine rG ?_ | refine FinQ.now ?_ | refine FinQ.end ?_)
  refine J_for ([3] ++ upto 7 16) (fun i : Nat => [(6, .raw (.int .i64 i))]) (fun _ => []) (fun i => i ≤ s.size ∧ ∀ j, j < i → fitsB (byteAt s j) (decide (j = 0)) = true) (fun i => s.size - i) 0 ⟨by omega, by omega⟩ (.le (by simp [go_sem]) (by simp)) ?_
  rintro i ⟨hi, hpre⟩
  by_cases hlt : i < s.size
  · have c := fits (byteAt s i) (by rw [← byteAt_eq]; exact byte_lt s i) (decide ((i : Int) = 0))
    have e0 : decide ((i : Int) = 0) = decide (i = 0) := by simp
    refine J_run 200 ?_
    repeat' (first
      | (simp (maxSteps := 1000000) (disch := omega) only [go_sem, byteAt_eq])
      | ((with_reducible refine CallA.pure c ?_ ?_); (· simp only [go_sem]); rintro _ _ ⟨rfl, rfl⟩)
      | ((with_reducible first | refine gDt ?_ ?_ | refine gDf ?_ ?_ | refine gNt ?_ ?_ | refine gNf ?_ ?_ | refine cD ?_ ?_ | refine cN ?_ ?_ | refine cB ?_ ?_ | refine gB ?_ ?_) <;> intro h)
      | with_reducible first | refine And.intro ?_ ?_ | refine J_seq ?_ | refine J_block ?_ | refine J_inBlock ?_ | refine rC ?_ | refine rR ?_ | refine rE ?_ | refine rG ?_ | refine FinQ.now ?_ | refine FinQ.end ?_)
    all_goals rw [e0] at h
    · rw [isName_iff]
      symm
      rw [Bool.and_eq_false_iff]
      left
      rw [List.all_eq_false]
      exact ⟨i, List.mem_range.2 hlt, by simpa using h⟩
    · refine .mk (i + 1) ⟨hlt, fun j hj => ?_⟩ (by omega) (by simp [go_sem]) (by simp)
      rcases Nat.lt_succ_iff_lt_or_eq.1 hj with h3 | rfl
      · exact hpre j h3
      · simpa using h
  · refine J_run 200 ?_
    have hall : (List.range s.size).all (fun i => fitsB (byteAt s i) (decide (i = 0))) = true := by
      rw [List.all_eq_true]
      exact fun j hj => hpre j (by have := List.mem_range.1 hj; omega)
    repeat' (first
      | (simp (maxSteps := 1000000) (disch := omega) only [go_sem])
      | ((with_reducible first | refine gDt ?_ ?_ | refine gDf ?_ ?_ | refine gNt ?_ ?_ | refine gNf ?_ ?_ | refine cD ?_ ?_ | refine cN ?_ ?_ | refine cB ?_ ?_ | refine gB ?_ ?_) <;> intro h)
      | with_reducible first | refine And.intro ?_ ?_ | refine J_seq ?_ | refine J_block ?_ | refine J_inBlock ?_ | refine rC ?_ | refine rR ?_ | refine rE ?_ | refine rG ?_ | refine FinQ.now ?_ | refine FinQ.end ?_)
    all_goals (rw [isName_iff, hall, Bool.true_and])
    all_goals (rw [Bool.eq_iff_iff]; simp; omega)

theorem endsB_iff (x : Dv) (nl : Nat) : endsB x nl = !decide (x.a < 0 ∨ (nl : Int) ≤ x.a ∨ (joinsK x.kind = true ∧ (x.b < 0 ∨ (nl : Int) ≤ x.b ∨ x.b = x.a)) ∨ (joinsK x.kind = false ∧ x.b ≠ -1)) := by
  rw [Bool.eq_iff_iff]
  cases hj : joinsK x.kind <;> simp [endsB, hj] <;> omega
theorem names_len (n : Net) (i j : Nat) : (n.nodes.map Nd.name ++ (n.devs.take j).map Dv.name).length ≤ n.nodes.length + n.devs.length := by simp; omega
theorem take_map_succ {α β : Type} {f : α → β} {l : List α} {i : Nat} (hi : i < l.length) : (l.take (i + 1)).map f = (l.take i).map f ++ [f l[i]] := by
  rw [List.take_succ_eq_append_getElem hi, List.map_append]; rfl
theorem getD_Nd {l : List Nd} {i : Nat} (h : i < l.length) : (l.map encNd).getD i [] = [.raw (.string l[i].name), .raw (.int .i64 l[i].cust), .raw (.int .i64 l[i].comp)] := by rw [getD_map h]; rfl
theorem getD_Dv {l : List Dv} {i : Nat} (h : i < l.length) : (l.map encDv).getD i [] = [.raw (.string l[i].name), .raw (.int .i64 l[i].kind), .raw (.int .i64 l[i].a), .raw (.int .i64 l[i].b), .raw (.int .i64 l[i].comp)] := by rw [getD_map h]; rfl
/-- Names are no longer than memory holds. -/
structure Net.sized (n : Net) : Prop where
  nl : n.nodes.length ≤ 9223372036854775807
  dl : n.devs.length ≤ 9223372036854775807
  nn : ∀ x, x ∈ n.nodes → x.name.size ≤ 9223372036854775807
  dn : ∀ x, x ∈ n.devs → x.name.size ≤ 9223372036854775807
set_option maxHeartbeats 8000000 in
theorem netCheck (n : Net) (hs : n.sized) : Fn1 Tryz.prog GT0 40 [.agg (encNet n)] (.raw (.int .i64 n.chk)) [] := by
  have h1 := hs.nl; have h2 := hs.dl
  refine holds_of Tryz.func40 rfl rfl ?_
  refine J_run 200 ?_
  delta Tryz.f40
  simp only [encNet]
  repeat' (first
    | (simp (maxSteps := 1000000) (disch := omega) only [go_sem])
    | ((with_reducible first | refine gDt ?_ ?_ | refine gDf ?_ ?_ | refine gNt ?_ ?_ | refine gNf ?_ ?_ | refine cD ?_ ?_ | refine cN ?_ ?_ | refine cB ?_ ?_ | refine gB ?_ ?_) <;> intro h)
    | with_reducible first | refine And.intro ?_ ?_ | refine J_seq ?_ | refine J_block ?_ | refine J_inBlock ?_ | refine rC ?_ | refine rR ?_ | refine rE ?_ | refine rG ?_ | refine FinQ.now ?_ | refine FinQ.end ?_)
  rotate_left 2
  · simp only [Net.chk]; rw [if_pos (by omega)]
  · simp only [Net.chk]; rw [if_pos (by omega)]
  refine J_for ([5] ++ upto 23 54) (fun i : Nat => [(22, .raw (.int .i64 i))]) (fun i => [.box (encNet n), .mp .str (nameMap ((n.nodes.take i).map Nd.name))]) (fun i => i ≤ n.nodes.length ∧ ∀ j, j < i → nErr n j = 0) (fun i => n.nodes.length - i) 0 ⟨by omega, by omega⟩ (.le (by simp [go_sem, encNet, nameMap]) (by simp)) ?_
  rintro i ⟨hi, hpre⟩
  have hc0 : ¬ (32 < n.nodes.length ∨ 64 < n.devs.length) := by omega
  by_cases hlt : i < n.nodes.length
  · have c1 := nameF n.nodes[i].name (hs.nn _ (List.getElem_mem hlt))
    have c2 := company n.nodes[i].comp
    have hne : ∀ e, nErr n i = e → e ≠ 0 → n.chk = e := fun e he h0 => by
      have := firstE_hit hlt hpre (by omega)
      simp only [Net.chk]; rw [if_neg hc0, this, if_pos (by omega), he]
    simp only [nErr, getD_get hlt] at hne
    simp only [encNet]
    refine J_run 200 ?_
    repeat' (first
      | (simp (maxSteps := 1000000) (disch := omega) only [go_sem, getD_Nd, nameMap_find])
      | ((with_reducible refine CallA.pure c1 ?_ ?_); (· simp only [go_sem]); rintro _ _ ⟨rfl, rfl⟩)
      | ((with_reducible refine CallA.pure c2 ?_ ?_); (· simp only [go_sem]); rintro _ _ ⟨rfl, rfl⟩)
      | ((with_reducible first | refine gDt ?_ ?_ | refine gDf ?_ ?_ | refine gNt ?_ ?_ | refine gNf ?_ ?_ | refine cD ?_ ?_ | refine cN ?_ ?_ | refine cB ?_ ?_ | refine gB ?_ ?_) <;> intro h)
      | with_reducible first | refine And.intro ?_ ?_ | refine J_seq ?_ | refine J_block ?_ | refine J_inBlock ?_ | refine rC ?_ | refine rR ?_ | refine rE ?_ | refine rG ?_ | refine FinQ.now ?_ | refine FinQ.end ?_)
    rotate_left 3
    · have hnm : ¬ n.nodes[i].name ∈ (n.nodes.take i).map Nd.name := by simp_all
      have h0 : nErr n i = 0 := by
        simp only [nErr, getD_get hlt]
        rw [if_neg (by simp_all), if_neg hnm, if_neg]
        simp_all
      have hP : mput (nameMap (List.take i (List.map Nd.name n.nodes))) (MKey.str n.nodes[i].name) (AV.raw (Value.bool true)) = nameMap (List.take (i + 1) (List.map Nd.name n.nodes)) := by
        rw [← List.map_take, ← List.map_take, nameMap_put hnm, take_map_succ hlt]
      refine .mk (i + 1) ⟨hlt, fun j hj => ?_⟩ (by omega) (by simp [go_sem, encNet, hP]) (by simp)
      rcases Nat.lt_succ_iff_lt_or_eq.1 hj with h3 | rfl
      · exact hpre j h3
      · exact h0
    all_goals refine (hne _ ?_ (by decide)).symm
    all_goals first | (simp_all; done) | (simp_all; omega)
  have hil : i = n.nodes.length := by omega
  subst hil
  have hN : firstE (nErr n) n.nodes.length = 0 := firstE_none hpre
  simp only [encNet, List.take_length]
  refine J_run 200 ?_
  repeat' (first
    | (simp (maxSteps := 1000000) (disch := omega) only [go_sem])
    | ((with_reducible first | refine gDt ?_ ?_ | refine gDf ?_ ?_ | refine gNt ?_ ?_ | refine gNf ?_ ?_ | refine cD ?_ ?_ | refine cN ?_ ?_ | refine cB ?_ ?_ | refine gB ?_ ?_) <;> intro h)
    | with_reducible first | refine And.intro ?_ ?_ | refine J_seq ?_ | refine J_block ?_ | refine J_inBlock ?_ | refine rC ?_ | refine rR ?_ | refine rE ?_ | refine rG ?_ | refine FinQ.now ?_ | refine FinQ.end ?_)
  refine J_for ([7] ++ upto 59 96) (fun i : Nat => [(58, .raw (.int .i64 i))]) (fun i => [.box (encNet n), .mp .str (nameMap (n.nodes.map Nd.name ++ (n.devs.take i).map Dv.name))]) (fun i => i ≤ n.devs.length ∧ ∀ j, j < i → dErr n j = 0) (fun i => n.devs.length - i) 0 ⟨by omega, by omega⟩ (.le (by simp [go_sem, encNet]) (by simp)) ?_
  rintro i ⟨hi, hpre⟩
  by_cases hlt : i < n.devs.length
  · have c1 := nameF n.devs[i].name (hs.dn _ (List.getElem_mem hlt))
    have c2 := company n.devs[i].comp
    have c3 := ends n.devs[i] n.nodes.length
    rw [endsB_iff] at c3
    simp only [encDv] at c3
    have hne : ∀ e, dErr n i = e → e ≠ 0 → n.chk = e := fun e he h0 => by
      have := firstE_hit hlt hpre (by omega)
      simp only [Net.chk]; rw [if_neg hc0, if_neg (by omega), this, he]
    simp only [dErr, getD_get hlt] at hne
    simp only [encNet]
    refine J_run 200 ?_
    repeat' (first
      | (simp (maxSteps := 1000000) (disch := omega) only [go_sem, getD_Dv, nameMap_find])
      | ((with_reducible refine CallA.pure c1 ?_ ?_); (· simp only [go_sem]); rintro _ _ ⟨rfl, rfl⟩)
      | ((with_reducible refine CallA.pure c2 ?_ ?_); (· simp only [go_sem]); rintro _ _ ⟨rfl, rfl⟩)
      | ((with_reducible refine CallA.pure c3 ?_ ?_); (· simp only [go_sem]); rintro _ _ ⟨rfl, rfl⟩)
      | ((with_reducible first | refine gDt ?_ ?_ | refine gDf ?_ ?_ | refine gNt ?_ ?_ | refine gNf ?_ ?_ | refine cD ?_ ?_ | refine cN ?_ ?_ | refine cB ?_ ?_ | refine gB ?_ ?_) <;> intro h)
      | with_reducible first | refine And.intro ?_ ?_ | refine J_seq ?_ | refine J_block ?_ | refine J_inBlock ?_ | refine rC ?_ | refine rR ?_ | refine rE ?_ | refine rG ?_ | refine FinQ.now ?_ | refine FinQ.end ?_)
    rotate_left 5
    · have hnm : ¬ n.devs[i].name ∈ n.nodes.map Nd.name ++ (n.devs.take i).map Dv.name := by simp_all
      have h0 : dErr n i = 0 := by
        simp only [dErr, getD_get hlt]
        rw [if_neg (by simp_all), if_neg hnm, if_neg (by omega), if_neg, if_neg]
        · simp_all
        · simp_all
      have hP : mput (nameMap (n.nodes.map Nd.name ++ List.take i (List.map Dv.name n.devs))) (MKey.str n.devs[i].name) (AV.raw (Value.bool true)) = nameMap (n.nodes.map Nd.name ++ List.take (i + 1) (List.map Dv.name n.devs)) := by
        rw [← List.map_take, ← List.map_take, nameMap_put hnm, take_map_succ hlt, List.append_assoc]
      refine .mk (i + 1) ⟨hlt, fun j hj => ?_⟩ (by omega) (by simp [go_sem, encNet, hP]) (by simp)
      rcases Nat.lt_succ_iff_lt_or_eq.1 hj with h3 | rfl
      · exact hpre j h3
      · exact h0
    all_goals refine (hne _ ?_ (by decide)).symm
    all_goals first
      | (rw [if_neg (by simp_all), if_neg (by simp_all), if_neg (by omega), if_pos (by simpa using h)]; done)
      | (rw [if_neg (by simp_all), if_neg (by simp_all), if_neg (by omega), if_neg (by simp_all), if_pos (by omega)]; done)
      | (simp_all; done)
      | (simp_all; omega)
      | trace_state
  · have hil : i = n.devs.length := by omega
    subst hil
    have hD : firstE (dErr n) n.devs.length = 0 := firstE_none hpre
    simp only [encNet]
    refine J_run 200 ?_
    repeat' (first
      | (simp (maxSteps := 1000000) (disch := omega) only [go_sem])
      | ((with_reducible first | refine gDt ?_ ?_ | refine gDf ?_ ?_ | refine gNt ?_ ?_ | refine gNf ?_ ?_ | refine cD ?_ ?_ | refine cN ?_ ?_ | refine cB ?_ ?_ | refine gB ?_ ?_) <;> intro h)
      | with_reducible first | refine And.intro ?_ ?_ | refine J_seq ?_ | refine J_block ?_ | refine J_inBlock ?_ | refine rC ?_ | refine rR ?_ | refine rE ?_ | refine rG ?_ | refine FinQ.now ?_ | refine FinQ.end ?_)
    simp only [Net.chk]; rw [if_neg hc0, if_neg (by omega), hD]
end Go.Proofs.YtmfgaefefgnhbaaGreatDoor.Abs
namespace Go.Proofs.YtmfgaefefgnhbaaGreatDoor.Abs
set_option linter.unusedSimpArgs false
set_option linter.unusedVariables false
open Go Go.RowKit

theorem name_sized {s : ByteArray} (h : isName s = true) : s.size ≤ 9223372036854775807 := by
  unfold isName at h
  simp only [Bool.and_eq_true, decide_eq_true_eq] at h
  omega
theorem Net.ok.sized {n : Net} (h : n.ok) : n.sized := by
  refine ⟨by have := h.nl; omega, by have := h.dl; omega, fun x hx => ?_, fun x hx => ?_⟩
  · obtain ⟨i, hi, rfl⟩ := List.getElem_of_mem hx
    have := h.nd i hi
    simp only [nErr, getD_get hi] at this
    split at this
    · cases this
    · rename_i hn; exact name_sized (by simpa using hn)
  · obtain ⟨i, hi, rfl⟩ := List.getElem_of_mem hx
    have := h.dv i hi
    simp only [dErr, getD_get hi] at this
    split at this
    · cases this
    · rename_i hn; exact name_sized (by simpa using hn)
theorem take_lm {α β : Type} {f : α → β} {l : List α} : List.take l.length (l.map f) = l.map f := by rw [← List.length_map (f := f), List.take_length]
end Go.Proofs.YtmfgaefefgnhbaaGreatDoor.Abs
namespace Go.Proofs.YtmfgaefefgnhbaaGreatDoor.Abs
set_option linter.unusedSimpArgs false
set_option linter.unusedVariables false
set_option maxRecDepth 100000
open Go Go.RowKit

theorem getD_DvL {l : List Dv} {i : Nat} (h : i < l.length) : (l.map encDv).getD i [] = [.raw (.string l[i].name), .raw (.int .i64 l[i].kind), .raw (.int .i64 l[i].a), .raw (.int .i64 l[i].b), .raw (.int .i64 l[i].comp)] := by rw [getD_map h]; rfl
theorem getD_B {l : List Bool} {i : Nat} (h : i < l.length) : (l.map encB).getD i [] = [.raw (.bool l[i])] := by rw [getD_map h]; rfl
/-- What holds while the nodes that wait are taken one by one. -/
structure Fld (n : Net) (use stop S : Nat → Prop) (out : List Bool) (q : List Int) : Prop where
  len : out.length = n.nodes.length
  ql : ∀ x, x ∈ q → 0 ≤ x ∧ x < n.nodes.length
  snd : ∀ v, out.getD v false = true → Rch n use stop S v
  S : ∀ v, S v → out.getD v false = true
  qo : ∀ x, x ∈ q → out.getD x.toNat false = true
/-- The nodes that are done: from each of them all is reached. -/
def Done (n : Net) (use stop : Nat → Prop) (out : List Bool) (q : List Int) : Prop := ∀ u, out.getD u false = true → (u : Int) ∈ q ∨ stop u ∨ ∀ v, Edge n use u v → out.getD v false = true
theorem acrossV_edge {n : Net} (hn : n.ok) {use : Nat → Prop} {u : Nat} {v : Int} {i : Nat} (hi : i < n.devs.length) (h : acrossV n.devs[i] u = v) (hv : 0 ≤ v) (hu : use i) : Edge n use u v.toNat ∧ v < n.nodes.length := by
  have hd := hn.dev' hi
  have ha := hd.a0; have hal := hd.al
  unfold acrossV at h
  cases hj : joinsK n.devs[i].kind with
  | false => simp only [hj] at h; simp at h; omega
  | true =>
    have hb := hd.j hj
    simp only [hj] at h
    simp at h
    split at h
    · rename_i h1
      refine ⟨⟨i, n.devs[i], List.getElem?_eq_getElem hi, hj, hu, .inl ⟨h1, by omega⟩⟩, by omega⟩
    · split at h
      · rename_i h1
        refine ⟨⟨i, n.devs[i], List.getElem?_eq_getElem hi, hj, hu, .inr ⟨h1, by omega⟩⟩, by omega⟩
      · omega
theorem edge_across {n : Net} (hn : n.ok) {use : Nat → Prop} {u v : Nat} (h : Edge n use u v) : ∃ (i : Nat) (hi : i < n.devs.length), use i ∧ acrossV n.devs[i] u = v := by
  obtain ⟨i, d, h1, h2, h3, h4⟩ := h
  have hi := (List.getElem?_eq_some_iff.1 h1).1
  have e : n.devs[i] = d := (List.getElem?_eq_some_iff.1 h1).2
  have hd := hn.dev h1
  have hb := hd.j h2
  refine ⟨i, hi, h3, ?_⟩
  rw [e]
  unfold acrossV
  simp only [h2]
  simp
  rcases h4 with ⟨h4, h5⟩ | ⟨h4, h5⟩
  · rw [if_pos h4]; exact h5
  · rw [if_neg (by omega), if_pos h4]; exact h5
theorem getD_set {l : List Bool} {i j : Nat} {b : Bool} : (l.set i b).getD j false = if i = j ∧ i < l.length then b else l.getD j false := by
  simp only [List.getD_eq_getElem?_getD, List.getElem?_set]
  split
  · rename_i h; subst h
    split
    · rename_i h; simp [h]
    · rename_i h; simp [h]
  · rename_i h; simp [h]
/-- One more node is reached. -/
theorem Fld.push {n : Net} {use stop S : Nat → Prop} {out : List Bool} {q : List Int} (h : Fld n use stop S out q) {w : Int} (h0 : 0 ≤ w) (hl : w < n.nodes.length) (hr : Rch n use stop S w.toNat) : Fld n use stop S (out.set w.toNat true) (q ++ [w]) := by
  have hlen := h.len
  refine ⟨by simpa using h.len, fun x hx => ?_, fun v hv => ?_, fun v hv => ?_, fun x hx => ?_⟩
  · rcases List.mem_append.1 hx with hx | hx
    · exact h.ql x hx
    · rw [List.mem_singleton] at hx; subst hx; exact ⟨h0, hl⟩
  · rw [getD_set] at hv
    split at hv
    · rename_i e; rw [← e.1]; exact hr
    · exact h.snd v hv
  · rw [getD_set]; split
    · rfl
    · exact h.S v hv
  · rw [getD_set]; split
    · rfl
    · rename_i hne
      rcases List.mem_append.1 hx with hx | hx
      · exact h.qo x hx
      · rw [List.mem_singleton] at hx; subst hx; exact absurd ⟨rfl, by omega⟩ hne
theorem count_set {l : List Bool} {i : Nat} (hi : i < l.length) (h : l[i] = false) : (l.set i true).count false + 1 = l.count false := by
  induction l generalizing i with
  | nil => simp at hi
  | cons b l ih =>
    rcases i with _ | i
    · simp at h; subst h; simp
    · have := ih (by simpa using hi) (by simpa using h)
      simp only [List.set_cons_succ, List.count_cons]
      omega
/-- At the end. -/
theorem Fld.eq {n : Net} {use stop S : Nat → Prop} {out : List Bool} (h : Fld n use stop S out []) (hd : Done n use stop out []) : out = flood n use stop S := by
  have hlen := h.len
  apply List.ext_getElem (by rw [flood_len, h.len])
  intro v h1 h2
  rw [Bool.eq_iff_iff, flood_at]
  have e : out.getD v false = out[v] := by simp [List.getD_eq_getElem?_getD, h1]
  rw [← e]
  constructor
  · exact h.snd v
  · intro hr
    exact Rch.closed (T := fun v => out.getD v false = true) (fun v hv => h.S v hv) (fun u v hu hs he => by
      rcases hd u hu with h3 | h3 | h3
      · cases h3
      · exact absurd h3 hs
      · exact h3 v he) hr
/-- What holds while the devices are gone through for one node. -/
structure Inn (n : Net) (use stop S : Nat → Prop) (u : Int) (i : Nat) (out : List Bool) (t : List Int) : Prop where
  f : Fld n use stop S out (u :: t)
  d : Done n use stop out (u :: t)
  e : ∀ k (hk : k < n.devs.length), k < i → use k → 0 ≤ acrossV n.devs[k] u → out.getD (acrossV n.devs[k] u).toNat false = true
theorem Inn.next {n : Net} {use stop S : Nat → Prop} {u : Int} {i : Nat} {out : List Bool} {t : List Int} (h : Inn n use stop S u i out t) (hx : ∀ (hk : i < n.devs.length), use i → 0 ≤ acrossV n.devs[i] u → out.getD (acrossV n.devs[i] u).toNat false = true) : Inn n use stop S u (i + 1) out t :=
  ⟨h.f, h.d, fun k hk hi hu h0 => by
    rcases Nat.lt_succ_iff_lt_or_eq.1 hi with h1 | rfl
    · exact h.e k hk h1 hu h0
    · exact hx hk hu h0⟩
theorem Inn.push {n : Net} (hn : n.ok) {use stop S : Nat → Prop} {u : Int} {i : Nat} {out : List Bool} {t : List Int} (h : Inn n use stop S u i out t) (hi : i < n.devs.length) (h0 : 0 ≤ acrossV n.devs[i] u) (hu : use i) (hns : ¬ stop u.toNat) :
    Inn n use stop S u (i + 1) (out.set (acrossV n.devs[i] u).toNat true) (t ++ [acrossV n.devs[i] u]) := by
  have hu0 := h.f.ql u (List.mem_cons_self ..)
  have hl := h.f.len
  have hed := acrossV_edge hn (u := u.toNat) (v := acrossV n.devs[i] u) hi (by rw [Int.toNat_of_nonneg hu0.1]) h0 hu
  have hr : Rch n use stop S (acrossV n.devs[i] u).toNat := .step (h.f.snd _ (h.f.qo u (List.mem_cons_self ..))) hns hed.1
  refine ⟨by simpa using h.f.push h0 hed.2 hr, fun v hv => ?_, fun k hk hi hu h0 => ?_⟩
  · rw [getD_set] at hv
    split at hv
    · rename_i e
      left
      have : (v : Int) = acrossV n.devs[i] u := by omega
      rw [this]
      simp
    · rcases h.d v hv with h1 | h1 | h1
      · left; rcases List.mem_cons.1 h1 with h2 | h2
        · rw [h2]; exact List.mem_cons_self ..
        · exact List.mem_cons_of_mem _ (List.mem_append_left _ h2)
      · exact .inr (.inl h1)
      · exact .inr (.inr fun w hw => by
          rw [getD_set]; split
          · rfl
          · exact h1 w hw)
  · rw [getD_set]; split
    · rfl
    · rename_i hne
      rcases Nat.lt_succ_iff_lt_or_eq.1 hi with h1 | rfl
      · exact h.e k hk h1 hu h0
      · exact absurd ⟨rfl, by omega⟩ hne
theorem Inn.end_ {n : Net} (hn : n.ok) {use stop S : Nat → Prop} {u : Int} {out : List Bool} {t : List Int} (h : Inn n use stop S u n.devs.length out t) : Fld n use stop S out t ∧ Done n use stop out t := by
  have hu0 := h.f.ql u (List.mem_cons_self ..)
  refine ⟨⟨h.f.len, fun x hx => h.f.ql x (List.mem_cons_of_mem _ hx), h.f.snd, h.f.S, fun x hx => h.f.qo x (List.mem_cons_of_mem _ hx)⟩, fun v hv => ?_⟩
  rcases h.d v hv with h1 | h1 | h1
  · rcases List.mem_cons.1 h1 with h2 | h2
    · right; right
      intro w hw
      obtain ⟨k, hk, hu, ha⟩ := edge_across hn hw
      rw [h2] at ha
      have := h.e k hk hk hu (by rw [ha]; omega)
      rw [ha] at this
      simpa using this
    · exact .inl h2
  · exact .inr (.inl h1)
  · exact .inr (.inr h1)
theorem Done.stop {n : Net} {use stop : Nat → Prop} {out : List Bool} {u : Int} {t : List Int} (h : Done n use stop out (u :: t)) (hs : stop u.toNat) : Done n use stop out t := fun v hv => by
  rcases h v hv with h1 | h1 | h1
  · rcases List.mem_cons.1 h1 with h2 | h2
    · right; left
      have : v = u.toNat := by omega
      rw [this]; exact hs
    · exact .inl h2
  · exact .inr (.inl h1)
  · exact .inr (.inr h1)
end Go.Proofs.YtmfgaefefgnhbaaGreatDoor.Abs
namespace Go.Proofs.YtmfgaefefgnhbaaGreatDoor.Abs
set_option linter.unusedSimpArgs false
set_option linter.unusedVariables false
set_option maxRecDepth 100000
open Go Go.RowKit

set_option maxHeartbeats 1000000 in
theorem indexFunc (ys : List Int) (fn : FuncId) (cap : List AV) (hcap : AV.immL cap = true) (pr : Int → Bool) (hl : ys.length ≤ 9223372036854775807)
    (hp : ∀ y, y ∈ ys → Fn1 Tryz.prog GT0 fn (.raw (.int .i64 y) :: cap) (.raw (.bool (pr y))) []) :
    Fn1 Tryz.prog GT0 147 [.lst 1 (ys.map encN), .clo (.func fn) [] cap] (.raw (.int .i64 (firstAt pr ys))) [] := by
  have hcapk := fun s => AV.keepsL_imm s cap hcap
  refine holds_of Tryz.func147 rfl rfl ?_
  refine J_run 200 ?_
  delta Tryz.f147
  repeat' (first
    | (simp (maxSteps := 1000000) (disch := omega) only [go_sem])
    | ((with_reducible first | refine gDt ?_ ?_ | refine gDf ?_ ?_ | refine gNt ?_ ?_ | refine gNf ?_ ?_ | refine cD ?_ ?_ | refine cN ?_ ?_ | refine cB ?_ ?_ | refine gB ?_ ?_) <;> intro h)
    | with_reducible first | refine And.intro ?_ ?_ | refine J_seq ?_ | refine J_block ?_ | refine J_inBlock ?_ | refine rC ?_ | refine rR ?_ | refine rE ?_ | refine rG ?_ | refine FinQ.now ?_ | refine FinQ.end ?_)
  refine J_for (5 :: upto 9 18) (fun i : Nat => [(8, .raw (.int .i64 i))]) (fun _ => []) (fun i => i ≤ ys.length ∧ ∀ j (hj : j < i) (hx : j < ys.length), pr ys[j] = false) (fun i => ys.length - i) 0 ⟨by omega, by omega⟩ (.le (by simp [go_sem, hcapk]) (by simp)) ?_
  rintro i ⟨hi, hpre⟩
  by_cases hlt : i < ys.length
  · have hpx := hp _ (List.getElem_mem hlt)
    refine J_run 200 ?_
    simp (disch := omega) only [go_sem, getD_N]
    refine CallA.pure hpx (by simp [go_sem, hcap]) ?_
    rintro _ _ ⟨rfl, rfl⟩
    repeat' (first
      | (simp (maxSteps := 1000000) (disch := omega) only [go_sem])
      | ((with_reducible first | refine gDt ?_ ?_ | refine gDf ?_ ?_ | refine gNt ?_ ?_ | refine gNf ?_ ?_ | refine cD ?_ ?_ | refine cN ?_ ?_ | refine cB ?_ ?_ | refine gB ?_ ?_) <;> intro h)
      | with_reducible first | refine And.intro ?_ ?_ | refine J_seq ?_ | refine J_block ?_ | refine J_inBlock ?_ | refine rC ?_ | refine rR ?_ | refine rE ?_ | refine rG ?_ | refine FinQ.now ?_ | refine FinQ.end ?_)
    · rw [firstAt_some hlt h fun j hj => hpre j hj (by omega)]
    · refine .mk (i + 1) ⟨hlt, fun j hj hx => ?_⟩ (by omega) (by simp [go_sem, hcapk]) (by simp)
      rcases Nat.lt_succ_iff_lt_or_eq.1 hj with h3 | rfl
      · exact hpre j h3 hx
      · exact h
  · refine J_run 200 ?_
    repeat' (first
      | (simp (maxSteps := 1000000) (disch := omega) only [go_sem])
      | ((with_reducible first | refine gDt ?_ ?_ | refine gDf ?_ ?_ | refine gNt ?_ ?_ | refine gNf ?_ ?_ | refine cD ?_ ?_ | refine cN ?_ ?_ | refine cB ?_ ?_ | refine gB ?_ ?_) <;> intro h)
      | with_reducible first | refine And.intro ?_ ?_ | refine J_seq ?_ | refine J_block ?_ | refine J_inBlock ?_ | refine rC ?_ | refine rR ?_ | refine rE ?_ | refine rG ?_ | refine FinQ.now ?_ | refine FinQ.end ?_)
    rw [firstAt_none fun y hy => ?_]
    obtain ⟨j, hj, rfl⟩ := List.getElem_of_mem hy
    exact hpre j (by omega) hj
end Go.Proofs.YtmfgaefefgnhbaaGreatDoor.Abs
namespace Go.Proofs.YtmfgaefefgnhbaaGreatDoor.Abs
set_option linter.unusedSimpArgs false
set_option linter.unusedVariables false
set_option maxRecDepth 100000
open Go Go.RowKit

theorem acrossV_lt {n : Net} (hn : n.ok) {v : Int} {i : Nat} (hi : i < n.devs.length) : acrossV n.devs[i] v < n.nodes.length ∧ -1 ≤ acrossV n.devs[i] v := by
  have hd := hn.dev' hi
  have ha := hd.a0; have hal := hd.al
  unfold acrossV
  cases hj : joinsK n.devs[i].kind with
  | false => simp; omega
  | true =>
    have hb := hd.j hj
    simp
    split
    · omega
    · split <;> omega
theorem set_encB {out : List Bool} {k : Nat} (hk : k < out.length) : (out.map encB).set k (.raw (.bool true) :: List.drop 1 ((out.map encB).getD k [])) = (out.set k true).map encB := by
  rw [getD_B hk, List.map_set]; rfl
set_option maxHeartbeats 8000000 in
theorem floodF (n : Net) (hn : n.ok) (fr : List Int) (hfr : ∀ x, x ∈ fr → 0 ≤ x ∧ x < n.nodes.length) (hfl : fr.length ≤ 1000000) (fu : FuncId) (cu : List AV) (hcu : AV.immL cu = true) (use : Nat → Prop)
    (hu : ∀ i, i < n.devs.length → ∃ b : Bool, (b = true ↔ use i) ∧ Fn1 Tryz.prog GT0 fu (.raw (.int .i64 i) :: cu) (.raw (.bool b)) [])
    (fs : FuncId) (cs : List AV) (hcs : AV.immL cs = true) (stop : Nat → Prop) (hst : ∀ v : Int, 0 ≤ v → v < n.nodes.length → ∃ b : Bool, (b = true ↔ stop v.toNat) ∧ Fn1 Tryz.prog GT0 fs (.raw (.int .i64 v) :: cs) (.raw (.bool b)) []) :
    Fn1 Tryz.prog GT0 129 [.agg (encNet n), .lst 1 (fr.map encN), .clo (.func fu) [] cu, .clo (.func fs) [] cs] (.own 0 1 0 n.nodes.length) [.arr 1 ((flood n use stop (fun v => (v : Int) ∈ fr)).map encB)] := by
  have hku := fun s => AV.keepsL_imm s cu hcu
  have hks := fun s => AV.keepsL_imm s cs hcs
  have hlu := fun f => AV.leafsL_imm f cu hcu
  have hls := fun f => AV.leafsL_imm f cs hcs
  have hnl := hn.nl; have hdl := hn.dl
  have cc := cloneN (fr.map encN) (by simpa using hfl)
  refine holds_of Tryz.func129 rfl rfl ?_
  refine J_run 200 ?_
  delta Tryz.f129
  simp only [encNet]
  repeat' (first
    | (simp (maxSteps := 1000000) (disch := omega) only [go_sem])
    | ((with_reducible refine CallA.pure cc ?_ ?_); (· simp only [go_sem]); rintro _ _ ⟨rfl, rfl⟩)
    | ((with_reducible first | refine gDt ?_ ?_ | refine gDf ?_ ?_ | refine gNt ?_ ?_ | refine gNf ?_ ?_ | refine cD ?_ ?_ | refine cN ?_ ?_ | refine cB ?_ ?_ | refine gB ?_ ?_) <;> intro h)
    | with_reducible first | refine And.intro ?_ ?_ | refine J_seq ?_ | refine J_block ?_ | refine J_inBlock ?_ | refine rC ?_ | refine rR ?_ | refine rE ?_ | refine rG ?_ | refine FinQ.now ?_ | refine FinQ.end ?_)
  refine J_for ([12] ++ upto 25 31) (fun x : Nat × List Bool => [(24, .raw (.int .i64 x.1))]) (fun x => [.box (encNet n), .arr 1 (x.2.map encB), .arr 1 (fr.map encN)]) (fun x => x.1 ≤ fr.length ∧ x.2.length = n.nodes.length ∧ ∀ v, x.2.getD v false = true ↔ ∃ j, ∃ (_ : j < x.1) (h : j < fr.length), fr[j] = (v : Int)) (fun x => fr.length - x.1) (0, List.replicate n.nodes.length false) ⟨by omega, by simp, by simp [List.getD_eq_getElem?_getD, List.getElem?_replicate]; intro v; split <;> simp⟩ (.le (by simp [go_sem, encNet, encB, hku, hks]) (by simp)) ?_
  rintro ⟨i, out⟩ ⟨hi, hol, hov⟩
  simp only at hi hol hov
  by_cases hlt : i < fr.length
  · have hx := hfr _ (List.getElem_mem hlt)
    simp only [encNet]
    refine J_run 200 ?_
    repeat' (first
      | (simp (maxSteps := 1000000) (disch := omega) only [go_sem, getD_N])
      | ((with_reducible first | refine gDt ?_ ?_ | refine gDf ?_ ?_ | refine gNt ?_ ?_ | refine gNf ?_ ?_ | refine cD ?_ ?_ | refine cN ?_ ?_ | refine cB ?_ ?_ | refine gB ?_ ?_) <;> intro h)
      | with_reducible first | refine And.intro ?_ ?_ | refine J_seq ?_ | refine J_block ?_ | refine J_inBlock ?_ | refine rC ?_ | refine rR ?_ | refine rE ?_ | refine rG ?_ | refine FinQ.now ?_ | refine FinQ.end ?_)
    have hk : fr[i].toNat < out.length := by omega
    refine .mk (i + 1, out.set fr[i].toNat true) ⟨hlt, by simp [hol], fun v => ?_⟩ (by simp only; omega) (by simp only [set_encB hk]; simp [go_sem, hku, hks]) (by simp)
    simp only
    rw [getD_set]
    split
    · rename_i e
      exact ⟨fun _ => ⟨i, by omega, hlt, by omega⟩, fun _ => rfl⟩
    · rename_i e
      rw [hov]
      constructor
      · rintro ⟨j, h1, h2, h3⟩
        exact ⟨j, by omega, h2, h3⟩
      · rintro ⟨j, h1, h2, h3⟩
        rcases Nat.lt_succ_iff_lt_or_eq.1 h1 with h4 | rfl
        · exact ⟨j, h4, h2, h3⟩
        · exact absurd ⟨by omega, hk⟩ e
  have hil : i = fr.length := by omega
  subst hil
  have hf0 : Fld n use stop (fun v => (v : Int) ∈ fr) out fr := by
    refine ⟨hol, hfr, fun v hv => ?_, fun v hv => ?_, fun x hx => ?_⟩
    · obtain ⟨j, h1, h2, h3⟩ := (hov v).1 hv
      exact .base (by rw [← h3]; exact List.getElem_mem h2)
    · obtain ⟨j, h2, h3⟩ := List.mem_iff_getElem.1 hv
      exact (hov v).2 ⟨j, h2, h2, h3⟩
    · obtain ⟨j, h2, h3⟩ := List.mem_iff_getElem.1 hx
      exact (hov _).2 ⟨j, h2, h2, by rw [h3]; have := (hfr x hx).1; omega⟩
  have hd0 : Done n use stop out fr := fun u hu => .inl (by
    obtain ⟨j, h1, h2, h3⟩ := (hov u).1 hu
    rw [← h3]; exact List.getElem_mem h2)
  clear hov
  simp only [encNet]
  refine J_run 200 ?_
  repeat' (first
    | (simp (maxSteps := 1000000) (disch := omega) only [go_sem])
    | ((with_reducible first | refine gDt ?_ ?_ | refine gDf ?_ ?_ | refine gNt ?_ ?_ | refine gNf ?_ ?_ | refine cD ?_ ?_ | refine cN ?_ ?_ | refine cB ?_ ?_ | refine gB ?_ ?_) <;> intro h)
    | with_reducible first | refine And.intro ?_ ?_ | refine J_seq ?_ | refine J_block ?_ | refine J_inBlock ?_ | refine rC ?_ | refine rR ?_ | refine rE ?_ | refine rG ?_ | refine FinQ.now ?_ | refine FinQ.end ?_)
  refine J_for (upto 11 15 ++ [21] ++ upto 32 76) (fun x : List Bool × List Int × List Int => [(10, .own 2 1 x.2.1.length x.2.2.length)]) (fun x => [.box (encNet n), .arr 1 (x.1.map encB), .arr 1 (x.2.1.map encN ++ x.2.2.map encN)]) (fun x => Fld n use stop (fun v => (v : Int) ∈ fr) x.1 x.2.2 ∧ Done n use stop x.1 x.2.2 ∧ 2 * x.1.count false + x.2.2.length ≤ 2000000) (fun x => 2 * x.1.count false + x.2.2.length) (out, [], fr) ⟨hf0, hd0, by have := List.count_le_length (a := false) (l := out); simp only; omega⟩ (.le (by simp [go_sem, encNet, hku, hks]) (by simp)) ?_
  rintro ⟨out, pre, q⟩ ⟨hf, hd, hql⟩
  simp only at hf hd hql
  clear hf0 hd0 hol
  rcases q with _ | ⟨u, t⟩
  · have he := hf.eq hd
    subst he
    simp only [encNet]
    refine J_run 200 ?_
    repeat' (first
      | (simp (maxSteps := 1000000) (disch := omega) only [go_sem])
      | ((with_reducible first | refine gDt ?_ ?_ | refine gDf ?_ ?_ | refine gNt ?_ ?_ | refine gNf ?_ ?_ | refine cD ?_ ?_ | refine cN ?_ ?_ | refine cB ?_ ?_ | refine gB ?_ ?_) <;> intro h)
      | with_reducible first | refine And.intro ?_ ?_ | refine J_seq ?_ | refine J_block ?_ | refine J_inBlock ?_ | refine rC ?_ | refine rR ?_ | refine rE ?_ | refine rG ?_ | refine FinQ.now ?_ | refine FinQ.end ?_)
  have hu0 := hf.ql u (List.mem_cons_self ..)
  obtain ⟨b, hb, hbc⟩ := hst u hu0.1 hu0.2
  simp only [encNet]
  refine J_run 200 ?_
  have hhd : (List.map encN pre ++ encN u :: List.map encN t).getD pre.length [] = [.raw (.int .i64 u)] := by simp [List.getD_eq_getElem?_getD, encN]
  simp (maxSteps := 1000000) (disch := omega) only [go_sem, hhd]
  refine CallA.pure hbc (by simp [go_sem, hcs]) ?_
  rintro _ _ ⟨rfl, rfl⟩
  simp (maxSteps := 1000000) (disch := omega) only [go_sem]
  refine condW_by (fun hbt => ?_) (fun hbf => ?_)
  · repeat' (first
      | (simp (maxSteps := 1000000) (disch := omega) only [go_sem])
      | ((with_reducible first | refine gDt ?_ ?_ | refine gDf ?_ ?_ | refine gNt ?_ ?_ | refine gNf ?_ ?_ | refine cD ?_ ?_ | refine cN ?_ ?_ | refine cB ?_ ?_ | refine gB ?_ ?_) <;> intro h)
      | with_reducible first | refine And.intro ?_ ?_ | refine J_seq ?_ | refine J_block ?_ | refine J_inBlock ?_ | refine rC ?_ | refine rR ?_ | refine rE ?_ | refine rG ?_ | refine FinQ.now ?_ | refine FinQ.end ?_)
    refine .mk (out, pre ++ [u], t) ⟨⟨hf.len, fun x hx => hf.ql x (List.mem_cons_of_mem _ hx), hf.snd, hf.S, fun x hx => hf.qo x (List.mem_cons_of_mem _ hx)⟩, hd.stop (hb.1 hbt), by simp at hql; simp only; omega⟩ (by simp) (by simp [go_sem, hku, hks]) (by simp)
  have hns : ¬ stop u.toNat := fun h => by rw [hb.2 h] at hbf; cases hbf
  repeat' (first
    | (simp (maxSteps := 1000000) (disch := omega) only [go_sem])
    | ((with_reducible first | refine gDt ?_ ?_ | refine gDf ?_ ?_ | refine gNt ?_ ?_ | refine gNf ?_ ?_ | refine cD ?_ ?_ | refine cN ?_ ?_ | refine cB ?_ ?_ | refine gB ?_ ?_) <;> intro h)
    | with_reducible first | refine And.intro ?_ ?_ | refine J_seq ?_ | refine J_block ?_ | refine J_inBlock ?_ | refine rC ?_ | refine rR ?_ | refine rE ?_ | refine rG ?_ | refine FinQ.now ?_ | refine FinQ.end ?_)
  clear hhd hbf hbc hb b
  simp only [List.length_cons] at hql
  refine J_for ([13, 14, 15, 32, 38, 39] ++ upto 46 76) (fun x : Nat × List Bool × List Int × List Int => [(10, .own 2 1 x.2.2.1.length (x.2.2.2.length + 1)), (45, .raw (.int .i64 x.1))]) (fun x => [.box (encNet n), .arr 1 (x.2.1.map encB), .arr 1 (x.2.2.1.map encN ++ encN u :: x.2.2.2.map encN)]) (fun x => x.1 ≤ n.devs.length ∧ Inn n use stop (fun v => (v : Int) ∈ fr) u x.1 x.2.1 x.2.2.2 ∧ 2 * x.2.1.count false + x.2.2.2.length ≤ 2 * out.count false + t.length) (fun x => n.devs.length - x.1) (0, out, pre, t) ⟨by simp only; omega, ⟨hf, hd, fun k hk h => absurd h (by omega)⟩, by simp only; omega⟩ (.le (by simp [go_sem, encNet, hku, hks]) (by simp)) ?_
  rintro ⟨i, out', pre', t'⟩ ⟨hi', hI, hM⟩
  simp only at hi' hI hM
  have hol' := hI.f.len
  by_cases hlt : i < n.devs.length
  · obtain ⟨b, hb, hbc⟩ := hu i hlt
    have hac := across n.devs[i] u
    simp only [encDv] at hac
    have hal := acrossV_lt hn (v := u) hlt
    have hhd : (List.map encN pre' ++ encN u :: List.map encN t').getD pre'.length [] = [.raw (.int .i64 u)] := by simp [List.getD_eq_getElem?_getD, encN]
    have hdv := getD_DvL hlt
    by_cases h0 : 0 ≤ acrossV n.devs[i] u
    · have hwl : (acrossV n.devs[i] u).toNat < out'.length := by omega
      have hg := getD_B hwl
      have hgd : out'.getD (acrossV n.devs[i] u).toNat false = out'[(acrossV n.devs[i] u).toNat] := by simp [List.getD_eq_getElem?_getD, hwl]
      obtain ⟨o, ho⟩ : ∃ o, out'[(acrossV n.devs[i] u).toNat] = o := ⟨_, rfl⟩
      rw [ho] at hg hgd
      cases o with
      | true =>
        simp only [encNet]
        refine J_run 200 ?_
        repeat' (first
          | ((with_reducible refine J_draw (id := 14) 200 [] plan129_14 (by kernel_rfl) (by kernel_rfl) ?_); delta plan129_14)
          | (simp (maxSteps := 1000000) (disch := omega) only [go_sem, hdv, hhd, hg])
          | ((with_reducible refine CallA.pure hac ?_ ?_); (· simp only [go_sem]); rintro _ _ ⟨rfl, rfl⟩)
          | ((with_reducible refine CallA.pure hbc ?_ ?_); (· simp only [go_sem]); rintro _ _ ⟨rfl, rfl⟩)
          | ((with_reducible first | refine gDt ?_ ?_ | refine gDf ?_ ?_ | refine gNt ?_ ?_ | refine gNf ?_ ?_ | refine cD ?_ ?_ | refine cN ?_ ?_ | refine cB ?_ ?_ | refine gB ?_ ?_) <;> intro h)
          | with_reducible first | refine And.intro ?_ ?_ | refine J_seq ?_ | refine J_block ?_ | refine J_inBlock ?_ | refine rC ?_ | refine rR ?_ | refine rE ?_ | refine rG ?_ | refine FinQ.now ?_ | refine FinQ.end ?_)
        refine .mk (i + 1, out', pre', t') ⟨by simp only; omega, hI.next fun hk hu0 h1 => hgd, hM⟩ (by simp only; omega) ?_ ?_
        · simp [go_sem, hku, hks]
        · simp
      | false =>
        cases b with
        | false =>
          simp only [encNet]
          refine J_run 200 ?_
          repeat' (first
            | ((with_reducible refine J_draw (id := 14) 200 [] plan129_14 (by kernel_rfl) (by kernel_rfl) ?_); delta plan129_14)
            | (simp (maxSteps := 1000000) (disch := omega) only [go_sem, hdv, hhd, hg])
            | ((with_reducible refine CallA.pure hac ?_ ?_); (· simp only [go_sem]); rintro _ _ ⟨rfl, rfl⟩)
            | ((with_reducible refine CallA.pure hbc ?_ ?_); (· simp only [go_sem]); rintro _ _ ⟨rfl, rfl⟩)
            | ((with_reducible first | refine gDt ?_ ?_ | refine gDf ?_ ?_ | refine gNt ?_ ?_ | refine gNf ?_ ?_ | refine cD ?_ ?_ | refine cN ?_ ?_ | refine cB ?_ ?_ | refine gB ?_ ?_) <;> intro h)
            | with_reducible first | refine And.intro ?_ ?_ | refine J_seq ?_ | refine J_block ?_ | refine J_inBlock ?_ | refine rC ?_ | refine rR ?_ | refine rE ?_ | refine rG ?_ | refine FinQ.now ?_ | refine FinQ.end ?_)
          refine CallA.pure hbc (by simp [go_sem, hcu]) ?_
          rintro _ _ ⟨rfl, rfl⟩
          repeat' (first
            | (exfalso; omega)
            | (simp (maxSteps := 1000000) (disch := omega) only [go_sem])
            | ((with_reducible first | refine gDt ?_ ?_ | refine gDf ?_ ?_ | refine gNt ?_ ?_ | refine gNf ?_ ?_ | refine cD ?_ ?_ | refine cN ?_ ?_ | refine cB ?_ ?_ | refine gB ?_ ?_) <;> intro h)
            | with_reducible first | refine And.intro ?_ ?_ | refine J_seq ?_ | refine J_block ?_ | refine J_inBlock ?_ | refine rC ?_ | refine rR ?_ | refine rE ?_ | refine rG ?_ | refine FinQ.now ?_ | refine FinQ.end ?_)
          refine .mk (i + 1, out', pre', t') ⟨by simp only; omega, hI.next fun hk hu0 h1 => absurd (hb.2 hu0) (by simp), hM⟩ (by simp only; omega) ?_ ?_
          · simp [go_sem, hku, hks]
          · simp
        | true =>
          simp only [encNet]
          refine J_run 200 ?_
          repeat' (first
            | ((with_reducible refine J_draw (id := 14) 200 [] plan129_14 (by kernel_rfl) (by kernel_rfl) ?_); delta plan129_14)
            | (simp (maxSteps := 1000000) (disch := omega) only [go_sem, hdv, hhd, hg])
            | ((with_reducible refine CallA.pure hac ?_ ?_); (· simp only [go_sem]); rintro _ _ ⟨rfl, rfl⟩)
            | ((with_reducible refine CallA.pure hbc ?_ ?_); (· simp only [go_sem]); rintro _ _ ⟨rfl, rfl⟩)
            | ((with_reducible first | refine gDt ?_ ?_ | refine gDf ?_ ?_ | refine gNt ?_ ?_ | refine gNf ?_ ?_ | refine cD ?_ ?_ | refine cN ?_ ?_ | refine cB ?_ ?_ | refine gB ?_ ?_) <;> intro h)
            | with_reducible first | refine And.intro ?_ ?_ | refine J_seq ?_ | refine J_block ?_ | refine J_inBlock ?_ | refine rC ?_ | refine rR ?_ | refine rE ?_ | refine rG ?_ | refine FinQ.now ?_ | refine FinQ.end ?_)
          refine CallA.pure hbc (by simp [go_sem, hcu]) ?_
          rintro _ _ ⟨rfl, rfl⟩
          repeat' (first
            | (exfalso; omega)
            | (simp (maxSteps := 1000000) (disch := omega) only [go_sem, hlu, hls])
            | ((with_reducible first | refine gDt ?_ ?_ | refine gDf ?_ ?_ | refine gNt ?_ ?_ | refine gNf ?_ ?_ | refine cD ?_ ?_ | refine cN ?_ ?_ | refine cB ?_ ?_ | refine gB ?_ ?_) <;> intro h)
            | with_reducible first | refine And.intro ?_ ?_ | refine J_seq ?_ | refine J_block ?_ | refine J_inBlock ?_ | refine rC ?_ | refine rR ?_ | refine rE ?_ | refine rG ?_ | refine FinQ.now ?_ | refine FinQ.end ?_)
          have hcs1 := count_set hwl ho
          have hse := set_encB hwl
          refine .mk (i + 1, out'.set (acrossV n.devs[i] u).toNat true, [], t' ++ [acrossV n.devs[i] u]) ⟨by simp only; omega, hI.push hn hlt h0 (hb.1 rfl) hns, by simp only [List.length_append, List.length_cons, List.length_nil]; omega⟩ (by simp only; omega) ?_ ?_
          · simp only [hse]
            simp [go_sem, hku, hks, encN]
          · simp
    · simp only [encNet]
      refine J_run 200 ?_
      repeat' (first
        | ((with_reducible refine J_draw (id := 14) 200 [] plan129_14 (by kernel_rfl) (by kernel_rfl) ?_); delta plan129_14)
        | (simp (maxSteps := 1000000) (disch := omega) only [go_sem, hdv, hhd])
        | ((with_reducible refine CallA.pure hac ?_ ?_); (· simp only [go_sem]); rintro _ _ ⟨rfl, rfl⟩)
        | ((with_reducible refine CallA.pure hbc ?_ ?_); (· simp only [go_sem]); rintro _ _ ⟨rfl, rfl⟩)
        | ((with_reducible first | refine gDt ?_ ?_ | refine gDf ?_ ?_ | refine gNt ?_ ?_ | refine gNf ?_ ?_ | refine cD ?_ ?_ | refine cN ?_ ?_ | refine cB ?_ ?_ | refine gB ?_ ?_) <;> intro h)
        | with_reducible first | refine And.intro ?_ ?_ | refine J_seq ?_ | refine J_block ?_ | refine J_inBlock ?_ | refine rC ?_ | refine rR ?_ | refine rE ?_ | refine rG ?_ | refine FinQ.now ?_ | refine FinQ.end ?_)
      refine .mk (i + 1, out', pre', t') ⟨by simp only; omega, hI.next fun hk hu0 h1 => absurd h1 h0, hM⟩ (by simp only; omega) ?_ ?_
      · simp [go_sem, hku, hks]
      · simp
  have hie : i = n.devs.length := by omega
  subst hie
  simp only [encNet]
  refine J_run 200 ?_
  have hI' := hI.end_ hn
  repeat' (first
    | (simp (maxSteps := 1000000) (disch := omega) only [go_sem])
    | ((with_reducible first | refine gDt ?_ ?_ | refine gDf ?_ ?_ | refine gNt ?_ ?_ | refine gNf ?_ ?_ | refine cD ?_ ?_ | refine cN ?_ ?_ | refine cB ?_ ?_ | refine gB ?_ ?_) <;> intro h)
    | with_reducible first | refine And.intro ?_ ?_ | refine J_seq ?_ | refine J_block ?_ | refine J_inBlock ?_ | refine rC ?_ | refine rR ?_ | refine rE ?_ | refine rG ?_ | refine FinQ.now ?_ | refine FinQ.end ?_)
  refine .mk (out', pre' ++ [u], t') ⟨hI'.1, hI'.2, by simp only; omega⟩ (by simp only [List.length_cons]; omega) ?_ ?_
  · simp [go_sem, hku, hks]
  · simp
end Go.Proofs.YtmfgaefefgnhbaaGreatDoor.Abs
namespace Go.Proofs.YtmfgaefefgnhbaaGreatDoor.Abs
set_option linter.unusedSimpArgs false
set_option linter.unusedVariables false
set_option maxRecDepth 100000
open Go Go.RowKit

theorem flatB (l : List Bool) : (Obj.arr 1 (l.map encB)).flat := by
  intro x hx
  obtain ⟨b, _, rfl⟩ := List.mem_map.1 hx
  rfl
theorem region1 (gaps : List Int) (hl : gaps.length ≤ 1000000) (i : Int) : Fn1 Tryz.prog GT0 128 [.raw (.int .i64 i), .cptr [.lst 1 (gaps.map encN)]] (.raw (.bool (!decide (i ∈ gaps)))) [] := by
  have c := contains gaps i (by omega)
  refine holds_of Tryz.func128 rfl rfl ?_
  refine J_run 200 ?_
  delta Tryz.f128
  repeat' (first
    | (simp (maxSteps := 1000000) (disch := omega) only [go_sem])
    | ((with_reducible refine CallA.pure c ?_ ?_); (· simp only [go_sem]); rintro _ _ ⟨rfl, rfl⟩)
    | ((with_reducible first | refine gDt ?_ ?_ | refine gDf ?_ ?_ | refine gNt ?_ ?_ | refine gNf ?_ ?_ | refine cD ?_ ?_ | refine cN ?_ ?_ | refine cB ?_ ?_ | refine gB ?_ ?_) <;> intro h)
    | with_reducible first | refine And.intro ?_ ?_ | refine J_seq ?_ | refine J_block ?_ | refine J_inBlock ?_ | refine rC ?_ | refine rR ?_ | refine rE ?_ | refine rG ?_ | refine FinQ.now ?_ | refine FinQ.end ?_)
theorem region2 (v : Int) : Fn1 Tryz.prog GT0 130 [.raw (.int .i64 v)] (.raw (.bool false)) [] := by
  refine holds_of Tryz.func130 rfl rfl ?_
  refine J_run 200 ?_
  delta Tryz.f130
  repeat' (first
    | (simp (maxSteps := 1000000) (disch := omega) only [go_sem])
    | ((with_reducible first | refine gDt ?_ ?_ | refine gDf ?_ ?_ | refine gNt ?_ ?_ | refine gNf ?_ ?_ | refine cD ?_ ?_ | refine cN ?_ ?_ | refine cB ?_ ?_ | refine gB ?_ ?_) <;> intro h)
    | with_reducible first | refine And.intro ?_ ?_ | refine J_seq ?_ | refine J_block ?_ | refine J_inBlock ?_ | refine rC ?_ | refine rR ?_ | refine rE ?_ | refine rG ?_ | refine FinQ.now ?_ | refine FinQ.end ?_)
theorem regionO (n : Net) (hn : n.ok) (zone gaps : List Int) (hz : ∀ x, x ∈ zone → 0 ≤ x ∧ x < n.nodes.length) (hzl : zone.length ≤ 1000000) (hgl : gaps.length ≤ 1000000) :
    Fn1 Tryz.prog GT0 103 [.agg (encNet n), .lst 1 (zone.map encN), .lst 1 (gaps.map encN)] (.own 0 1 0 n.nodes.length) [.arr 1 ((regB n zone gaps).map encB)] := by
  have c := floodF n hn zone hz hzl 128 [.cptr [.lst 1 (gaps.map encN)]] rfl (fun i => (i : Int) ∉ gaps) (fun i _ => ⟨!decide ((i : Int) ∈ gaps), by simp, region1 gaps hgl i⟩) 130 [] rfl (fun _ => False) (fun v _ _ => ⟨false, by simp, region2 v⟩)
  refine holds_of Tryz.func103 rfl rfl ?_
  refine J_run 200 ?_
  delta Tryz.f103
  simp only [encNet] at c ⊢
  repeat' (first
    | (simp (maxSteps := 1000000) (disch := omega) only [go_sem])
    | ((with_reducible first | refine gDt ?_ ?_ | refine gDf ?_ ?_ | refine gNt ?_ ?_ | refine gNf ?_ ?_ | refine cD ?_ ?_ | refine cN ?_ ?_ | refine cB ?_ ?_ | refine gB ?_ ?_) <;> intro h)
    | with_reducible first | refine And.intro ?_ ?_ | refine J_seq ?_ | refine J_block ?_ | refine J_inBlock ?_ | refine rC ?_ | refine rR ?_ | refine rE ?_ | refine rG ?_)
  refine CallA.keep [1] ?_ ?_ c ?_
  · simp only [go_sem]
  · simp only [go_sem]
  rintro _ _ ⟨rfl, rfl⟩
  refine ⟨⟨rfl, fun o ho => by rw [List.mem_singleton] at ho; subst ho; exact flatB _⟩, ?_⟩
  repeat' (first
    | (simp (maxSteps := 1000000) (disch := omega) only [go_sem])
    | ((with_reducible first | refine gDt ?_ ?_ | refine gDf ?_ ?_ | refine gNt ?_ ?_ | refine gNf ?_ ?_ | refine cD ?_ ?_ | refine cN ?_ ?_ | refine cB ?_ ?_ | refine gB ?_ ?_) <;> intro h)
    | with_reducible first | refine And.intro ?_ ?_ | refine J_seq ?_ | refine J_block ?_ | refine J_inBlock ?_ | refine rC ?_ | refine rR ?_ | refine rE ?_ | refine rG ?_)
  refine .now ?_
  simp only [go_sem]
  rfl
theorem regionF (n : Net) (hn : n.ok) (zone gaps : List Int) (hz : ∀ x, x ∈ zone → 0 ≤ x ∧ x < n.nodes.length) (hzl : zone.length ≤ 1000000) (hgl : gaps.length ≤ 1000000) :
    Fn1 Tryz.prog GT0 103 [.agg (encNet n), .lst 1 (zone.map encN), .lst 1 (gaps.map encN)] (.lst 1 ((regB n zone gaps).map encB)) [] := by
  refine (regionO n hn zone gaps hz hzl hgl).lst _ ?_
  simp only [AV.leafs, frzOwn, if_true, List.drop_zero]
  rw [List.take_of_length_le (by simpa using Nat.le_of_eq regB_len)]
theorem at_ (r : List Bool) (x : Dv) (ha : 0 ≤ x.a ∧ x.a < r.length) (hb : joinsK x.kind = true → 0 ≤ x.b ∧ x.b < r.length) : Fn1 Tryz.prog GT0 104 [.lst 1 (r.map encB), .agg (encDv x)] (.raw (.bool (r.getD x.a.toNat false || (joinsK x.kind && r.getD x.b.toNat false)))) [] := by
  have c := joins x.kind
  have hA := getD_B (l := r) (i := x.a.toNat) (by omega)
  have hA' : r.getD x.a.toNat false = r[x.a.toNat] := by simp [List.getD_eq_getElem?_getD, show x.a.toNat < r.length by omega]
  refine holds_of Tryz.func104 rfl rfl ?_
  refine J_run 200 ?_
  delta Tryz.f104
  simp only [encDv]
  rw [hA']
  obtain ⟨o, ho⟩ : ∃ o, r[x.a.toNat]'(by omega) = o := ⟨_, rfl⟩
  rw [ho] at hA ⊢
  cases o with
  | true =>
    repeat' (first
      | (simp (maxSteps := 1000000) (disch := omega) only [go_sem, hA])
      | ((with_reducible refine CallA.pure c ?_ ?_); (· simp only [go_sem]); rintro _ _ ⟨rfl, rfl⟩)
      | ((with_reducible first | refine gDt ?_ ?_ | refine gDf ?_ ?_ | refine gNt ?_ ?_ | refine gNf ?_ ?_ | refine cD ?_ ?_ | refine cN ?_ ?_ | refine cB ?_ ?_ | refine gB ?_ ?_) <;> intro h)
      | with_reducible first | refine And.intro ?_ ?_ | refine J_seq ?_ | refine J_block ?_ | refine J_inBlock ?_ | refine rC ?_ | refine rR ?_ | refine rE ?_ | refine rG ?_ | refine FinQ.now ?_ | refine FinQ.end ?_)
  | false =>
    cases hj : joinsK x.kind with
    | false =>
      rw [hj] at c
      repeat' (first
        | (simp (maxSteps := 1000000) (disch := omega) only [go_sem, hA])
        | ((with_reducible refine CallA.pure c ?_ ?_); (· simp only [go_sem]); rintro _ _ ⟨rfl, rfl⟩)
        | ((with_reducible first | refine gDt ?_ ?_ | refine gDf ?_ ?_ | refine gNt ?_ ?_ | refine gNf ?_ ?_ | refine cD ?_ ?_ | refine cN ?_ ?_ | refine cB ?_ ?_ | refine gB ?_ ?_) <;> intro h)
        | with_reducible first | refine And.intro ?_ ?_ | refine J_seq ?_ | refine J_block ?_ | refine J_inBlock ?_ | refine rC ?_ | refine rR ?_ | refine rE ?_ | refine rG ?_ | refine FinQ.now ?_ | refine FinQ.end ?_)
    | true =>
      rw [hj] at c
      have hb' := hb hj
      have hB := getD_B (l := r) (i := x.b.toNat) (by omega)
      have hB' : r.getD x.b.toNat false = r[x.b.toNat] := by simp [List.getD_eq_getElem?_getD, show x.b.toNat < r.length by omega]
      rw [hB']
      repeat' (first
        | (simp (maxSteps := 1000000) (disch := omega) only [go_sem, hA, hB])
        | ((with_reducible refine CallA.pure c ?_ ?_); (· simp only [go_sem]); rintro _ _ ⟨rfl, rfl⟩)
        | ((with_reducible first | refine gDt ?_ ?_ | refine gDf ?_ ?_ | refine gNt ?_ ?_ | refine gNf ?_ ?_ | refine cD ?_ ?_ | refine cN ?_ ?_ | refine cB ?_ ?_ | refine gB ?_ ?_) <;> intro h)
        | with_reducible first | refine And.intro ?_ ?_ | refine J_seq ?_ | refine J_block ?_ | refine J_inBlock ?_ | refine rC ?_ | refine rR ?_ | refine rE ?_ | refine rG ?_ | refine FinQ.now ?_ | refine FinQ.end ?_)
theorem checkZ (n : Net) (hs : n.sized) (zone : List Int) (hzl : zone.length ≤ 1000000) : Fn1 Tryz.prog GT0 57 [.agg (encNet n), .lst 1 (zone.map encN)] (.raw (.int .i64 (zoneChk n zone))) [] := by
  have h1 := hs.nl
  have c := netCheck n hs
  have cr := risingF zone n.nodes.length hzl
  refine holds_of Tryz.func57 rfl rfl ?_
  refine J_run 200 ?_
  delta Tryz.f57
  simp only [encNet] at c ⊢
  repeat' (first
    | (exfalso; omega)
    | (simp (maxSteps := 1000000) (disch := omega) only [go_sem])
    | ((with_reducible refine CallA.pure c ?_ ?_); (· simp only [go_sem]); rintro _ _ ⟨rfl, rfl⟩)
    | ((with_reducible refine CallA.pure cr ?_ ?_); (· simp only [go_sem]); rintro _ _ ⟨rfl, rfl⟩)
    | ((with_reducible first | refine gDt ?_ ?_ | refine gDf ?_ ?_ | refine gNt ?_ ?_ | refine gNf ?_ ?_ | refine cD ?_ ?_ | refine cN ?_ ?_ | refine cB ?_ ?_ | refine gB ?_ ?_) <;> intro h)
    | with_reducible first | refine And.intro ?_ ?_ | refine J_seq ?_ | refine J_block ?_ | refine J_inBlock ?_ | refine rC ?_ | refine rR ?_ | refine rE ?_ | refine rG ?_ | refine FinQ.now ?_ | refine FinQ.end ?_)
  all_goals first | (simp_all [zoneChk, List.length_eq_zero_iff]; done) | (simp_all [zoneChk, List.length_eq_zero_iff]; omega) | omega
theorem at_n (n : Net) (hn : n.ok) (zone gaps : List Int) (i : Nat) (hi : i < n.devs.length) : Fn1 Tryz.prog GT0 104 [.lst 1 ((regB n zone gaps).map encB), .agg (encDv n.devs[i])] (.raw (.bool (atB n zone gaps i))) [] := by
  have hd := hn.dev' hi
  have hL := regB_len (n := n) (zone := zone) (gaps := gaps)
  have c := at_ (regB n zone gaps) n.devs[i] ⟨hd.a0, by rw [hL]; exact hd.al⟩ (fun hj => by have := hd.j hj; rw [hL]; exact ⟨this.1, this.2.1⟩)
  have e : atB n zone gaps i = ((regB n zone gaps).getD n.devs[i].a.toNat false || (joinsK n.devs[i].kind && (regB n zone gaps).getD n.devs[i].b.toNat false)) := by
    have ha := hd.a0; have hal := hd.al
    have hA : (regB n zone gaps).getD n.devs[i].a.toNat false = true ↔ RG n zone gaps n.devs[i].a.toNat := by
      have h : n.devs[i].a.toNat < (regB n zone gaps).length := by omega
      rw [← regB_at h]; simp [List.getD_eq_getElem?_getD, h]
    have hB : joinsK n.devs[i].kind = true → ((regB n zone gaps).getD n.devs[i].b.toNat false = true ↔ RG n zone gaps n.devs[i].b.toNat) := fun hj => by
      have := hd.j hj
      have h : n.devs[i].b.toNat < (regB n zone gaps).length := by omega
      rw [← regB_at h]; simp [List.getD_eq_getElem?_getD, h]
    rw [Bool.eq_iff_iff]
    simp only [atB, decide_eq_true_eq, Bool.or_eq_true, Bool.and_eq_true, Int.toNat_natCast, List.getElem?_eq_getElem hi, Option.some.injEq]
    constructor
    · rintro ⟨d, rfl, h | ⟨h, h'⟩⟩
      · exact .inl (hA.2 h)
      · exact .inr ⟨h, (hB h).2 h'⟩
    · rintro (h | ⟨h, h'⟩)
      · exact ⟨_, rfl, .inl (hA.1 h)⟩
      · exact ⟨_, rfl, .inr ⟨h, (hB h).1 h'⟩⟩
  rw [e]
  exact c
end Go.Proofs.YtmfgaefefgnhbaaGreatDoor.Abs
namespace Go.Proofs.YtmfgaefefgnhbaaGreatDoor.Abs
set_option linter.unusedSimpArgs false
set_option linter.unusedVariables false
set_option maxRecDepth 100000
open Go Go.RowKit

theorem gErr_inv {n : Net} {gaps : List Int} {j : Nat} (h : gErr n gaps j = 0) : 0 ≤ gaps.getD j 0 ∧ gaps.getD j 0 < n.devs.length ∧ (0 < j → gaps.getD (j - 1) 0 < gaps.getD j 0) ∧ gapK (n.devs.getD (gaps.getD j 0).toNat ⟨⟨#[]⟩, 0, 0, 0, 0⟩).kind = true := by
  unfold gErr at h
  split at h
  · cases h
  · rename_i h1
    split at h
    · cases h
    · rename_i h2
      exact ⟨by omega, by omega, fun h => by omega, by simpa using h2⟩
theorem rising_take {n : Net} {gaps : List Int} {i : Nat} (hi : i < gaps.length) (hpre : ∀ j, j < i → gErr n gaps j = 0) :
    rising (gaps.take (i + 1)) n.devs.length = true ↔ ¬ (gaps[i] < 0 ∨ (n.devs.length : Int) ≤ gaps[i] ∨ (0 < i ∧ gaps[i] ≤ gaps.getD (i - 1) 0)) := by
  have hgi : gaps.getD i 0 = gaps[i] := by simp [List.getD_eq_getElem?_getD, hi]
  have hl : (gaps.take (i + 1)).length = i + 1 := by simp; omega
  have hgt : ∀ j, j < i + 1 → (gaps.take (i + 1)).getD j 0 = gaps.getD j 0 := fun j hj => by
    simp [List.getD_eq_getElem?_getD, List.getElem?_take, hj]
  have hge : ∀ j (hj : j < (gaps.take (i + 1)).length), (gaps.take (i + 1))[j] = gaps.getD j 0 := fun j hj => by
    rw [List.getElem_take]; simp [List.getD_eq_getElem?_getD, show j < gaps.length by omega]
  unfold rising
  rw [risingFrom_iff]
  constructor
  · intro h
    have h1 := h i (by omega)
    rw [hge i (by omega), hgi] at h1
    rcases i with _ | i
    · simp at h1; omega
    · rw [if_neg (by omega), Nat.add_sub_cancel, hgt i (by omega)] at h1
      have h2 := gErr_inv (hpre i (by omega))
      simp only [Nat.add_sub_cancel]
      omega
  · intro h j hj
    rw [hge j hj]
    have hji : j < i + 1 := by omega
    by_cases e : j = i
    · subst e
      rw [hgi]
      rcases j with _ | j
      · simp; omega
      · rw [if_neg (by omega), Nat.add_sub_cancel, hgt j (by omega)]
        simp only [Nat.add_sub_cancel] at h
        omega
    · have h2 := gErr_inv (hpre j (by omega))
      rcases j with _ | j
      · simp at h2 ⊢; omega
      · rw [if_neg (by omega), Nat.add_sub_cancel, hgt j (by omega)]
        have := h2.2.2.1 (by omega)
        simp only [Nat.add_sub_cancel] at this
        omega
set_option maxHeartbeats 2000000 in
theorem faultF (n : Net) (hs : n.sized) (zone gaps : List Int) (hzl : zone.length ≤ 1000000) (hgl : gaps.length ≤ 1000000) :
    Fn1 Tryz.prog GT0 146 [.agg (encNet n), .lst 1 (zone.map encN), .lst 1 (gaps.map encN)] (.raw (.int .i64 (fault n zone gaps))) [] := by
  have c := checkZ n hs zone hzl
  have h1 := hs.dl
  by_cases h0 : zoneChk n zone = 0
  · have hn := (zoneChk_zero h0).1
    have hdl := hn.dl
    have hf : fault n zone gaps = firstE (gErr n gaps) gaps.length := by unfold fault; rw [if_neg (by simp [h0])]
    rw [h0] at c
    rw [hf]
    refine holds_of Tryz.func146 rfl rfl ?_
    refine J_run 200 ?_
    delta Tryz.f146
    simp only [encNet] at c ⊢
    repeat' (first
      | (simp (maxSteps := 1000000) (disch := omega) only [go_sem])
      | ((with_reducible refine CallA.pure c ?_ ?_); (· simp only [go_sem]); rintro _ _ ⟨rfl, rfl⟩)
      | ((with_reducible first | refine gDt ?_ ?_ | refine gDf ?_ ?_ | refine gNt ?_ ?_ | refine gNf ?_ ?_ | refine cD ?_ ?_ | refine cN ?_ ?_ | refine cB ?_ ?_ | refine gB ?_ ?_) <;> intro h)
      | with_reducible first | refine And.intro ?_ ?_ | refine J_seq ?_ | refine J_block ?_ | refine J_inBlock ?_ | refine rC ?_ | refine rR ?_ | refine rE ?_ | refine rG ?_ | refine FinQ.now ?_ | refine FinQ.end ?_)
    refine J_for ([8, 9] ++ upto 19 42) (fun i : Nat => [(18, .raw (.int .i64 i))]) (fun _ => [.box [.lst 3 (n.nodes.map encNd), .lst 5 (n.devs.map encDv)]]) (fun i => i ≤ gaps.length ∧ ∀ j, j < i → gErr n gaps j = 0) (fun i => gaps.length - i) 0 ⟨by omega, by omega⟩ (.le (by simp [go_sem]) (by simp)) ?_
    rintro i ⟨hi, hpre⟩
    by_cases hlt : i < gaps.length
    · have cr := risingF (gaps.take (i + 1)) n.devs.length (by simp; omega)
      simp only [List.map_take] at cr
      have hrt := rising_take (n := n) hlt hpre
      have hgi : gaps.getD i 0 = gaps[i] := by simp [List.getD_eq_getElem?_getD, hlt]
      have hgn := getD_N hlt
      by_cases hc : gaps[i] < 0 ∨ (n.devs.length : Int) ≤ gaps[i] ∨ (0 < i ∧ gaps[i] ≤ gaps.getD (i - 1) 0)
      · have hr : rising (gaps.take (i + 1)) n.devs.length = false := by
          cases h : rising (gaps.take (i + 1)) n.devs.length with
          | false => rfl
          | true => exact absurd hc (hrt.1 h)
        rw [hr] at cr
        refine J_run 200 ?_
        repeat' (first
          | ((with_reducible refine J_draw (id := 7) 200 [] plan146_7 (by kernel_rfl) (by kernel_rfl) ?_); delta plan146_7)
          | (simp (maxSteps := 1000000) (disch := omega) only [go_sem, hgn])
          | ((with_reducible refine CallA.pure cr ?_ ?_); (· simp only [go_sem]); rintro _ _ ⟨rfl, rfl⟩)
          | ((with_reducible first | refine gDt ?_ ?_ | refine gDf ?_ ?_ | refine gNt ?_ ?_ | refine gNf ?_ ?_ | refine cD ?_ ?_ | refine cN ?_ ?_ | refine cB ?_ ?_ | refine gB ?_ ?_) <;> intro h)
          | with_reducible first | refine And.intro ?_ ?_ | refine J_seq ?_ | refine J_block ?_ | refine J_inBlock ?_ | refine rC ?_ | refine rR ?_ | refine rE ?_ | refine rG ?_ | refine FinQ.now ?_ | refine FinQ.end ?_)
        have hg8 : gErr n gaps i = 8 := by unfold gErr; rw [if_pos (by rw [hgi]; exact hc)]
        rw [firstE_hit hlt hpre (by omega), hg8]
      · rw [hrt.2 hc] at cr
        have hgd := getD_DvL (l := n.devs) (i := gaps[i].toNat) (by omega)
        have cg := gap (n.devs[gaps[i].toNat]'(by omega)).kind
        have hgv : gErr n gaps i = if gapK (n.devs[gaps[i].toNat]'(by omega)).kind = false then 6 else 0 := by
          unfold gErr
          rw [hgi, if_neg hc, getD_get]
        refine J_run 200 ?_
        repeat' (first
          | ((with_reducible refine J_draw (id := 7) 200 [] plan146_7 (by kernel_rfl) (by kernel_rfl) ?_); delta plan146_7)
          | (simp (maxSteps := 1000000) (disch := omega) only [go_sem, hgn, hgd])
          | ((with_reducible refine CallA.pure cr ?_ ?_); (· simp only [go_sem]); rintro _ _ ⟨rfl, rfl⟩)
          | ((with_reducible refine CallA.pure cg ?_ ?_); (· simp only [go_sem]); rintro _ _ ⟨rfl, rfl⟩)
          | ((with_reducible first | refine gDt ?_ ?_ | refine gDf ?_ ?_ | refine gNt ?_ ?_ | refine gNf ?_ ?_ | refine cD ?_ ?_ | refine cN ?_ ?_ | refine cB ?_ ?_ | refine gB ?_ ?_) <;> intro h)
          | with_reducible first | refine And.intro ?_ ?_ | refine J_seq ?_ | refine J_block ?_ | refine J_inBlock ?_ | refine rC ?_ | refine rR ?_ | refine rE ?_ | refine rG ?_ | refine FinQ.now ?_ | refine FinQ.end ?_)
        · have hk : gapK (n.devs[gaps[i].toNat]'(by omega)).kind = false := by simpa using h
          rw [if_pos hk] at hgv
          rw [firstE_hit hlt hpre (by omega), hgv]
        · have hk : ¬ gapK (n.devs[gaps[i].toNat]'(by omega)).kind = false := by simpa using h
          rw [if_neg hk] at hgv
          refine .mk (i + 1) ⟨hlt, fun j hj => ?_⟩ (by omega) (by simp [go_sem]) (by simp)
          rcases Nat.lt_succ_iff_lt_or_eq.1 hj with h3 | rfl
          · exact hpre j h3
          · exact hgv
    · refine J_run 200 ?_
      repeat' (first
        | (simp (maxSteps := 1000000) (disch := omega) only [go_sem])
        | ((with_reducible first | refine gDt ?_ ?_ | refine gDf ?_ ?_ | refine gNt ?_ ?_ | refine gNf ?_ ?_ | refine cD ?_ ?_ | refine cN ?_ ?_ | refine cB ?_ ?_ | refine gB ?_ ?_) <;> intro h)
        | with_reducible first | refine And.intro ?_ ?_ | refine J_seq ?_ | refine J_block ?_ | refine J_inBlock ?_ | refine rC ?_ | refine rR ?_ | refine rE ?_ | refine rG ?_ | refine FinQ.now ?_ | refine FinQ.end ?_)
      rw [firstE_none fun j hj => hpre j (by omega)]
  · have hf : fault n zone gaps = zoneChk n zone := by unfold fault; rw [if_pos h0]
    rw [hf]
    refine holds_of Tryz.func146 rfl rfl ?_
    refine J_run 200 ?_
    delta Tryz.f146
    simp only [encNet] at c ⊢
    repeat' (first
      | (exfalso; omega)
      | (simp (maxSteps := 1000000) (disch := omega) only [go_sem])
      | ((with_reducible refine CallA.pure c ?_ ?_); (· simp only [go_sem]); rintro _ _ ⟨rfl, rfl⟩)
      | ((with_reducible first | refine gDt ?_ ?_ | refine gDf ?_ ?_ | refine gNt ?_ ?_ | refine gNf ?_ ?_ | refine cD ?_ ?_ | refine cN ?_ ?_ | refine cB ?_ ?_ | refine gB ?_ ?_) <;> intro h)
      | with_reducible first | refine And.intro ?_ ?_ | refine J_seq ?_ | refine J_block ?_ | refine J_inBlock ?_ | refine rC ?_ | refine rR ?_ | refine rE ?_ | refine rG ?_ | refine FinQ.now ?_ | refine FinQ.end ?_)
theorem at56 {n : Net} {zone gaps : List Int} {i : Nat} (hi : i < n.devs.length) (hk : n.devs[i].kind = 5 ∨ n.devs[i].kind = 6) : atB n zone gaps i = true ↔ RG n zone gaps n.devs[i].a.toNat := by
  simp only [atB, decide_eq_true_eq, Int.toNat_natCast, List.getElem?_eq_getElem hi, Option.some.injEq]
  constructor
  · rintro ⟨d, rfl, h | ⟨h, _⟩⟩
    · exact h
    · simp only [joinsK, decide_eq_true_eq] at h; omega
  · exact fun h => ⟨_, rfl, .inl h⟩
end Go.Proofs.YtmfgaefefgnhbaaGreatDoor.Abs
namespace Go.Proofs.YtmfgaefefgnhbaaGreatDoor.Abs
set_option linter.unusedSimpArgs false
set_option linter.unusedVariables false
set_option maxRecDepth 100000
open Go Go.RowKit

/-- What is kept of the first j. -/
def kept (pr : Int → Bool) (ys : List Int) (j : Nat) : List Int := (ys.take j).filter fun y => !pr y
theorem kept_next {pr : Int → Bool} {ys : List Int} {j : Nat} (hj : j < ys.length) : kept pr ys (j + 1) = kept pr ys j ++ (if pr ys[j] then [] else [ys[j]]) := by
  unfold kept
  rw [List.take_succ_eq_append_getElem hj, List.filter_append]
  congr 1
  cases h : pr ys[j] <;> simp [h]
theorem kept_len {pr : Int → Bool} {ys : List Int} {j : Nat} : (kept pr ys j).length ≤ j := by
  unfold kept
  exact Nat.le_trans (List.length_filter_le _ _) (by simp; omega)
theorem set_encN {l : List Int} {k : Nat} {x : Int} (hk : k < l.length) : (l.map encN).set k (.raw (.int .i64 x) :: List.drop 1 ((l.map encN).getD k [])) = (l.set k x).map encN := by
  rw [getD_N hk, List.map_set]; rfl
theorem firstAt_or (pr : Int → Bool) (ys : List Int) : (firstAt pr ys = -1 ∧ ∀ y, y ∈ ys → pr y = false) ∨ ∃ (i : Nat) (hi : i < ys.length), firstAt pr ys = i ∧ pr ys[i] = true ∧ ∀ j (hj : j < i), pr (ys[j]'(by omega)) = false := by
  by_cases h : ∀ y, y ∈ ys → pr y = false
  · exact .inl ⟨firstAt_none h, h⟩
  · right
    have hex : ∃ i, ∃ hi : i < ys.length, pr ys[i] = true := by
      apply Classical.byContradiction
      intro hne
      apply h
      intro y hy
      obtain ⟨i, hi, rfl⟩ := List.getElem_of_mem hy
      cases hp : pr ys[i] with
      | false => rfl
      | true => exact absurd ⟨i, hi, hp⟩ hne
    obtain ⟨i, ⟨hi, hp⟩, hmin⟩ : ∃ i, (∃ hi : i < ys.length, pr ys[i] = true) ∧ ∀ j, j < i → ¬ ∃ hj : j < ys.length, pr ys[j] = true := by
      obtain ⟨i, hi⟩ := hex
      induction i using Nat.strongRecOn with
      | _ i ih =>
        by_cases hj : ∃ j, j < i ∧ ∃ hj : j < ys.length, pr ys[j] = true
        · obtain ⟨j, h1, h2⟩ := hj
          exact ih j h1 h2
        · exact ⟨i, hi, fun j h1 h2 => hj ⟨j, h1, h2⟩⟩
    have hpre : ∀ j (hj : j < i), pr (ys[j]'(by omega)) = false := fun j hj => by
      cases hp : pr (ys[j]'(by omega)) with
      | false => rfl
      | true => exact absurd ⟨by omega, hp⟩ (hmin j hj)
    exact ⟨i, hi, firstAt_some hi hp hpre, hp, hpre⟩
set_option maxHeartbeats 2000000 in
theorem deleteFunc (ys : List Int) (fn : FuncId) (cap : List AV) (hcap : AV.immL cap = true) (pr : Int → Bool) (hl : ys.length ≤ 1000000)
    (hp : ∀ y, y ∈ ys → Fn1 Tryz.prog GT0 fn (.raw (.int .i64 y) :: cap) (.raw (.bool (pr y))) []) :
    Holds Tryz.prog GT0 133 [.own 0 1 0 ys.length, .clo (.func fn) [] cap] [.arr 1 (ys.map encN)]
      (Ret (.own 0 1 0 (ys.filter fun y => !pr y).length) [.arr 1 ((ys.filter fun y => !pr y).map encN ++ List.replicate (ys.length - (ys.filter fun y => !pr y).length) (encN 0))]) := by
  have hcapk := fun s => AV.keepsL_imm s cap hcap
  have hlu := fun f => AV.leafsL_imm f cap hcap
  have ci := indexFunc ys fn cap hcap pr (by omega) hp
  refine holds_of Tryz.func133 rfl rfl ?_
  refine J_run 200 ?_
  delta Tryz.f133
  iterate 6 (all_goals (try (first
    | (simp (maxSteps := 1000000) (disch := omega) only [go_sem, hlu, hcapk])
    | ((with_reducible first | refine gDt ?_ ?_ | refine gDf ?_ ?_ | refine gNt ?_ ?_ | refine gNf ?_ ?_ | refine cD ?_ ?_ | refine cN ?_ ?_ | refine cB ?_ ?_ | refine gB ?_ ?_) <;> intro h)
    | with_reducible first | refine And.intro ?_ ?_ | refine J_seq ?_ | refine J_block ?_ | refine J_inBlock ?_ | refine rC ?_ | refine rR ?_ | refine rE ?_ | refine rG ?_ | refine FinQ.now ?_ | refine FinQ.end ?_)))
  refine CallA.keep [0] ?_ ?_ ci ?_
  · simp only [go_sem, hlu]
    rw [List.take_of_length_le (by simp)]
  · simp only [go_sem, hcap]
  rintro _ _ ⟨rfl, rfl⟩
  refine ⟨⟨rfl, fun _ h => by cases h⟩, ?_⟩
  rcases firstAt_or pr ys with ⟨h1, h2⟩ | ⟨i, hi, h1, h2, h3⟩
  · rw [h1]
    have hf : (ys.filter fun y => !pr y) = ys := by
      rw [List.filter_eq_self]
      intro y hy
      simp [h2 y hy]
    rw [hf]
    iterate 10 (all_goals (try (first
      | (simp (maxSteps := 1000000) (disch := omega) only [go_sem, hlu, hcapk])
      | ((with_reducible first | refine gDt ?_ ?_ | refine gDf ?_ ?_ | refine gNt ?_ ?_ | refine gNf ?_ ?_ | refine cD ?_ ?_ | refine cN ?_ ?_ | refine cB ?_ ?_ | refine gB ?_ ?_) <;> intro h)
      | with_reducible first | refine And.intro ?_ ?_ | refine J_seq ?_ | refine J_block ?_ | refine J_inBlock ?_ | refine rC ?_ | refine rR ?_ | refine rE ?_ | refine rG ?_ | refine FinQ.now ?_ | refine FinQ.end ?_)))
    all_goals trace_state
  · rw [h1]
    iterate 8 (all_goals (try (first
      | (simp (maxSteps := 1000000) (disch := omega) only [go_sem, hlu, hcapk])
      | ((with_reducible first | refine gDt ?_ ?_ | refine gDf ?_ ?_ | refine gNt ?_ ?_ | refine gNf ?_ ?_ | refine cD ?_ ?_ | refine cN ?_ ?_ | refine cB ?_ ?_ | refine gB ?_ ?_) <;> intro h)
      | with_reducible first | refine And.intro ?_ ?_ | refine J_seq ?_ | refine J_block ?_ | refine J_inBlock ?_ | refine rC ?_ | refine rR ?_ | refine rE ?_ | refine rG ?_ | refine FinQ.now ?_ | refine FinQ.end ?_)))
    have hk0 : kept pr ys (i + 1) = ys.take i := by
      rw [kept_next hi, if_pos h2, List.append_nil]
      unfold kept
      rw [List.filter_eq_self]
      intro y hy
      obtain ⟨j, hj, rfl⟩ := List.getElem_of_mem hy
      simp only [List.length_take] at hj
      rw [List.getElem_take, h3 j (by omega)]; rfl
    refine J_for ([7] ++ upto 16 35) (fun x : Nat × List Int => [(5, .raw (.int .i64 (kept pr ys x.1).length)), (6, .raw (.int .i64 x.1))]) (fun x => [.arr 1 (x.2.map encN)]) (fun x => x.1 ≤ ys.length ∧ x.2.length = ys.length ∧ x.2.take (kept pr ys x.1).length = kept pr ys x.1 ∧ x.2.drop x.1 = ys.drop x.1) (fun x => ys.length - x.1) (i + 1, ys) ⟨by simp only; omega, rfl, ?_, rfl⟩ (.le ?_ (by simp)) ?_
    · simp only [hk0]; rw [List.length_take, Nat.min_eq_left (by omega)]
    · simp only [hk0, List.length_take, Nat.min_eq_left (Nat.le_of_lt hi)]; simp [go_sem, hcapk]
    rintro ⟨j, B⟩ ⟨hj, hBl, hBt, hBd⟩
    simp only at hj hBl hBt hBd
    have hkl := kept_len (pr := pr) (ys := ys) (j := j)
    by_cases hlt : j < ys.length
    · have hx : B[j]'(by omega) = ys[j] := by
        have h := congrArg (fun l => l[0]?) hBd
        simpa [List.getElem?_eq_getElem hlt, List.getElem?_eq_getElem (show j < B.length by omega)] using h
      have hgn : (B.map encN).getD j [] = [.raw (.int .i64 ys[j])] := by rw [getD_N (by omega), hx]
      have hpx := hp _ (List.getElem_mem hlt)
      have hkn := kept_next (pr := pr) hlt
      obtain ⟨o, ho⟩ : ∃ o, pr ys[j] = o := ⟨_, rfl⟩
      rw [ho] at hpx hkn
      cases o with
      | true =>
        refine J_run 200 ?_
        iterate 4 (all_goals (try (first
          | (simp (maxSteps := 1000000) (disch := omega) only [go_sem, hgn, hlu, hcapk])
          | ((with_reducible first | refine gDt ?_ ?_ | refine gDf ?_ ?_ | refine gNt ?_ ?_ | refine gNf ?_ ?_ | refine cD ?_ ?_ | refine cN ?_ ?_ | refine cB ?_ ?_ | refine gB ?_ ?_) <;> intro h)
          | with_reducible first | refine And.intro ?_ ?_ | refine J_seq ?_ | refine J_block ?_ | refine J_inBlock ?_ | refine rC ?_ | refine rR ?_ | refine rE ?_ | refine rG ?_ | refine FinQ.now ?_ | refine FinQ.end ?_)))
        refine CallA.pure hpx (by simp [go_sem, hcap]) ?_
        rintro _ _ ⟨rfl, rfl⟩
        iterate 8 (all_goals (try (first
          | (simp (maxSteps := 1000000) (disch := omega) only [go_sem, hlu, hcapk])
          | ((with_reducible first | refine gDt ?_ ?_ | refine gDf ?_ ?_ | refine gNt ?_ ?_ | refine gNf ?_ ?_ | refine cD ?_ ?_ | refine cN ?_ ?_ | refine cB ?_ ?_ | refine gB ?_ ?_) <;> intro h)
          | with_reducible first | refine And.intro ?_ ?_ | refine J_seq ?_ | refine J_block ?_ | refine J_inBlock ?_ | refine rC ?_ | refine rR ?_ | refine rE ?_ | refine rG ?_ | refine FinQ.now ?_ | refine FinQ.end ?_)))
        simp only [if_true, List.append_nil] at hkn
        refine .mk (j + 1, B) ⟨by simp only; omega, hBl, by simp only [hkn]; exact hBt, ?_⟩ (by simp only; omega) ?_ ?_
        · simp only
          rw [← List.drop_drop, ← List.drop_drop, hBd]
        · simp only [hkn]; simp [go_sem, hcapk]
        · simp
      | false =>
        refine J_run 200 ?_
        iterate 4 (all_goals (try (first
          | (simp (maxSteps := 1000000) (disch := omega) only [go_sem, hgn, hlu, hcapk])
          | ((with_reducible first | refine gDt ?_ ?_ | refine gDf ?_ ?_ | refine gNt ?_ ?_ | refine gNf ?_ ?_ | refine cD ?_ ?_ | refine cN ?_ ?_ | refine cB ?_ ?_ | refine gB ?_ ?_) <;> intro h)
          | with_reducible first | refine And.intro ?_ ?_ | refine J_seq ?_ | refine J_block ?_ | refine J_inBlock ?_ | refine rC ?_ | refine rR ?_ | refine rE ?_ | refine rG ?_ | refine FinQ.now ?_ | refine FinQ.end ?_)))
        refine CallA.pure hpx (by simp [go_sem, hcap]) ?_
        rintro _ _ ⟨rfl, rfl⟩
        iterate 8 (all_goals (try (first
          | (simp (maxSteps := 1000000) (disch := omega) only [go_sem, hlu, hcapk])
          | ((with_reducible first | refine gDt ?_ ?_ | refine gDf ?_ ?_ | refine gNt ?_ ?_ | refine gNf ?_ ?_ | refine cD ?_ ?_ | refine cN ?_ ?_ | refine cB ?_ ?_ | refine gB ?_ ?_) <;> intro h)
          | with_reducible first | refine And.intro ?_ ?_ | refine J_seq ?_ | refine J_block ?_ | refine J_inBlock ?_ | refine rC ?_ | refine rR ?_ | refine rE ?_ | refine rG ?_ | refine FinQ.now ?_ | refine FinQ.end ?_)))
        have hkB : (kept pr ys j).length < B.length := by omega
        rw [set_encN hkB]
        have hkn' : kept pr ys (j + 1) = kept pr ys j ++ [ys[j]] := by rw [hkn]; rfl
        refine .mk (j + 1, B.set (kept pr ys j).length ys[j]) ⟨by simp only; omega, by simp [hBl], ?_, ?_⟩ (by simp only; omega) ?_ ?_
        · simp only [hkn']
          rw [List.length_append, List.length_singleton, List.take_succ_eq_append_getElem (by simpa using hkB), List.take_set_of_le (Nat.le_refl _), hBt]
          simp
        · simp only
          rw [List.drop_set_of_lt (by omega), ← List.drop_drop, ← List.drop_drop, hBd]
        · simp only [hkn']; simp [go_sem, hcapk]
        · simp
    have hje : j = ys.length := by omega
    subst hje
    refine J_run 200 ?_
    iterate 8 (all_goals (try (first
      | (simp (maxSteps := 1000000) (disch := omega) only [go_sem, hlu, hcapk])
      | ((with_reducible first | refine gDt ?_ ?_ | refine gDf ?_ ?_ | refine gNt ?_ ?_ | refine gNf ?_ ?_ | refine cD ?_ ?_ | refine cN ?_ ?_ | refine cB ?_ ?_ | refine gB ?_ ?_) <;> intro h)
      | with_reducible first | refine And.intro ?_ ?_ | refine J_seq ?_ | refine J_block ?_ | refine J_inBlock ?_ | refine rC ?_ | refine rR ?_ | refine rE ?_ | refine rG ?_ | refine FinQ.now ?_ | refine FinQ.end ?_)))
    have hke : kept pr ys ys.length = ys.filter fun y => !pr y := by unfold kept; rw [List.take_length]
    · rw [hke]
    · have hke : kept pr ys ys.length = ys.filter fun y => !pr y := by unfold kept; rw [List.take_length]
      rw [List.drop_of_length_le (by simp; omega), List.append_nil, ← List.map_take, hBt, hke]
      rfl
end Go.Proofs.YtmfgaefefgnhbaaGreatDoor.Abs
