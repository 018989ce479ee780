/- EarthingMore, walked: it returns true. -/
import Derived.Test.YthgcmeniecaemaaDoorEUn
import Derived.Test.YthgcmeniecaemaaDoorEL
import Derived.Test.YthgcmeniecaemaaDoorZPA
namespace Go.Proofs.YthgcmeniecaemaaDoor.Abs
set_option linter.unusedSimpArgs false
set_option linter.unusedVariables false
set_option maxRecDepth 100000
open Go Go.RowKit

def isMore (a : List Int) (v : Int) (i : Nat) : Bool := decide ((i : Int) = v) || decide ((i : Int) ∈ a)
/-- A set that was drawn, and how long it is. -/
def DrawnSetN (N : Nat) (r : AV) (os : List Obj) : Prop := ∃ (z : List Int) (d : Dk), d.ok ∧ rising z N = true ∧ z.length ≤ N ∧ r = .own 1 1 0 z.length ∧ os = [.box (encDk d), .arr 1 (z.map encN)]
theorem setN (d : Dk) (hd : d.ok) (N : Nat) (hN : N ≤ 32) (most : Int) : Holds Tryd.prog GT0 31 [.ref 0 0, .raw (.int .i64 N), .raw (.int .i64 most)] [.box (encDk d)] (DrawnSetN N) :=
  (setD d hd N most (by omega)).mono fun r os ⟨z, d', h1, h2, h3, h4⟩ => by
    rw [if_neg (by omega)] at h2
    exact ⟨z, d', h1, h2, by have := rising_len (by omega) h2; omega, h3, h4⟩
theorem more_mem {a : List Int} {v : Int} {N : Nat} (hr : rising a N = true) {x : Int} (hx : x ∈ a) : x ∈ pickTo (isMore a v) N := by
  have h := rising_mem hr hx
  refine mem_pickTo.2 ⟨x.toNat, by omega, by omega, ?_⟩
  simp only [isMore, Bool.or_eq_true, decide_eq_true_eq]
  exact .inr (by rw [Int.toNat_of_nonneg h.1]; exact hx)
def isEarth (n : Net) (i : Nat) : Bool := decide ((n.devs.getD i ⟨⟨#[]⟩, 0, 0, 0, 0⟩).kind = 4)
set_option maxHeartbeats 16000000 in
theorem earthingMore (l : List Int) (hl : NumsOk l) : Fn1 Tryd.prog GT0 5 [.lst 1 (l.map encN)] (.raw (.bool true)) [] := by
  have ca := awake16
  have cf := few l hl.len
  by_cases h400 : l.length ≤ 400
  · have cn := newDeck l
    rw [decide_eq_true h400] at cf
    have cw := networkD _ hl.deck 7 12 (by omega) (by omega)
    refine holds_of Tryd.func5 rfl rfl ?_
    refine J_run 200 ?_
    delta Tryd.f5
    iterate 6 (all_goals (try (first
      | (simp (maxSteps := 1000000) (disch := omega) only [go_sem])
      | ((with_reducible refine CallA.pure cf ?_ ?_); (· simp (disch := omega) only [go_sem]); rintro _ _ ⟨rfl, rfl⟩)
      | ((with_reducible refine CallA.pure cn ?_ ?_); (· simp (disch := omega) only [go_sem]); rintro _ _ ⟨rfl, rfl⟩)
      | ((with_reducible first | refine gDt ?_ ?_ | refine gDf ?_ ?_ | refine gNt ?_ ?_ | refine gNf ?_ ?_ | refine cD ?_ ?_ | refine cN ?_ ?_ | refine cB ?_ ?_ | refine gB ?_ ?_) <;> intro h)
      | with_reducible first | refine And.intro ?_ ?_ | refine J_seq ?_ | refine J_block ?_ | refine J_inBlock ?_ | refine rC ?_ | refine rR ?_ | refine rE ?_ | refine rG ?_ | refine FinQ.now ?_ | refine FinQ.end ?_)))
    refine CallA.mut [0] ?_ ?_ ?_ ?_ cw ?_
    · simp only [go_sem]
    · simp only [go_sem]
    · simp only [go_sem]
    · simp only [go_sem]
    rintro _ _ ⟨n, k, d1, hd1, hM, hk2, hk7, hdl, hd1', rfl, rfl⟩
    have hnl := hM.nl
    have hno := hM.ok (by omega) (by omega)
    have cz := zoneD d1 hd1 n (by omega) (by omega)
    have cs := fun (d : Dk) (hd : d.ok) => setN d hd n.nodes.length (by omega) 3
    have cx := fun (d : Dk) (hd : d.ok) => next d hd n.nodes.length ⟨by omega, by omega⟩
    simp only [encNet] at cz ⊢
    iterate 7 (all_goals (try (first
      | (simp (maxSteps := 1000000) (disch := omega) only [go_sem, take_lm])
      | ((with_reducible refine CallA.mut [0] ?_ ?_ ?_ ?_ cz ?_); (· simp (disch := omega) only [go_sem, take_lm]); (· simp (disch := omega) only [go_sem, take_lm]); (· simp (disch := omega) only [go_sem, take_lm]); (· simp (disch := omega) only [go_sem, take_lm]); rintro _ _ ⟨z, d2, hd2, hz0, hz, rfl, rfl⟩)
      | ((with_reducible refine CallA.mut [0] ?_ ?_ ?_ ?_ (cs _ hd2) ?_); (· simp (disch := omega) only [go_sem, take_lm]); (· simp (disch := omega) only [go_sem, take_lm]); (· simp (disch := omega) only [go_sem, take_lm]); (· simp (disch := omega) only [go_sem, take_lm]); rintro _ _ ⟨a, d3, hd3, hE, hal, rfl, rfl⟩)
      | ((with_reducible refine CallA.mut [0] ?_ ?_ ?_ ?_ (cx _ hd3) ?_); (· simp (disch := omega) only [go_sem, take_lm]); (· simp (disch := omega) only [go_sem, take_lm]); (· simp (disch := omega) only [go_sem, take_lm]); (· simp (disch := omega) only [go_sem, take_lm]); rintro _ _ ⟨v, dd, hdd, hv0, hv1, rfl, rfl⟩)
      | ((with_reducible first | refine gDt ?_ ?_ | refine gDf ?_ ?_ | refine gNt ?_ ?_ | refine gNf ?_ ?_ | refine cD ?_ ?_ | refine cN ?_ ?_ | refine cB ?_ ?_ | refine gB ?_ ?_) <;> intro h)
      | with_reducible first | refine And.intro ?_ ?_ | refine J_seq ?_ | refine J_block ?_ | refine J_inBlock ?_ | refine rC ?_ | refine rR ?_ | refine rE ?_ | refine rG ?_ | refine FinQ.now ?_ | refine FinQ.end ?_)))
    refine CallA.keep [3] ?_ ?_ (has a v (by omega)) ?_
    · simp (disch := omega) only [go_sem, take_lm]
    · simp (disch := omega) only [go_sem]
    rintro _ _ ⟨rfl, rfl⟩
    refine ⟨⟨rfl, fun _ h => by cases h⟩, ?_⟩
    iterate 12 (all_goals (try (first
      | (simp (maxSteps := 1000000) (disch := omega) only [go_sem, take_lm])
      | ((with_reducible first | refine gDt ?_ ?_ | refine gDf ?_ ?_ | refine gNt ?_ ?_ | refine gNf ?_ ?_ | refine cD ?_ ?_ | refine cN ?_ ?_ | refine cB ?_ ?_ | refine gB ?_ ?_) <;> intro h)
      | with_reducible first | refine And.intro ?_ ?_ | refine J_seq ?_ | refine J_block ?_ | refine J_inBlock ?_ | refine rC ?_ | refine rR ?_ | refine rE ?_ | refine rG ?_ | refine FinQ.now ?_ | refine FinQ.end ?_)))
    · skip
      have hzl := rising_len (by omega) hz
      have zz : zoneChk n z = 0 := zoneChk_ok hno hz0 hz
      have c1 := EarthF n hno.sized z a (by omega) (by omega)
      have c3 := EarthF n hno.sized z z (by omega) (by omega)
      have c4 := (EarthF n hno.sized z [] (by omega) (by simp)).args (args := [.agg (encNet n), .lst 1 (z.map encN), .raw (.slice none 0 0)]) (.cons (VLe.refl _) (.cons (VLe.refl _) (.cons (VLe.nilLst 1) .nil)))
      rw [earthE_ok zz hE] at c1
      rw [earthE_ok zz hz, missL_all hno hz, decide_eq_true rfl] at c3
      rw [earthE_ok zz rfl, decide_eq_false (missL_none hz0)] at c4
      simp only [encNet] at c1 c3 c4
      refine J_nilName 7 1 (by simp only [go_sem]) ?_
      simp only [go_sem]
      refine J_for ([9] ++ upto 58 71) (fun i : Nat => [(57, .raw (.int .i64 i)), (7, .own 4 1 0 (pickTo (isMore a v) i).length)]) (fun i => [.box (encDk dd), .box (encNet n), .arr 1 (a.map encN), .arr 1 (a.map encN), .arr 1 ((pickTo (isMore a v) i).map encN)]) (fun i => i ≤ n.nodes.length) (fun i => n.nodes.length - i) 0 (by omega) (.le (by simp [go_sem, encNet, pickTo]) (by simp)) ?_
      intro i hi
      simp only [encNet]
      have hpl := pickTo_len (p := isMore a v) (i := i)
      by_cases hlt : i < n.nodes.length
      · have hpn := pickTo_next (p := isMore a v) (i := i)
        have hie : isMore a v i = (decide ((i : Int) = v) || decide ((i : Int) ∈ a)) := rfl
        have cH := has a i (by omega)
        obtain ⟨b1, hb1⟩ : ∃ b, decide ((i : Int) = v) = b := ⟨_, rfl⟩
        obtain ⟨b2, hb2⟩ : ∃ b, decide ((i : Int) ∈ a) = b := ⟨_, rfl⟩
        rw [hb2] at cH
        rw [hie, hb1, hb2] at hpn
        cases b1 <;> cases b2
        all_goals
          refine J_run 200 ?_
          iterate 16 (all_goals (try (first
            | (simp (maxSteps := 1000000) (disch := omega) only [go_sem, hb1, take_lm])
            | ((with_reducible refine CallA.keep [2] ?_ ?_ cH ?_); (· simp (disch := omega) only [go_sem, hb1, take_lm]); (· simp (disch := omega) only [go_sem, hb1, take_lm]); rintro _ _ ⟨rfl, rfl⟩; refine ⟨⟨rfl, fun _ h => by cases h⟩, ?_⟩)
            | ((with_reducible first | refine gDt ?_ ?_ | refine gDf ?_ ?_ | refine gNt ?_ ?_ | refine gNf ?_ ?_ | refine cD ?_ ?_ | refine cN ?_ ?_ | refine cB ?_ ?_ | refine gB ?_ ?_) <;> intro h)
            | with_reducible first | refine And.intro ?_ ?_ | refine J_seq ?_ | refine J_block ?_ | refine J_inBlock ?_ | refine rC ?_ | refine rR ?_ | refine rE ?_ | refine rG ?_ | refine FinQ.now ?_ | refine FinQ.end ?_)))
          refine .mk (i + 1) hlt (by omega) ?_ ?_
          · rw [hpn]; simp [go_sem, encNet, encN]
          · simp
      have hie : i = n.nodes.length := by omega
      subst hie
      have hbu : rising (pickTo (isMore a v) n.nodes.length) n.nodes.length = true := pickTo_up
      have hab : ∀ x, x ∈ a → x ∈ pickTo (isMore a v) n.nodes.length := fun x hx => more_mem hE hx
      obtain ⟨b, hb⟩ : ∃ b, pickTo (isMore a v) n.nodes.length = b := ⟨_, rfl⟩
      rw [hb] at hbu hab ⊢
      have hbl := rising_len (by omega) hbu
      have c2 := EarthF n hno.sized z b (by omega) (by omega)
      rw [earthE_ok zz hbu] at c2
      have hxy : missL n z a = [] → missL n z b = [] := missL_more hab
      simp only [encNet] at c2
      obtain ⟨x, hx⟩ : ∃ x, decide (missL n z a = []) = x := ⟨_, rfl⟩
      obtain ⟨y, hy⟩ : ∃ y, decide (missL n z b = []) = y := ⟨_, rfl⟩
      have hxy2 : x = true → y = true := fun h => by rw [← hx, decide_eq_true_eq] at h; rw [← hy, decide_eq_true_eq]; exact hxy h
      rw [hx] at c1
      rw [hy] at c2
      refine J_run 200 ?_
      iterate 12 (all_goals (try (first
        | (simp (maxSteps := 1000000) (disch := omega) only [go_sem, take_lm])
        | ((with_reducible refine CallA.give [2] ?_ ?_ c1 ?_); (· simp (disch := omega) only [go_sem, take_lm]); (· simp (disch := omega) only [go_sem, take_lm]); rintro _ _ ⟨rfl, rfl⟩)
        | ((with_reducible refine CallA.give [3] ?_ ?_ c1 ?_); (· simp (disch := omega) only [go_sem, take_lm]); (· simp (disch := omega) only [go_sem, take_lm]); rintro _ _ ⟨rfl, rfl⟩)
        | ((with_reducible refine CallA.give [3] ?_ ?_ c2 ?_); (· simp (disch := omega) only [go_sem, take_lm]); (· simp (disch := omega) only [go_sem, take_lm]); rintro _ _ ⟨rfl, rfl⟩)
        | ((with_reducible refine CallA.give [4] ?_ ?_ c2 ?_); (· simp (disch := omega) only [go_sem, take_lm]); (· simp (disch := omega) only [go_sem, take_lm]); rintro _ _ ⟨rfl, rfl⟩)
        | ((with_reducible refine CallA.pure c3 ?_ ?_); (· simp (disch := omega) only [go_sem, take_lm]); rintro _ _ ⟨rfl, rfl⟩)
        | ((with_reducible refine CallA.pure c4 ?_ ?_); (· simp (disch := omega) only [go_sem, take_lm]); rintro _ _ ⟨rfl, rfl⟩)
        | ((with_reducible first | refine gDt ?_ ?_ | refine gDf ?_ ?_ | refine gNt ?_ ?_ | refine gNf ?_ ?_ | refine cD ?_ ?_ | refine cN ?_ ?_ | refine cB ?_ ?_ | refine gB ?_ ?_) <;> intro h)
        | with_reducible first | refine And.intro ?_ ?_ | refine J_seq ?_ | refine J_block ?_ | refine J_inBlock ?_ | refine rC ?_ | refine rR ?_ | refine rE ?_ | refine rG ?_ | refine FinQ.now ?_ | refine FinQ.end ?_)))
      refine J_frz [3] ?_
      simp only [go_sem, take_lm]
      refine J_mergeN 0 [] (fun _ : Unit => []) (fun _ => [.box (encDk dd), .box (encNet n)]) (fun _ => True) ?_ ?_
      · refine J_nil ?_
        refine .mk () trivial ?_ ?_
        · simp [go_sem, encNet]
        · simp
      rintro _ _
      simp only [go_sem, encNet]
      refine J_nilName 18 3 (by simp only [go_sem]) ?_
      simp only [go_sem]
      refine J_for ([19, 20] ++ upto 104 117) (fun i : Nat => [(103, .raw (.int .i64 i)), (18, .own 2 3 0 (pickTo (isEarth n) i).length)]) (fun i => [.box (encDk dd), .box (encNet n), .arr 3 (((pickTo (isEarth n) i).map (lkBy fun _ => 2)).map encLk)]) (fun i => i ≤ n.devs.length) (fun i => n.devs.length - i) 0 (by omega) (.le (by simp [go_sem, encNet, pickTo]) (by simp)) ?_
      intro i hi
      simp only [encNet]
      have hpl := pickTo_len (p := isEarth n) (i := i)
      by_cases hlt : i < n.devs.length
      · have hdv := getD_Dv hlt
        have hpn := pickTo_next (p := isEarth n) (i := i)
        have hie : isEarth n i = decide (n.devs[i].kind = 4) := by unfold isEarth; rw [getD_get hlt]
        obtain ⟨k4, hk4⟩ : ∃ k, decide (n.devs[i].kind = 4) = k := ⟨_, rfl⟩
        rw [hie, hk4] at hpn
        cases k4
        all_goals
          refine J_run 200 ?_
          iterate 16 (all_goals (try (first
            | (simp (maxSteps := 1000000) (disch := omega) only [go_sem, hdv, hk4])
            | ((with_reducible first | refine gDt ?_ ?_ | refine gDf ?_ ?_ | refine gNt ?_ ?_ | refine gNf ?_ ?_ | refine cD ?_ ?_ | refine cN ?_ ?_ | refine cB ?_ ?_ | refine gB ?_ ?_) <;> intro h)
            | with_reducible first | refine And.intro ?_ ?_ | refine J_seq ?_ | refine J_block ?_ | refine J_inBlock ?_ | refine rC ?_ | refine rR ?_ | refine rE ?_ | refine rG ?_ | refine FinQ.now ?_ | refine FinQ.end ?_)))
          refine .mk (i + 1) hlt (by omega) ?_ ?_
          · rw [hpn]; simp [go_sem, encNet, encLk, lkBy]
          · simp
      have hie : i = n.devs.length := by omega
      subst hie
      have hL := by_locks hno (f := fun _ => 2) (gl := pickTo (isEarth n) n.devs.length) pickTo_up (fun g hg => by
        obtain ⟨j, rfl, h1, h2⟩ := mem_pickTo.1 hg
        simp only [isEarth, decide_eq_true_eq] at h2
        rw [Int.toNat_natCast, h2]; decide) (fun _ _ => .inr rfl)
      obtain ⟨pl, hpl2⟩ : ∃ pl, pickTo (isEarth n) n.devs.length = pl := ⟨_, rfl⟩
      rw [hpl2] at hL hpl ⊢
      obtain ⟨ls, hls⟩ : ∃ ls, pl.map (lkBy fun _ => 2) = ls := ⟨_, rfl⟩
      have hll : pl.length = ls.length := by rw [← hls, List.length_map]
      rw [hls] at hL ⊢
      rw [hll]
      have hl128 := hL.len
      have hle : lockedE n ls z = 0 := by unfold lockedE; rw [if_neg (by simp [locks_iff.2 hL]), zz]
      have cM := MissingF n hno.sized ls (by omega) z (by omega)
      have cS := SidesF n hno.sized ls (by omega) z (by omega)
      rw [show missingR n ls z = (missL n z (countL n ls z), 0) by unfold missingR; rw [if_neg (by simp [hle])]] at cM
      rw [show sidesR n ls z = (decide (missL n z (countL n ls z) = []), 0) by unfold sidesR; rw [if_neg (by simp [hle])]] at cS
      have hml := missL_len (n := n) (E := countL n ls z) (z := z)
      have hsub := fun (v : Int) (h : v ∈ missL n z (countL n ls z)) => missL_sub h
      obtain ⟨ms, hms⟩ : ∃ ms, missL n z (countL n ls z) = ms := ⟨_, rfl⟩
      rw [hms] at cM cS hml hsub
      have he : decide (ms = []) = decide ((ms.length : Int) = 0) := by rw [decide_eq_decide, ← List.length_eq_zero_iff]; omega
      obtain ⟨em, hem⟩ : ∃ e, decide ((ms.length : Int) = 0) = e := ⟨_, rfl⟩
      rw [he, hem] at cS
      simp only [encNet] at cM cS
      refine J_run 200 ?_
      iterate 20 (all_goals (try (first
        | (simp (maxSteps := 1000000) (disch := omega) only [go_sem, take_lm])
        | ((with_reducible refine CallA.give [2] ?_ ?_ cM ?_); (· simp (disch := omega) only [go_sem, take_lm]); (· simp (disch := omega) only [go_sem, take_lm]); rintro _ _ ⟨rfl, rfl⟩)
        | ((with_reducible refine CallA.pure cS ?_ ?_); (· simp (disch := omega) only [go_sem, take_lm]); rintro _ _ ⟨rfl, rfl⟩)
        | ((with_reducible first | refine gDt ?_ ?_ | refine gDf ?_ ?_ | refine gNt ?_ ?_ | refine gNf ?_ ?_ | refine cD ?_ ?_ | refine cN ?_ ?_ | refine cB ?_ ?_ | refine gB ?_ ?_) <;> intro h)
        | with_reducible first | refine And.intro ?_ ?_ | refine J_seq ?_ | refine J_block ?_ | refine J_inBlock ?_ | refine rC ?_ | refine rR ?_ | refine rE ?_ | refine rG ?_ | refine FinQ.now ?_ | refine FinQ.end ?_)))
      refine J_for ([26] ++ upto 135 142) (fun i : Nat => [(134, .raw (.int .i64 i))]) (fun _ => [.box (encDk dd), .box (encNet n)]) (fun i => i ≤ ms.length) (fun i => ms.length - i) 0 (by omega) (.le (by simp [go_sem, encNet]) (by simp)) ?_
      intro i hi
      simp only [encNet]
      by_cases hlt : i < ms.length
      · have hg := getD_N hlt
        have cH := has z ms[i] (by omega)
        rw [decide_eq_true (hsub _ (List.getElem_mem hlt))] at cH
        refine J_run 200 ?_
        iterate 16 (all_goals (try (first
          | (simp (maxSteps := 1000000) (disch := omega) only [go_sem, hg])
          | ((with_reducible refine CallA.pure cH ?_ ?_); (· simp (disch := omega) only [go_sem, hg]); rintro _ _ ⟨rfl, rfl⟩)
          | ((with_reducible first | refine gDt ?_ ?_ | refine gDf ?_ ?_ | refine gNt ?_ ?_ | refine gNf ?_ ?_ | refine cD ?_ ?_ | refine cN ?_ ?_ | refine cB ?_ ?_ | refine gB ?_ ?_) <;> intro h)
          | with_reducible first | refine And.intro ?_ ?_ | refine J_seq ?_ | refine J_block ?_ | refine J_inBlock ?_ | refine rC ?_ | refine rR ?_ | refine rE ?_ | refine rG ?_ | refine FinQ.now ?_ | refine FinQ.end ?_)))
        refine .mk (i + 1) hlt (by omega) ?_ ?_
        · simp [go_sem, encNet]
        · simp
      · cases x
        · refine J_run 200 ?_
          iterate 12 (all_goals (try (first
            | (simp (maxSteps := 1000000) (disch := omega) only [go_sem, hem, decide_true])
            | ((with_reducible refine CallA.pure ca ?_ ?_); (· simp (disch := omega) only [go_sem, hem, decide_true]); rintro _ _ ⟨rfl, rfl⟩)
            | ((with_reducible first | refine gDt ?_ ?_ | refine gDf ?_ ?_ | refine gNt ?_ ?_ | refine gNf ?_ ?_ | refine cD ?_ ?_ | refine cN ?_ ?_ | refine cB ?_ ?_ | refine gB ?_ ?_) <;> intro h)
            | with_reducible first | refine And.intro ?_ ?_ | refine J_seq ?_ | refine J_block ?_ | refine J_inBlock ?_ | refine rC ?_ | refine rR ?_ | refine rE ?_ | refine rG ?_ | refine FinQ.now ?_ | refine FinQ.end ?_)))
        · first | rw [hxy2 rfl] | skip
          refine J_run 200 ?_
          iterate 12 (all_goals (try (first
            | (simp (maxSteps := 1000000) (disch := omega) only [go_sem, hem, decide_true])
            | ((with_reducible refine CallA.pure ca ?_ ?_); (· simp (disch := omega) only [go_sem, hem, decide_true]); rintro _ _ ⟨rfl, rfl⟩)
            | ((with_reducible first | refine gDt ?_ ?_ | refine gDf ?_ ?_ | refine gNt ?_ ?_ | refine gNf ?_ ?_ | refine cD ?_ ?_ | refine cN ?_ ?_ | refine cB ?_ ?_ | refine gB ?_ ?_) <;> intro h)
            | with_reducible first | refine And.intro ?_ ?_ | refine J_seq ?_ | refine J_block ?_ | refine J_inBlock ?_ | refine rC ?_ | refine rR ?_ | refine rE ?_ | refine rG ?_ | refine FinQ.now ?_ | refine FinQ.end ?_)))
    · skip
      have hzl := rising_len (by omega) hz
      have zz : zoneChk n z = 0 := zoneChk_ok hno hz0 hz
      have c1 := EarthF n hno.sized z a (by omega) (by omega)
      have c3 := EarthF n hno.sized z z (by omega) (by omega)
      have c4 := (EarthF n hno.sized z [] (by omega) (by simp)).args (args := [.agg (encNet n), .lst 1 (z.map encN), .raw (.slice none 0 0)]) (.cons (VLe.refl _) (.cons (VLe.refl _) (.cons (VLe.nilLst 1) .nil)))
      rw [earthE_ok zz hE] at c1
      rw [earthE_ok zz hz, missL_all hno hz, decide_eq_true rfl] at c3
      rw [earthE_ok zz rfl, decide_eq_false (missL_none hz0)] at c4
      simp only [encNet] at c1 c3 c4
      have hbu := hE
      have hab : ∀ x, x ∈ a → x ∈ a := fun x hx => hx
      have hbl := rising_len (by omega) hbu
      have c2 := EarthF n hno.sized z a (by omega) (by omega)
      rw [earthE_ok zz hbu] at c2
      have hxy : missL n z a = [] → missL n z a = [] := missL_more hab
      simp only [encNet] at c2
      obtain ⟨x, hx⟩ : ∃ x, decide (missL n z a = []) = x := ⟨_, rfl⟩
      obtain ⟨y, hy⟩ : ∃ y, decide (missL n z a = []) = y := ⟨_, rfl⟩
      have hxy2 : x = true → y = true := fun h => by rw [← hx, decide_eq_true_eq] at h; rw [← hy, decide_eq_true_eq]; exact hxy h
      rw [hx] at c1
      rw [hy] at c2
      iterate 12 (all_goals (try (first
        | (simp (maxSteps := 1000000) (disch := omega) only [go_sem, take_lm])
        | ((with_reducible refine CallA.give [2] ?_ ?_ c1 ?_); (· simp (disch := omega) only [go_sem, take_lm]); (· simp (disch := omega) only [go_sem, take_lm]); rintro _ _ ⟨rfl, rfl⟩)
        | ((with_reducible refine CallA.give [3] ?_ ?_ c1 ?_); (· simp (disch := omega) only [go_sem, take_lm]); (· simp (disch := omega) only [go_sem, take_lm]); rintro _ _ ⟨rfl, rfl⟩)
        | ((with_reducible refine CallA.give [3] ?_ ?_ c2 ?_); (· simp (disch := omega) only [go_sem, take_lm]); (· simp (disch := omega) only [go_sem, take_lm]); rintro _ _ ⟨rfl, rfl⟩)
        | ((with_reducible refine CallA.give [4] ?_ ?_ c2 ?_); (· simp (disch := omega) only [go_sem, take_lm]); (· simp (disch := omega) only [go_sem, take_lm]); rintro _ _ ⟨rfl, rfl⟩)
        | ((with_reducible refine CallA.pure c3 ?_ ?_); (· simp (disch := omega) only [go_sem, take_lm]); rintro _ _ ⟨rfl, rfl⟩)
        | ((with_reducible refine CallA.pure c4 ?_ ?_); (· simp (disch := omega) only [go_sem, take_lm]); rintro _ _ ⟨rfl, rfl⟩)
        | ((with_reducible first | refine gDt ?_ ?_ | refine gDf ?_ ?_ | refine gNt ?_ ?_ | refine gNf ?_ ?_ | refine cD ?_ ?_ | refine cN ?_ ?_ | refine cB ?_ ?_ | refine gB ?_ ?_) <;> intro h)
        | with_reducible first | refine And.intro ?_ ?_ | refine J_seq ?_ | refine J_block ?_ | refine J_inBlock ?_ | refine rC ?_ | refine rR ?_ | refine rE ?_ | refine rG ?_ | refine FinQ.now ?_ | refine FinQ.end ?_)))
      refine J_mergeN 0 [] (fun _ : Unit => []) (fun _ => [.box (encDk dd), .box (encNet n)]) (fun _ => True) ?_ ?_
      · refine J_nil ?_
        refine .mk () trivial ?_ ?_
        · simp [go_sem, encNet]
        · simp
      rintro _ _
      simp only [go_sem, encNet]
      refine J_nilName 18 3 (by simp only [go_sem]) ?_
      simp only [go_sem]
      refine J_for ([19, 20] ++ upto 104 117) (fun i : Nat => [(103, .raw (.int .i64 i)), (18, .own 2 3 0 (pickTo (isEarth n) i).length)]) (fun i => [.box (encDk dd), .box (encNet n), .arr 3 (((pickTo (isEarth n) i).map (lkBy fun _ => 2)).map encLk)]) (fun i => i ≤ n.devs.length) (fun i => n.devs.length - i) 0 (by omega) (.le (by simp [go_sem, encNet, pickTo]) (by simp)) ?_
      intro i hi
      simp only [encNet]
      have hpl := pickTo_len (p := isEarth n) (i := i)
      by_cases hlt : i < n.devs.length
      · have hdv := getD_Dv hlt
        have hpn := pickTo_next (p := isEarth n) (i := i)
        have hie : isEarth n i = decide (n.devs[i].kind = 4) := by unfold isEarth; rw [getD_get hlt]
        obtain ⟨k4, hk4⟩ : ∃ k, decide (n.devs[i].kind = 4) = k := ⟨_, rfl⟩
        rw [hie, hk4] at hpn
        cases k4
        all_goals
          refine J_run 200 ?_
          iterate 16 (all_goals (try (first
            | (simp (maxSteps := 1000000) (disch := omega) only [go_sem, hdv, hk4])
            | ((with_reducible first | refine gDt ?_ ?_ | refine gDf ?_ ?_ | refine gNt ?_ ?_ | refine gNf ?_ ?_ | refine cD ?_ ?_ | refine cN ?_ ?_ | refine cB ?_ ?_ | refine gB ?_ ?_) <;> intro h)
            | with_reducible first | refine And.intro ?_ ?_ | refine J_seq ?_ | refine J_block ?_ | refine J_inBlock ?_ | refine rC ?_ | refine rR ?_ | refine rE ?_ | refine rG ?_ | refine FinQ.now ?_ | refine FinQ.end ?_)))
          refine .mk (i + 1) hlt (by omega) ?_ ?_
          · rw [hpn]; simp [go_sem, encNet, encLk, lkBy]
          · simp
      have hie : i = n.devs.length := by omega
      subst hie
      have hL := by_locks hno (f := fun _ => 2) (gl := pickTo (isEarth n) n.devs.length) pickTo_up (fun g hg => by
        obtain ⟨j, rfl, h1, h2⟩ := mem_pickTo.1 hg
        simp only [isEarth, decide_eq_true_eq] at h2
        rw [Int.toNat_natCast, h2]; decide) (fun _ _ => .inr rfl)
      obtain ⟨pl, hpl2⟩ : ∃ pl, pickTo (isEarth n) n.devs.length = pl := ⟨_, rfl⟩
      rw [hpl2] at hL hpl ⊢
      obtain ⟨ls, hls⟩ : ∃ ls, pl.map (lkBy fun _ => 2) = ls := ⟨_, rfl⟩
      have hll : pl.length = ls.length := by rw [← hls, List.length_map]
      rw [hls] at hL ⊢
      rw [hll]
      have hl128 := hL.len
      have hle : lockedE n ls z = 0 := by unfold lockedE; rw [if_neg (by simp [locks_iff.2 hL]), zz]
      have cM := MissingF n hno.sized ls (by omega) z (by omega)
      have cS := SidesF n hno.sized ls (by omega) z (by omega)
      rw [show missingR n ls z = (missL n z (countL n ls z), 0) by unfold missingR; rw [if_neg (by simp [hle])]] at cM
      rw [show sidesR n ls z = (decide (missL n z (countL n ls z) = []), 0) by unfold sidesR; rw [if_neg (by simp [hle])]] at cS
      have hml := missL_len (n := n) (E := countL n ls z) (z := z)
      have hsub := fun (v : Int) (h : v ∈ missL n z (countL n ls z)) => missL_sub h
      obtain ⟨ms, hms⟩ : ∃ ms, missL n z (countL n ls z) = ms := ⟨_, rfl⟩
      rw [hms] at cM cS hml hsub
      have he : decide (ms = []) = decide ((ms.length : Int) = 0) := by rw [decide_eq_decide, ← List.length_eq_zero_iff]; omega
      obtain ⟨em, hem⟩ : ∃ e, decide ((ms.length : Int) = 0) = e := ⟨_, rfl⟩
      rw [he, hem] at cS
      simp only [encNet] at cM cS
      refine J_run 200 ?_
      iterate 20 (all_goals (try (first
        | (simp (maxSteps := 1000000) (disch := omega) only [go_sem, take_lm])
        | ((with_reducible refine CallA.give [2] ?_ ?_ cM ?_); (· simp (disch := omega) only [go_sem, take_lm]); (· simp (disch := omega) only [go_sem, take_lm]); rintro _ _ ⟨rfl, rfl⟩)
        | ((with_reducible refine CallA.pure cS ?_ ?_); (· simp (disch := omega) only [go_sem, take_lm]); rintro _ _ ⟨rfl, rfl⟩)
        | ((with_reducible first | refine gDt ?_ ?_ | refine gDf ?_ ?_ | refine gNt ?_ ?_ | refine gNf ?_ ?_ | refine cD ?_ ?_ | refine cN ?_ ?_ | refine cB ?_ ?_ | refine gB ?_ ?_) <;> intro h)
        | with_reducible first | refine And.intro ?_ ?_ | refine J_seq ?_ | refine J_block ?_ | refine J_inBlock ?_ | refine rC ?_ | refine rR ?_ | refine rE ?_ | refine rG ?_ | refine FinQ.now ?_ | refine FinQ.end ?_)))
      refine J_for ([26] ++ upto 135 142) (fun i : Nat => [(134, .raw (.int .i64 i))]) (fun _ => [.box (encDk dd), .box (encNet n)]) (fun i => i ≤ ms.length) (fun i => ms.length - i) 0 (by omega) (.le (by simp [go_sem, encNet]) (by simp)) ?_
      intro i hi
      simp only [encNet]
      by_cases hlt : i < ms.length
      · have hg := getD_N hlt
        have cH := has z ms[i] (by omega)
        rw [decide_eq_true (hsub _ (List.getElem_mem hlt))] at cH
        refine J_run 200 ?_
        iterate 16 (all_goals (try (first
          | (simp (maxSteps := 1000000) (disch := omega) only [go_sem, hg])
          | ((with_reducible refine CallA.pure cH ?_ ?_); (· simp (disch := omega) only [go_sem, hg]); rintro _ _ ⟨rfl, rfl⟩)
          | ((with_reducible first | refine gDt ?_ ?_ | refine gDf ?_ ?_ | refine gNt ?_ ?_ | refine gNf ?_ ?_ | refine cD ?_ ?_ | refine cN ?_ ?_ | refine cB ?_ ?_ | refine gB ?_ ?_) <;> intro h)
          | with_reducible first | refine And.intro ?_ ?_ | refine J_seq ?_ | refine J_block ?_ | refine J_inBlock ?_ | refine rC ?_ | refine rR ?_ | refine rE ?_ | refine rG ?_ | refine FinQ.now ?_ | refine FinQ.end ?_)))
        refine .mk (i + 1) hlt (by omega) ?_ ?_
        · simp [go_sem, encNet]
        · simp
      · cases x
        · refine J_run 200 ?_
          iterate 12 (all_goals (try (first
            | (simp (maxSteps := 1000000) (disch := omega) only [go_sem, hem, decide_true])
            | ((with_reducible refine CallA.pure ca ?_ ?_); (· simp (disch := omega) only [go_sem, hem, decide_true]); rintro _ _ ⟨rfl, rfl⟩)
            | ((with_reducible first | refine gDt ?_ ?_ | refine gDf ?_ ?_ | refine gNt ?_ ?_ | refine gNf ?_ ?_ | refine cD ?_ ?_ | refine cN ?_ ?_ | refine cB ?_ ?_ | refine gB ?_ ?_) <;> intro h)
            | with_reducible first | refine And.intro ?_ ?_ | refine J_seq ?_ | refine J_block ?_ | refine J_inBlock ?_ | refine rC ?_ | refine rR ?_ | refine rE ?_ | refine rG ?_ | refine FinQ.now ?_ | refine FinQ.end ?_)))
        · first | rw [hxy2 rfl] | skip
          refine J_run 200 ?_
          iterate 12 (all_goals (try (first
            | (simp (maxSteps := 1000000) (disch := omega) only [go_sem, hem, decide_true])
            | ((with_reducible refine CallA.pure ca ?_ ?_); (· simp (disch := omega) only [go_sem, hem, decide_true]); rintro _ _ ⟨rfl, rfl⟩)
            | ((with_reducible first | refine gDt ?_ ?_ | refine gDf ?_ ?_ | refine gNt ?_ ?_ | refine gNf ?_ ?_ | refine cD ?_ ?_ | refine cN ?_ ?_ | refine cB ?_ ?_ | refine gB ?_ ?_) <;> intro h)
            | with_reducible first | refine And.intro ?_ ?_ | refine J_seq ?_ | refine J_block ?_ | refine J_inBlock ?_ | refine rC ?_ | refine rR ?_ | refine rE ?_ | refine rG ?_ | refine FinQ.now ?_ | refine FinQ.end ?_)))
  · rw [decide_eq_false h400] at cf
    refine holds_of Tryd.func5 rfl rfl ?_
    refine J_run 200 ?_
    delta Tryd.f5
    repeat' (first
      | (simp (maxSteps := 1000000) (disch := omega) only [go_sem])
      | ((with_reducible refine CallA.pure ca ?_ ?_); (· simp (disch := omega) only [go_sem]); rintro _ _ ⟨rfl, rfl⟩)
      | ((with_reducible refine CallA.pure cf ?_ ?_); (· simp (disch := omega) only [go_sem]); rintro _ _ ⟨rfl, rfl⟩)
      | ((with_reducible first | refine gDt ?_ ?_ | refine gDf ?_ ?_ | refine gNt ?_ ?_ | refine gNf ?_ ?_ | refine cD ?_ ?_ | refine cN ?_ ?_ | refine cB ?_ ?_ | refine gB ?_ ?_) <;> intro h)
      | with_reducible first | refine And.intro ?_ ?_ | refine J_seq ?_ | refine J_block ?_ | refine J_inBlock ?_ | refine rC ?_ | refine rR ?_ | refine rE ?_ | refine rG ?_ | refine FinQ.now ?_ | refine FinQ.end ?_)
theorem earthingMore_av (x : (Sh.slice (.int .i64)).Den) (o : (Sh.slice (.int .i64)).Ok x) : Fn1 Tryd.prog GT0 5 [(Sh.slice (.int .i64)).av x] (.raw (.bool true)) [] := earthingMore x (nums_ok o)
end Go.Proofs.YthgcmeniecaemaaDoor.Abs
