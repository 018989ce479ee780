/- BoundaryWhole, walked: it returns true. -/
import Derived.Test.YtfkiomkfoabnhaaDoorFA
import Derived.Test.YtfkiomkfoabnhaaDoorBA
import Derived.Test.YtfkiomkfoabnhaaDoorBB
import Derived.Test.YtfkiomkfoabnhaaDoorRX
import Derived.Test.YtfkiomkfoabnhaaDoorZNear
namespace Go.Proofs.YtfkiomkfoabnhaaDoor.Abs
set_option linter.unusedSimpArgs false
set_option linter.unusedVariables false
set_option maxRecDepth 100000
open Go Go.RowKit

theorem near_nil {n : Net} {z : List Int} (h : (nearestR n z).2 ≠ 0) : (nearestR n z).1 = [] := by
  unfold nearestR at h ⊢
  split at h
  · rename_i h1; rw [if_pos h1]
  · rename_i h1
    rw [if_neg h1]
    split at h
    · rename_i h2; rw [if_pos h2]
    · exact absurd rfl h
theorem near_mem {n : Net} {z : List Int} : ∀ x, x ∈ (nearestR n z).1 → 0 ≤ x ∧ x < n.devs.length := by
  intro x hx
  have key : x ∈ cuts n → 0 ≤ x ∧ x < n.devs.length := fun h => by
    obtain ⟨i, d, rfl, hd, _⟩ := mem_cuts.1 h
    have := (List.getElem?_eq_some_iff.1 hd).1
    omega
  unfold nearestR at hx
  split at hx
  · cases hx
  · split at hx
    · cases hx
    · exact key (List.mem_filter.1 hx).1
set_option maxHeartbeats 8000000 in
theorem boundAll (n : Net) (hs : n.sized) (hdl : n.devs.length ≤ 64) (c : Int) (z : List Int) (hz : z.length ≤ 1000000) (hc : 0 ≤ c ∧ c ≤ 7) :
    Fn1 Tryd.prog GT0 15 [.agg (encNet n), .raw (.int .i64 c), .lst 1 (z.map encN)] (.tup [.lst 1 (((nearestR n z).1.filter (fun x => ownB n c x == true)).map encN), .lst 1 (((nearestR n z).1.filter (fun x => ownB n c x == false)).map encN), .raw (.int .i64 (nearestR n z).2)]) [] := by
  by_cases h0 : (nearestR n z).2 = 0
  · have := boundPts n hs c z hz h0 hc near_mem (by have := near_len (n := n) (z := z); omega)
    rw [h0]
    exact this
  · have cn := NearestF n hs z hz
    rw [near_nil h0] at cn ⊢
    obtain ⟨e, he⟩ : ∃ e, (nearestR n z).2 = e := ⟨_, rfl⟩
    rw [he] at cn h0 ⊢
    refine holds_ofV Tryd.func15 rfl rfl ?_
    refine J_run 200 ?_
    delta Tryd.f15
    simp only [encNet] at cn ⊢
    iterate 20 (all_goals (try (first
      | (simp (maxSteps := 1000000) (disch := omega) only [go_sem, h0])
      | ((with_reducible refine CallA.pure cn ?_ ?_); (· simp (disch := omega) only [go_sem, h0]); rintro _ _ ⟨rfl, rfl⟩)
      | ((with_reducible first | refine gDt ?_ ?_ | refine gDf ?_ ?_ | refine gNt ?_ ?_ | refine gNf ?_ ?_ | refine cD ?_ ?_ | refine cN ?_ ?_ | refine cB ?_ ?_ | refine gB ?_ ?_) <;> intro h)
      | with_reducible first | refine And.intro ?_ ?_ | refine J_seq ?_ | refine J_block ?_ | refine J_inBlock ?_ | refine rC ?_ | refine rR ?_ | refine rE ?_ | refine rG ?_ | refine FinQ.now ?_ | refine FinQ.end ?_)))
    exact ⟨_, .tup (.cons (.nilLst 1) (.cons (.nilLst 1) (VLes.refl _))), rfl, rfl⟩
theorem part_len {n : Net} {c : Int} (l : List Int) : (l.filter (fun x => ownB n c x == true)).length + (l.filter (fun x => ownB n c x == false)).length = l.length := by
  induction l with
  | nil => rfl
  | cons x l ih =>
    simp only [List.filter_cons, List.length_cons]
    cases ownB n c x
    · rw [if_neg (by decide), if_pos (by decide), List.length_cons]; omega
    · rw [if_pos (by decide), if_neg (by decide), List.length_cons]; omega
theorem part_mem {n : Net} {c : Int} {l : List Int} {x : Int} (hx : x ∈ l) (b : Bool) : decide (x ∈ l.filter (fun x => ownB n c x == b)) = (ownB n c x == b) := by
  rw [Bool.eq_iff_iff, decide_eq_true_eq, List.mem_filter]
  exact ⟨fun h => h.2, fun h => ⟨hx, h⟩⟩
set_option maxHeartbeats 16000000 in
theorem boundaryWhole (l : List Int) (hl : NumsOk l) : Fn1 Tryd.prog GT0 3 [.lst 1 (l.map encN)] (.raw (.bool true)) [] := by
  have ca := awake35
  have cf := few l hl.len
  by_cases h400 : l.length ≤ 400
  · have cn := newDeck l
    have hdk := hl.deck
    rw [decide_eq_true h400] at cf
    have ct := fun (d : Dk) (hd : d.ok) => tieD d hd
    refine holds_of Tryd.func3 rfl rfl ?_
    refine J_run 200 ?_
    delta Tryd.f3
    iterate 12 (all_goals (try (first
      | (simp (maxSteps := 1000000) (disch := omega) only [go_sem])
      | ((with_reducible refine CallA.pure ca ?_ ?_); (· simp (disch := omega) only [go_sem]); rintro _ _ ⟨rfl, rfl⟩)
      | ((with_reducible refine CallA.pure cf ?_ ?_); (· simp (disch := omega) only [go_sem]); rintro _ _ ⟨rfl, rfl⟩)
      | ((with_reducible refine CallA.pure cn ?_ ?_); (· simp (disch := omega) only [go_sem]); rintro _ _ ⟨rfl, rfl⟩)
      | ((with_reducible first | refine gDt ?_ ?_ | refine gDf ?_ ?_ | refine gNt ?_ ?_ | refine gNf ?_ ?_ | refine cD ?_ ?_ | refine cN ?_ ?_ | refine cB ?_ ?_ | refine gB ?_ ?_) <;> intro h)
      | with_reducible first | refine And.intro ?_ ?_ | refine J_seq ?_ | refine J_block ?_ | refine J_inBlock ?_ | refine rC ?_ | refine rR ?_ | refine rE ?_ | refine rG ?_ | refine FinQ.now ?_ | refine FinQ.end ?_)))
    refine CallA.mut [0] ?_ ?_ ?_ ?_ (ct _ hdk) ?_
    · simp only [go_sem]
    · simp only [go_sem]
    · simp only [go_sem]
    · simp only [go_sem]
    rintro _ _ ⟨n, st, d1, hd1, hno, hn6, hv1, hv10, hst, hst12, rfl, rfl⟩
    have cz := zoneD d1 hd1 n (by omega) (by omega)
    simp only [encNet] at cz ⊢
    iterate 8 (all_goals (try (first
      | (simp (maxSteps := 1000000) (disch := omega) only [go_sem])
      | ((with_reducible first | refine gDt ?_ ?_ | refine gDf ?_ ?_ | refine gNt ?_ ?_ | refine gNf ?_ ?_ | refine cD ?_ ?_ | refine cN ?_ ?_ | refine cB ?_ ?_ | refine gB ?_ ?_) <;> intro h)
      | with_reducible first | refine And.intro ?_ ?_ | refine J_seq ?_ | refine J_block ?_ | refine J_inBlock ?_ | refine rC ?_ | refine rR ?_ | refine rE ?_ | refine rG ?_ | refine FinQ.now ?_ | refine FinQ.end ?_)))
    refine CallA.mut [0] ?_ ?_ ?_ ?_ cz ?_
    · simp only [go_sem]
    · simp only [go_sem]
    · simp only [go_sem]
    · simp only [go_sem]
    rintro _ _ ⟨z, d2, hd2, hz0, hz, rfl, rfl⟩
    have hzl := rising_len (by omega) hz
    have cnr := rNearest n hno.sized z (by omega)
    have hmem := near_mem (n := n) (z := z)
    have hnl := near_len (n := n) (z := z)
    obtain ⟨e, he⟩ : ∃ e, (nearestR n z).2 = e := ⟨_, rfl⟩
    obtain ⟨A, hA⟩ : ∃ A, (nearestR n z).1 = A := ⟨_, rfl⟩
    rw [he, hA] at cnr
    rw [hA] at hmem hnl
    simp only [encNet] at cnr
    iterate 14 (all_goals (try (first
      | (simp (maxSteps := 1000000) (disch := omega) only [go_sem])
      | ((with_reducible refine CallA.pure cnr ?_ ?_); (· simp (disch := omega) only [go_sem]); rintro _ _ ⟨rfl, rfl⟩)
      | ((with_reducible first | refine gDt ?_ ?_ | refine gDf ?_ ?_ | refine gNt ?_ ?_ | refine gNf ?_ ?_ | refine cD ?_ ?_ | refine cN ?_ ?_ | refine cB ?_ ?_ | refine gB ?_ ?_) <;> intro h)
      | with_reducible first | refine And.intro ?_ ?_ | refine J_seq ?_ | refine J_block ?_ | refine J_inBlock ?_ | refine rC ?_ | refine rR ?_ | refine rE ?_ | refine rG ?_ | refine FinQ.now ?_ | refine FinQ.end ?_)))
    refine J_for ([10, 11, 12, 14] ++ upto 39 92) (fun c : Nat => [(9, .raw (.int .i64 c))]) (fun c => [.box (encDk d2), .box [.lst 3 (n.nodes.map encNd), .lst 5 (n.devs.map encDv)]]) (fun c => 1 ≤ c ∧ c ≤ 3) (fun c => 3 - c) 1 (by omega) (.le (by simp [go_sem]) (by simp)) ?_
    intro c hc
    by_cases hc2 : c ≤ 2
    · have cb := boundAll n hno.sized (by omega) (c : Int) z (by omega) (by omega)
      have hsum := part_len (n := n) (c := (c : Int)) A
      have hmo := fun (x : Int) (hx : x ∈ A) => part_mem (n := n) (c := (c : Int)) hx true
      have hmf := fun (x : Int) (hx : x ∈ A) => part_mem (n := n) (c := (c : Int)) hx false
      rw [he, hA] at cb
      obtain ⟨o, ho⟩ : ∃ o, A.filter (fun x => ownB n c x == true) = o := ⟨_, rfl⟩
      obtain ⟨g, hg⟩ : ∃ o, A.filter (fun x => ownB n c x == false) = o := ⟨_, rfl⟩
      rw [ho, hg] at cb hsum
      rw [ho] at hmo
      rw [hg] at hmf
      simp only [encNet] at cb
      have hsI : ((o.length : Int) + (g.length : Int)) = (A.length : Int) := by omega
      refine J_run 200 ?_
      iterate 24 (all_goals (try (first
        | (simp (maxSteps := 1000000) (disch := omega) only [go_sem, hsI, ne_eq, not_true_eq_false])
        | ((with_reducible refine CallA.pure cb ?_ ?_); (· simp (disch := omega) only [go_sem, hsI, ne_eq, not_true_eq_false]); rintro _ _ ⟨rfl, rfl⟩)
        | ((with_reducible first | refine gDt ?_ ?_ | refine gDf ?_ ?_ | refine gNt ?_ ?_ | refine gNf ?_ ?_ | refine cD ?_ ?_ | refine cN ?_ ?_ | refine cB ?_ ?_ | refine gB ?_ ?_) <;> intro h)
        | with_reducible first | refine And.intro ?_ ?_ | refine J_seq ?_ | refine J_block ?_ | refine J_inBlock ?_ | refine rC ?_ | refine rR ?_ | refine rE ?_ | refine rG ?_ | refine FinQ.now ?_ | refine FinQ.end ?_)))
      refine J_for ([14] ++ upto 67 92) (fun i : Nat => [(66, .raw (.int .i64 i))]) (fun i => [.box (encDk d2), .box [.lst 3 (n.nodes.map encNd), .lst 5 (n.devs.map encDv)]]) (fun i => i ≤ A.length) (fun i => A.length - i) 0 (by omega) (.le (by simp [go_sem]) (by simp)) ?_
      intro i hi
      by_cases hlt : i < A.length
      · have hgi := getD_N hlt
        have hb := hmem _ (List.getElem_mem hlt)
        have hdv := getD_Dv (l := n.devs) (i := A[i].toNat) (by omega)
        have co := has o A[i] (by omega)
        have cg := has g A[i] (by omega)
        rw [hmo _ (List.getElem_mem hlt)] at co
        rw [hmf _ (List.getElem_mem hlt)] at cg
        obtain ⟨b, hbb⟩ : ∃ b, decide ((n.devs[A[i].toNat]'(by omega)).comp = (c : Int)) = b := ⟨_, rfl⟩
        have hown : ownB n c A[i] = b := by unfold ownB; rw [getD_get (show A[i].toNat < n.devs.length by omega)]; exact hbb
        rw [hown] at co cg
        refine J_run 200 ?_
        cases b
        all_goals
          simp only [show ((true : Bool) == true) = true from rfl, show ((true : Bool) == false) = false from rfl, show ((false : Bool) == true) = false from rfl, show ((false : Bool) == false) = true from rfl] at co cg
          iterate 16 (all_goals (try (first
            | ((with_reducible refine J_draw (id := 16) 200 [] plan3_16 (by kernel_rfl) (by kernel_rfl) ?_); delta plan3_16)
            | (simp (maxSteps := 1000000) (disch := omega) only [go_sem, hgi, hdv, hbb])
            | ((with_reducible refine CallA.pure co ?_ ?_); (· simp (disch := omega) only [go_sem, hgi, hdv, hbb]); rintro _ _ ⟨rfl, rfl⟩)
            | ((with_reducible refine CallA.pure cg ?_ ?_); (· simp (disch := omega) only [go_sem, hgi, hdv, hbb]); rintro _ _ ⟨rfl, rfl⟩)
            | ((with_reducible first | refine gDt ?_ ?_ | refine gDf ?_ ?_ | refine gNt ?_ ?_ | refine gNf ?_ ?_ | refine cD ?_ ?_ | refine cN ?_ ?_ | refine cB ?_ ?_ | refine gB ?_ ?_ | refine stepGuard_dect ?_ ?_ | refine stepGuard_decf ?_ ?_ | refine stepGuard_ndect ?_ ?_ | refine stepGuard_ndecf ?_ ?_ | refine stepGuard_by ?_ ?_) <;> intro h)
            | with_reducible first | refine And.intro ?_ ?_ | refine J_seq ?_ | refine J_block ?_ | refine J_inBlock ?_ | refine rC ?_ | refine rR ?_ | refine rE ?_ | refine rG ?_ | refine FinQ.now ?_ | refine FinQ.end ?_)))
          refine .mk (i + 1) hlt (by omega) ?_ ?_
          · simp [go_sem]
          · simp
      · refine J_run 200 ?_
        iterate 14 (all_goals (try (first
          | (simp (maxSteps := 1000000) (disch := omega) only [go_sem])
          | ((with_reducible first | refine gDt ?_ ?_ | refine gDf ?_ ?_ | refine gNt ?_ ?_ | refine gNf ?_ ?_ | refine cD ?_ ?_ | refine cN ?_ ?_ | refine cB ?_ ?_ | refine gB ?_ ?_) <;> intro h)
          | with_reducible first | refine And.intro ?_ ?_ | refine J_seq ?_ | refine J_block ?_ | refine J_inBlock ?_ | refine rC ?_ | refine rR ?_ | refine rE ?_ | refine rG ?_ | refine FinQ.now ?_ | refine FinQ.end ?_)))
        refine .mk (c + 1) (by omega) (by omega) ?_ ?_
        · simp [go_sem]
        · simp
    · refine J_run 200 ?_
      iterate 10 (all_goals (try (first
        | (simp (maxSteps := 1000000) (disch := omega) only [go_sem])
        | ((with_reducible first | refine gDt ?_ ?_ | refine gDf ?_ ?_ | refine gNt ?_ ?_ | refine gNf ?_ ?_ | refine cD ?_ ?_ | refine cN ?_ ?_ | refine cB ?_ ?_ | refine gB ?_ ?_) <;> intro h)
        | with_reducible first | refine And.intro ?_ ?_ | refine J_seq ?_ | refine J_block ?_ | refine J_inBlock ?_ | refine rC ?_ | refine rR ?_ | refine rE ?_ | refine rG ?_ | refine FinQ.now ?_ | refine FinQ.end ?_)))
  · rw [decide_eq_false h400] at cf
    refine holds_of Tryd.func3 rfl rfl ?_
    refine J_run 200 ?_
    delta Tryd.f3
    iterate 12 (all_goals (try (first
      | (simp (maxSteps := 1000000) (disch := omega) only [go_sem])
      | ((with_reducible refine CallA.pure ca ?_ ?_); (· simp (disch := omega) only [go_sem]); rintro _ _ ⟨rfl, rfl⟩)
      | ((with_reducible refine CallA.pure cf ?_ ?_); (· simp (disch := omega) only [go_sem]); rintro _ _ ⟨rfl, rfl⟩)
      | ((with_reducible first | refine gDt ?_ ?_ | refine gDf ?_ ?_ | refine gNt ?_ ?_ | refine gNf ?_ ?_ | refine cD ?_ ?_ | refine cN ?_ ?_ | refine cB ?_ ?_ | refine gB ?_ ?_) <;> intro h)
      | with_reducible first | refine And.intro ?_ ?_ | refine J_seq ?_ | refine J_block ?_ | refine J_inBlock ?_ | refine rC ?_ | refine rR ?_ | refine rE ?_ | refine rG ?_ | refine FinQ.now ?_ | refine FinQ.end ?_)))
theorem boundaryWhole_av (x : (Sh.slice (.int .i64)).Den) (o : (Sh.slice (.int .i64)).Ok x) : Fn1 Tryd.prog GT0 3 [(Sh.slice (.int .i64)).av x] (.raw (.bool true)) [] := boundaryWhole x (nums_ok o)
end Go.Proofs.YtfkiomkfoabnhaaDoor.Abs
