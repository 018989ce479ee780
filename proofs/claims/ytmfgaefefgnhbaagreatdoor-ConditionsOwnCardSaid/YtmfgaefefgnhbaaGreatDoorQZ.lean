/- ConditionsOwn, walked: it returns true. -/
import Derived.Test.YtmfgaefefgnhbaaGreatDoorQW
import Derived.Test.YtmfgaefefgnhbaaGreatDoorFA
import Derived.Test.YtmfgaefefgnhbaaGreatDoorFL
import Derived.Test.YtmfgaefefgnhbaaGreatDoorZNear
namespace Go.Proofs.YtmfgaefefgnhbaaGreatDoor.Abs
set_option linter.unusedSimpArgs false
set_option linter.unusedVariables false
set_option maxRecDepth 100000
open Go Go.RowKit

/-- Locks of companies below one. -/
def belowL (n : Net) (c : Int) (l : List Lk) : List Lk := l.filter fun k => decide (compOf n k < c)
theorem below_next (n : Net) (c : Int) (l : List Lk) : (belowL n (c + 1) l).length = (belowL n c l).length + (ownL n c l).length := by
  unfold belowL ownL
  induction l with
  | nil => rfl
  | cons k l ih =>
    simp only [List.filter_cons]
    by_cases h1 : compOf n k < c
    · rw [if_pos (decide_eq_true (by omega)), if_pos (decide_eq_true h1), if_neg (by simp; omega)]
      simp only [List.length_cons]; omega
    · by_cases h2 : compOf n k = c
      · rw [if_pos (decide_eq_true (by omega)), if_neg (by simp; omega), if_pos (decide_eq_true h2)]
        simp only [List.length_cons]; omega
      · rw [if_neg (by simp; omega), if_neg (by simp; omega), if_neg (by simp; omega)]
        exact ih
theorem below_zero {n : Net} {l : List Lk} (h : ∀ k, k ∈ l → 0 ≤ compOf n k) : belowL n 0 l = [] := by
  unfold belowL
  rw [List.filter_eq_nil_iff]
  intro k hk
  have := h k hk
  simp; omega
theorem below_all {n : Net} {l : List Lk} (h : ∀ k, k ∈ l → compOf n k ≤ 7) : belowL n 8 l = l := by
  unfold belowL
  rw [List.filter_eq_self]
  intro k hk
  have := h k hk
  simp; omega
theorem dErr_comp {n : Net} {i : Nat} (h : dErr n i = 0) (hi : i < n.devs.length) : 0 ≤ n.devs[i].comp ∧ n.devs[i].comp ≤ 7 := by
  simp only [dErr, getD_get hi] at h
  repeat' (split at h)
  all_goals first
    | (cases h; done)
    | omega
    | trace_state
theorem compOf_at {n : Net} (hn : n.ok) {k : Lk} (h0 : 0 ≤ k.dev) (h1 : k.dev < n.devs.length) : 0 ≤ compOf n k ∧ compOf n k ≤ 7 := by
  have hl : k.dev.toNat < n.devs.length := by omega
  unfold compOf
  rw [getD_get hl]
  exact dErr_comp (hn.dv _ hl) hl
/-- One step of a scan: the rest that is looked for lies in the rest of the list. -/
theorem sub_step {k x : Lk} {r : List Lk} {l : List Lk} {a : Nat} (ha : a < l.length) (hx : l[a] = x) (hne : x ≠ k) (h : (k :: r).Sublist (l.drop a)) : (k :: r).Sublist (l.drop (a + 1)) := by
  rw [List.drop_eq_getElem_cons ha, hx] at h
  cases h with
  | cons _ h => exact h
  | cons_cons _ h => exact absurd rfl hne
theorem sub_in {k : Lk} {r : List Lk} {l : List Lk} {a : Nat} (h : (k :: r).Sublist (l.drop a)) : a < l.length := by
  refine Nat.lt_of_not_le fun hle => ?_
  rw [List.drop_eq_nil_of_le hle] at h
  cases h
theorem own_mem {n : Net} {c : Int} {l : List Lk} {k : Lk} (h : k ∈ ownL n c l) : compOf n k = c ∧ k ∈ l := by
  unfold ownL at h
  rw [List.mem_filter] at h
  exact ⟨of_decide_eq_true h.2, h.1⟩
theorem own_ok {n : Net} {c : Int} {l : List Lk} (h : lockChk n l = 0) (hc : 0 ≤ c ∧ c ≤ 7) : ownR n c l = (ownL n c l, 0) := by
  have e : ownE n c l = 0 := by unfold ownE; rw [if_neg (by simp [h]), if_neg (by omega)]
  unfold ownR
  rw [e]
  rfl
set_option maxHeartbeats 16000000 in
theorem condOwnLaw (l : List Int) (hl : NumsOk l) : Fn1 Tryz.prog GT0 3 [.lst 1 (l.map encN)] (.raw (.bool true)) [] := by
  have ca := awake28
  have cf := few l hl.len
  by_cases h400 : l.length ≤ 400
  · have cn := newDeck l
    have hdk := hl.deck
    rw [decide_eq_true h400] at cf
    refine holds_of Tryz.func3 rfl rfl ?_
    refine J_run 200 ?_
    delta Tryz.f3
    iterate 12 (all_goals (try (first
      | (simp (maxSteps := 1000000) (disch := omega) only [go_sem])
      | ((with_reducible refine CallA.pure ca ?_ ?_); (· simp (disch := omega) only [go_sem]); rintro _ _ ⟨rfl, rfl⟩)
      | ((with_reducible refine CallA.pure cf ?_ ?_); (· simp (disch := omega) only [go_sem]); rintro _ _ ⟨rfl, rfl⟩)
      | ((with_reducible refine CallA.pure cn ?_ ?_); (· simp (disch := omega) only [go_sem]); rintro _ _ ⟨rfl, rfl⟩)
      | ((with_reducible first | refine gDt ?_ ?_ | refine gDf ?_ ?_ | refine gNt ?_ ?_ | refine gNf ?_ ?_ | refine cD ?_ ?_ | refine cN ?_ ?_ | refine cB ?_ ?_ | refine gB ?_ ?_) <;> intro h)
      | with_reducible first | refine And.intro ?_ ?_ | refine J_seq ?_ | refine J_block ?_ | refine J_inBlock ?_ | refine rC ?_ | refine rR ?_ | refine rE ?_ | refine rG ?_ | refine FinQ.now ?_ | refine FinQ.end ?_)))
    refine CallA.mut [0] ?_ ?_ ?_ ?_ (tieD _ hdk) ?_
    · simp only [go_sem]
    · simp only [go_sem]
    · simp only [go_sem]
    · simp only [go_sem]
    rintro _ _ ⟨n, st, d1, hd1, hno, hn6, hv1, hv10, hst, hst12, rfl, rfl⟩
    have cl := locksK d1 hd1 n hno st (by omega) 8 (by decide) (by decide)
    simp only [encNet] at cl ⊢
    iterate 8 (all_goals (try (first
      | (simp (maxSteps := 1000000) (disch := omega) only [go_sem])
      | ((with_reducible first | refine gDt ?_ ?_ | refine gDf ?_ ?_ | refine gNt ?_ ?_ | refine gNf ?_ ?_ | refine cD ?_ ?_ | refine cN ?_ ?_ | refine cB ?_ ?_ | refine gB ?_ ?_) <;> intro h)
      | with_reducible first | refine And.intro ?_ ?_ | refine J_seq ?_ | refine J_block ?_ | refine J_inBlock ?_ | refine rC ?_ | refine rR ?_ | refine rE ?_ | refine rG ?_ | refine FinQ.now ?_ | refine FinQ.end ?_)))
    refine CallA.mut [0] ?_ ?_ ?_ ?_ cl ?_
    · simp only [go_sem]
    · simp only [go_sem]
    · simp only [go_sem]
    · simp only [go_sem]
    rintro _ _ ⟨L, d2, hd2, hL, hkey, rfl, rfl⟩
    have h0 : lockChk n L = 0 := locks_iff.2 hL
    have hll := hL.len
    have hdl := hno.dl
    have hd := lockChk_dev h0
    have hco := fun k hk => compOf_at hno (hd k hk).1 (hd k hk).2
    repeat' (first
      | (simp (maxSteps := 1000000) (disch := omega) only [go_sem])
      | ((with_reducible first | refine gDt ?_ ?_ | refine gDf ?_ ?_ | refine gNt ?_ ?_ | refine gNf ?_ ?_ | refine cD ?_ ?_ | refine cN ?_ ?_ | refine cB ?_ ?_ | refine gB ?_ ?_) <;> intro h)
      | with_reducible first | refine And.intro ?_ ?_ | refine J_seq ?_ | refine J_block ?_ | refine J_inBlock ?_ | refine rC ?_ | refine rR ?_ | refine rE ?_ | refine rG ?_ | refine FinQ.now ?_ | refine FinQ.end ?_)
    repeat' (first
      | (simp (maxSteps := 1000000) (disch := omega) only [go_sem])
      | ((with_reducible first | refine gDt ?_ ?_ | refine gDf ?_ ?_ | refine gNt ?_ ?_ | refine gNf ?_ ?_ | refine cD ?_ ?_ | refine cN ?_ ?_ | refine cB ?_ ?_ | refine gB ?_ ?_) <;> intro h)
      | with_reducible first | refine And.intro ?_ ?_ | refine J_seq ?_ | refine J_block ?_ | refine J_inBlock ?_ | refine rC ?_ | refine rR ?_ | refine rE ?_ | refine rG ?_ | refine FinQ.now ?_ | refine FinQ.end ?_)
    have hb0 : belowL n 0 L = [] := below_zero fun k hk => (hco k hk).1
    refine J_for ([7] ++ upto 9 11 ++ [13] ++ upto 33 85) (fun x : Nat × Nat => [(8, .raw (.int .i64 x.1)), (7, .raw (.int .i64 x.2))]) (fun _ => [.box (encDk d2), .box [.lst 3 (n.nodes.map encNd), .lst 5 (n.devs.map encDv)]]) (fun x => x.1 ≤ 8 ∧ (belowL n x.1 L).length = x.2) (fun x => 8 - x.1) (0, 0) ⟨by decide, by rw [show belowL n ((0, 0) : Nat × Nat).1 L = [] from hb0]; rfl⟩ (.le (by simp [go_sem]) (by simp)) ?_
    rintro ⟨i, cnt⟩ ⟨hi, hcnt⟩
    simp only at hi hcnt
    by_cases hlt : i < 8
    · have co := condOwn n hno.sized (i : Int) L (by omega)
      rw [own_ok h0 (show 0 ≤ (i : Int) ∧ (i : Int) ≤ 7 by omega)] at co
      obtain ⟨own, hown⟩ : ∃ l, ownL n i L = l := ⟨_, rfl⟩
      have hsub : own.Sublist L := by rw [← hown]; exact List.filter_sublist
      have hmem : ∀ k, k ∈ own → compOf n k = i ∧ k ∈ L := fun k hk => by rw [← hown] at hk; exact own_mem hk
      have hol : own.length ≤ L.length := hsub.length_le
      have hbn := below_next n i L
      have hbl : (belowL n i L).length ≤ L.length := List.length_filter_le _ _
      rw [hown] at co hbn
      rw [hcnt] at hbn hbl
      simp only [encNet] at co
      refine J_run 200 ?_
      repeat' (first
        | ((with_reducible refine J_draw (id := 18) 200 [] plan3_18 (by kernel_rfl) (by kernel_rfl) ?_); delta plan3_18)
        | (simp (maxSteps := 1000000) (disch := omega) only [go_sem])
        | ((with_reducible refine CallA.pure co ?_ ?_); (· simp (disch := omega) only [go_sem]); rintro _ _ ⟨rfl, rfl⟩)
        | ((with_reducible first | refine gDt ?_ ?_ | refine gDf ?_ ?_ | refine gNt ?_ ?_ | refine gNf ?_ ?_ | refine cD ?_ ?_ | refine cN ?_ ?_ | refine cB ?_ ?_ | refine gB ?_ ?_ | refine stepGuard_dect ?_ ?_ | refine stepGuard_decf ?_ ?_ | refine stepGuard_ndect ?_ ?_ | refine stepGuard_ndecf ?_ ?_ | refine stepGuard_by ?_ ?_) <;> intro h)
        | with_reducible first | refine And.intro ?_ ?_ | refine J_seq ?_ | refine J_block ?_ | refine J_inBlock ?_ | refine rC ?_ | refine rR ?_ | refine rE ?_ | refine rG ?_ | refine FinQ.now ?_ | refine FinQ.end ?_)
      refine J_for ([11] ++ [13] ++ upto 53 85) (fun x : Nat × Nat => [(52, .raw (.int .i64 x.1)), (11, .raw (.int .i64 x.2))]) (fun _ => [.box (encDk d2), .box [.lst 3 (n.nodes.map encNd), .lst 5 (n.devs.map encDv)]]) (fun x => x.1 ≤ own.length ∧ (own.drop x.1).Sublist (L.drop x.2)) (fun x => own.length - x.1) (0, 0) ⟨by simp, by simpa using hsub⟩ (.le (by simp [go_sem]) (by simp)) ?_
      rintro ⟨j, a⟩ ⟨hj, hs⟩
      simp only at hj hs
      by_cases hjl : j < own.length
      · have hg := getD_Lk hjl
        rw [List.drop_eq_getElem_cons hjl] at hs
        obtain ⟨k, hk⟩ : ∃ k, own[j] = k := ⟨_, rfl⟩
        have hkm := hmem k (hk ▸ List.getElem_mem hjl)
        have ⟨k0, k1⟩ := hd k hkm.2
        have hkl : k.dev.toNat < n.devs.length := by omega
        have hcmp : n.devs[k.dev.toNat].comp = i := by have := hkm.1; unfold compOf at this; rwa [getD_get hkl] at this
        have hg2 := getD_Dv hkl
        rw [hk] at hg hs
        try simp only [encLk] at hg
        try simp only [encDv] at hg2
        refine J_run 200 ?_
        repeat' (first
          | ((with_reducible refine J_draw (id := 18) 200 [] plan3_18 (by kernel_rfl) (by kernel_rfl) ?_); delta plan3_18)
          | (simp (maxSteps := 1000000) (disch := omega) only [go_sem, hg])
          | ((with_reducible first | refine gDt ?_ ?_ | refine gDf ?_ ?_ | refine gNt ?_ ?_ | refine gNf ?_ ?_ | refine cD ?_ ?_ | refine cN ?_ ?_ | refine cB ?_ ?_ | refine gB ?_ ?_ | refine stepGuard_dect ?_ ?_ | refine stepGuard_decf ?_ ?_ | refine stepGuard_ndect ?_ ?_ | refine stepGuard_ndecf ?_ ?_ | refine stepGuard_by ?_ ?_) <;> intro h)
          | with_reducible first | refine And.intro ?_ ?_ | refine J_seq ?_ | refine J_block ?_ | refine J_inBlock ?_ | refine rC ?_ | refine rR ?_ | refine rE ?_ | refine rG ?_ | refine FinQ.now ?_ | refine FinQ.end ?_)
        refine J_for (upto 56 69) (fun a : Nat => [(11, .raw (.int .i64 a))]) (fun _ => [.box (encDk d2), .box [.lst 3 (n.nodes.map encNd), .lst 5 (n.devs.map encDv)], .box [.raw (.int .i64 k.dev), .raw (.int .i64 k.pos), .raw (.int .i64 k.key)]]) (fun a => (k :: own.drop (j + 1)).Sublist (L.drop a)) (fun a => L.length - a) a hs (.le (by simp [go_sem]) (by simp)) ?_
        intro a hs
        have hal := sub_in hs
        have hga := getD_Lk hal
        try simp only [encLk] at hga
        by_cases he : L[a] = k
        · have h1 := (Lk.eq_iff _ _).1 he
          have e1 := decide_eq_true h1.1
          have e2 := decide_eq_true h1.2.1
          have e3 := decide_eq_true h1.2.2
          have hcd := decide_eq_true hcmp
          refine J_run 200 ?_
          repeat' (first
            | ((with_reducible refine J_draw (id := 18) 200 [] plan3_18 (by kernel_rfl) (by kernel_rfl) ?_); delta plan3_18)
            | (simp (maxSteps := 1000000) (disch := omega) only [go_sem, hga, hg2, e1, e2, e3, hcd])
            | ((with_reducible first | refine gDt ?_ ?_ | refine gDf ?_ ?_ | refine gNt ?_ ?_ | refine gNf ?_ ?_ | refine cD ?_ ?_ | refine cN ?_ ?_ | refine cB ?_ ?_ | refine gB ?_ ?_ | refine stepGuard_dect ?_ ?_ | refine stepGuard_decf ?_ ?_ | refine stepGuard_ndect ?_ ?_ | refine stepGuard_ndecf ?_ ?_ | refine stepGuard_by ?_ ?_) <;> intro h)
            | with_reducible first | refine And.intro ?_ ?_ | refine J_seq ?_ | refine J_block ?_ | refine J_inBlock ?_ | refine rC ?_ | refine rR ?_ | refine rE ?_ | refine rG ?_ | refine FinQ.now ?_ | refine FinQ.end ?_)
          all_goals refine .mk (j + 1, a) ⟨hjl, List.sublist_of_cons_sublist hs⟩ (by simp only; omega) (by simp [go_sem]) (by simp)
        · have h1 : ¬ (L[a].dev = k.dev ∧ L[a].pos = k.pos ∧ L[a].key = k.key) := fun h => he ((Lk.eq_iff _ _).2 h)
          have hdd : (decide (L[a].dev = k.dev) && (decide (L[a].pos = k.pos) && decide (L[a].key = k.key))) = false := by
            rw [← Bool.not_eq_true]
            simp only [Bool.and_eq_true, decide_eq_true_eq]
            exact h1
          have hss := sub_step hal rfl he hs
          refine J_run 200 ?_
          repeat' (first
            | ((with_reducible refine J_draw (id := 18) 200 [] plan3_18 (by kernel_rfl) (by kernel_rfl) ?_); delta plan3_18)
            | (simp (maxSteps := 1000000) (disch := omega) only [go_sem, hga, hdd])
            | ((with_reducible first | refine gDt ?_ ?_ | refine gDf ?_ ?_ | refine gNt ?_ ?_ | refine gNf ?_ ?_ | refine cD ?_ ?_ | refine cN ?_ ?_ | refine cB ?_ ?_ | refine gB ?_ ?_ | refine stepGuard_dect ?_ ?_ | refine stepGuard_decf ?_ ?_ | refine stepGuard_ndect ?_ ?_ | refine stepGuard_ndecf ?_ ?_ | refine stepGuard_by ?_ ?_) <;> intro h)
            | with_reducible first | refine And.intro ?_ ?_ | refine J_seq ?_ | refine J_block ?_ | refine J_inBlock ?_ | refine rC ?_ | refine rR ?_ | refine rE ?_ | refine rG ?_ | refine FinQ.now ?_ | refine FinQ.end ?_)
          all_goals refine .mk (a + 1) hss (by omega) (by simp [go_sem]) (by simp)
      · have hje : j = own.length := by omega
        subst hje
        refine J_run 200 ?_
        repeat' (first
          | ((with_reducible refine J_draw (id := 18) 200 [] plan3_18 (by kernel_rfl) (by kernel_rfl) ?_); delta plan3_18)
          | (simp (maxSteps := 1000000) (disch := omega) only [go_sem])
          | ((with_reducible first | refine gDt ?_ ?_ | refine gDf ?_ ?_ | refine gNt ?_ ?_ | refine gNf ?_ ?_ | refine cD ?_ ?_ | refine cN ?_ ?_ | refine cB ?_ ?_ | refine gB ?_ ?_ | refine stepGuard_dect ?_ ?_ | refine stepGuard_decf ?_ ?_ | refine stepGuard_ndect ?_ ?_ | refine stepGuard_ndecf ?_ ?_ | refine stepGuard_by ?_ ?_) <;> intro h)
          | with_reducible first | refine And.intro ?_ ?_ | refine J_seq ?_ | refine J_block ?_ | refine J_inBlock ?_ | refine rC ?_ | refine rR ?_ | refine rE ?_ | refine rG ?_ | refine FinQ.now ?_ | refine FinQ.end ?_)
        all_goals refine .mk (i + 1, cnt + own.length) ⟨by simp only; omega, hbn⟩ (by simp only; omega) (by simp [go_sem]) (by simp)
    · have hie : i = 8 := by omega
      subst hie
      rw [show belowL n ((8 : Nat) : Int) L = L from below_all fun k hk => (hco k hk).2] at hcnt
      subst hcnt
      refine J_run 200 ?_
      repeat' (first
        | ((with_reducible refine J_draw (id := 18) 200 [] plan3_18 (by kernel_rfl) (by kernel_rfl) ?_); delta plan3_18)
        | (simp (maxSteps := 1000000) (disch := omega) only [go_sem])
        | ((with_reducible first | refine gDt ?_ ?_ | refine gDf ?_ ?_ | refine gNt ?_ ?_ | refine gNf ?_ ?_ | refine cD ?_ ?_ | refine cN ?_ ?_ | refine cB ?_ ?_ | refine gB ?_ ?_ | refine stepGuard_dect ?_ ?_ | refine stepGuard_decf ?_ ?_ | refine stepGuard_ndect ?_ ?_ | refine stepGuard_ndecf ?_ ?_ | refine stepGuard_by ?_ ?_) <;> intro h)
        | with_reducible first | refine And.intro ?_ ?_ | refine J_seq ?_ | refine J_block ?_ | refine J_inBlock ?_ | refine rC ?_ | refine rR ?_ | refine rE ?_ | refine rG ?_ | refine FinQ.now ?_ | refine FinQ.end ?_)
  · rw [decide_eq_false h400] at cf
    refine holds_of Tryz.func3 rfl rfl ?_
    refine J_run 200 ?_
    delta Tryz.f3
    iterate 12 (all_goals (try (first
      | (simp (maxSteps := 1000000) (disch := omega) only [go_sem])
      | ((with_reducible refine CallA.pure ca ?_ ?_); (· simp (disch := omega) only [go_sem]); rintro _ _ ⟨rfl, rfl⟩)
      | ((with_reducible refine CallA.pure cf ?_ ?_); (· simp (disch := omega) only [go_sem]); rintro _ _ ⟨rfl, rfl⟩)
      | ((with_reducible first | refine gDt ?_ ?_ | refine gDf ?_ ?_ | refine gNt ?_ ?_ | refine gNf ?_ ?_ | refine cD ?_ ?_ | refine cN ?_ ?_ | refine cB ?_ ?_ | refine gB ?_ ?_) <;> intro h)
      | with_reducible first | refine And.intro ?_ ?_ | refine J_seq ?_ | refine J_block ?_ | refine J_inBlock ?_ | refine rC ?_ | refine rR ?_ | refine rE ?_ | refine rG ?_ | refine FinQ.now ?_ | refine FinQ.end ?_)))
theorem condOwnLaw_av (x : (Sh.slice (.int .i64)).Den) (o : (Sh.slice (.int .i64)).Ok x) : Fn1 Tryz.prog GT0 3 [(Sh.slice (.int .i64)).av x] (.raw (.bool true)) [] := condOwnLaw x (nums_ok o)
end Go.Proofs.YtmfgaefefgnhbaaGreatDoor.Abs
