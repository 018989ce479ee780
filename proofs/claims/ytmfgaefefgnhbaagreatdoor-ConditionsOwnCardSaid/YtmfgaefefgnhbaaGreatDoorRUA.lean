/- Colours on plain data; a zone is isolated exactly if it is dead. No program in sight. -/
import Derived.Test.YtmfgaefefgnhbaaGreatDoorRTA
import Derived.Test.YtmfgaefefgnhbaaGreatDoorRS
import Derived.Test.YtmfgaefefgnhbaaGreatDoorZPA
namespace Go.Proofs.YtmfgaefefgnhbaaGreatDoor.Abs
set_option linter.unusedSimpArgs false
set_option linter.unusedVariables false
open Go Go.RowKit

/-- Live by one of the first k devices; earthed by one. -/
def LiveTo (n : Net) (st : List Int) (k v : Nat) : Prop := ∃ (i : Nat) (d : Dv), i < k ∧ n.devs[i]? = some d ∧ st.getD i 0 = 2 ∧ (d.kind = 5 ∨ d.kind = 6) ∧ Conn n st v d.a.toNat
def EarthTo (n : Net) (st : List Int) (k v : Nat) : Prop := ∃ (i : Nat) (d : Dv), i < k ∧ n.devs[i]? = some d ∧ st.getD i 0 = 2 ∧ d.kind = 4 ∧ Conn n st v d.a.toNat
def colV (l e : Bool) : Int := (if l then 1 else 0) + (if e then 2 else 0)
theorem colV_live (l e : Bool) : IntKind.i64.wrap ((BitVec.ofInt 64 (colV l e) ||| BitVec.ofInt 64 1).toNat : Int) = colV true e := by cases l <;> cases e <;> decide
theorem colV_earth (l e : Bool) : IntKind.i64.wrap ((BitVec.ofInt 64 (colV l e) ||| BitVec.ofInt 64 2).toNat : Int) = colV l true := by cases l <;> cases e <;> decide
theorem colV_and1 (l e : Bool) : IntKind.i64.wrap ((BitVec.ofInt 64 (colV l e) &&& BitVec.ofInt 64 1).toNat : Int) = if l then 1 else 0 := by cases l <;> cases e <;> decide
/-- A proposition as a Bool. -/
noncomputable def pB (p : Prop) : Bool := @decide p (Classical.propDecidable p)
theorem pB_congr {p q : Prop} (h : p ↔ q) : pB p = pB q := by rw [propext h]
theorem pB_iff {p : Prop} : pB p = true ↔ p := by unfold pB; exact @decide_eq_true_iff p (Classical.propDecidable p)
theorem pB_true {p : Prop} (h : p) : pB p = true := pB_iff.2 h
theorem pB_false {p : Prop} (h : ¬ p) : pB p = false := by
  cases e : pB p
  · rfl
  · exact absurd (pB_iff.1 e) h
theorem pB_eq_false {p : Prop} : pB p = false ↔ ¬ p := ⟨fun e h => by rw [pB_true h] at e; exact absurd e (by decide), pB_false⟩
noncomputable def colAt (n : Net) (st : List Int) (k v : Nat) : Int := colV (pB (LiveTo n st k v)) (pB (EarthTo n st k v))
noncomputable def colsTo (n : Net) (st : List Int) (k : Nat) : List Int := (List.range n.nodes.length).map (colAt n st k)
noncomputable def cols (n : Net) (st : List Int) : List Int := colsTo n st n.devs.length
/-- While device k is looked at: the nodes below v are done. -/
noncomputable def colsMid (n : Net) (st : List Int) (k v : Nat) : List Int := (List.range n.nodes.length).map fun u => if u < v then colAt n st (k + 1) u else colAt n st k u
theorem colsTo_len {n : Net} {st : List Int} {k : Nat} : (colsTo n st k).length = n.nodes.length := by simp [colsTo]
theorem colsMid_len {n : Net} {st : List Int} {k v : Nat} : (colsMid n st k v).length = n.nodes.length := by simp [colsMid]
theorem cols_len {n : Net} {st : List Int} : (cols n st).length = n.nodes.length := colsTo_len
theorem LiveTo.succ {n : Net} {st : List Int} {k v : Nat} : LiveTo n st (k + 1) v ↔ LiveTo n st k v ∨ ∃ d, n.devs[k]? = some d ∧ st.getD k 0 = 2 ∧ (d.kind = 5 ∨ d.kind = 6) ∧ Conn n st v d.a.toNat := by
  constructor
  · rintro ⟨i, d, hi, h⟩
    by_cases e : i = k
    · subst e; exact .inr ⟨d, h⟩
    · exact .inl ⟨i, d, by omega, h⟩
  · rintro (⟨i, d, hi, h⟩ | ⟨d, h⟩)
    · exact ⟨i, d, by omega, h⟩
    · exact ⟨k, d, by omega, h⟩
theorem EarthTo.succ {n : Net} {st : List Int} {k v : Nat} : EarthTo n st (k + 1) v ↔ EarthTo n st k v ∨ ∃ d, n.devs[k]? = some d ∧ st.getD k 0 = 2 ∧ d.kind = 4 ∧ Conn n st v d.a.toNat := by
  constructor
  · rintro ⟨i, d, hi, h⟩
    by_cases e : i = k
    · subst e; exact .inr ⟨d, h⟩
    · exact .inl ⟨i, d, by omega, h⟩
  · rintro (⟨i, d, hi, h⟩ | ⟨d, h⟩)
    · exact ⟨i, d, by omega, h⟩
    · exact ⟨k, d, by omega, h⟩
theorem colAt_zero {n : Net} {st : List Int} {v : Nat} : colAt n st 0 v = 0 := by
  have h1 : ¬ LiveTo n st 0 v := fun ⟨i, d, hi, _⟩ => by omega
  have h2 : ¬ EarthTo n st 0 v := fun ⟨i, d, hi, _⟩ => by omega
  rw [colAt, pB_false h1, pB_false h2]; rfl
theorem colAt_same {n : Net} {st : List Int} {k v : Nat} {d : Dv} (hd : n.devs[k]? = some d) (h : ¬ (st.getD k 0 = 2 ∧ joinsK d.kind = false ∧ Conn n st v d.a.toNat)) : colAt n st (k + 1) v = colAt n st k v := by
  have hj : ∀ m : Int, (m = 4 ∨ m = 5 ∨ m = 6) → d.kind = m → joinsK d.kind = false := fun m hm e => by simp [joinsK, e]; omega
  have h1 : LiveTo n st (k + 1) v ↔ LiveTo n st k v := by
    rw [LiveTo.succ]
    refine or_iff_left ?_
    rintro ⟨d', e, h2, h3, h4⟩
    rw [hd] at e; cases e
    exact h ⟨h2, h3.elim (hj 5 (by omega)) (hj 6 (by omega)), h4⟩
  have h2 : EarthTo n st (k + 1) v ↔ EarthTo n st k v := by
    rw [EarthTo.succ]
    refine or_iff_left ?_
    rintro ⟨d', e, h2, h3, h4⟩
    rw [hd] at e; cases e
    exact h ⟨h2, hj 4 (by omega) h3, h4⟩
  rw [colAt, pB_congr h1, pB_congr h2]; rfl
theorem colAt_live {n : Net} {st : List Int} {k v : Nat} {d : Dv} (hd : n.devs[k]? = some d) (h1 : st.getD k 0 = 2) (h2 : d.kind = 5 ∨ d.kind = 6) (h3 : Conn n st v d.a.toNat) : IntKind.i64.wrap ((BitVec.ofInt 64 (colAt n st k v) ||| BitVec.ofInt 64 1).toNat : Int) = colAt n st (k + 1) v := by
  have e1 : LiveTo n st (k + 1) v := LiveTo.succ.2 (.inr ⟨d, hd, h1, h2, h3⟩)
  have e2 : EarthTo n st (k + 1) v ↔ EarthTo n st k v := by
    rw [EarthTo.succ]
    refine or_iff_left ?_
    rintro ⟨d', e, h4, h5, h6⟩
    rw [hd] at e; cases e
    omega
  rw [colAt, colV_live, colAt, pB_true e1, pB_congr e2]
theorem colAt_earth {n : Net} {st : List Int} {k v : Nat} {d : Dv} (hd : n.devs[k]? = some d) (h1 : st.getD k 0 = 2) (h2 : d.kind = 4) (h3 : Conn n st v d.a.toNat) : IntKind.i64.wrap ((BitVec.ofInt 64 (colAt n st k v) ||| BitVec.ofInt 64 2).toNat : Int) = colAt n st (k + 1) v := by
  have e1 : EarthTo n st (k + 1) v := EarthTo.succ.2 (.inr ⟨d, hd, h1, h2, h3⟩)
  have e2 : LiveTo n st (k + 1) v ↔ LiveTo n st k v := by
    rw [LiveTo.succ]
    refine or_iff_left ?_
    rintro ⟨d', e, h4, h5, h6⟩
    rw [hd] at e; cases e
    omega
  rw [colAt, colV_earth, colAt, pB_true e1, pB_congr e2]
theorem colsMid_zero {n : Net} {st : List Int} {k : Nat} : colsMid n st k 0 = colsTo n st k := by
  unfold colsMid colsTo
  refine List.map_congr_left fun u _ => ?_
  rw [if_neg (by omega)]
theorem colsMid_all {n : Net} {st : List Int} {k : Nat} : colsMid n st k n.nodes.length = colsTo n st (k + 1) := by
  unfold colsMid colsTo
  refine List.map_congr_left fun u hu => ?_
  rw [if_pos (List.mem_range.1 hu)]
theorem colsMid_at {n : Net} {st : List Int} {k v : Nat} (h : v < (colsMid n st k v).length) : (colsMid n st k v)[v] = colAt n st k v := by
  simp [colsMid]
theorem colsMid_next {n : Net} {st : List Int} {k v : Nat} (hv : v < n.nodes.length) : colsMid n st k (v + 1) = (colsMid n st k v).set v (colAt n st (k + 1) v) := by
  apply List.ext_getElem (by simp [colsMid])
  intro u h1 h2
  have hu : u < n.nodes.length := by simpa [colsMid] using h1
  rw [List.getElem_set]
  simp only [colsMid, List.getElem_map, List.getElem_range]
  by_cases e : v = u
  · subst e; simp
  · rw [if_neg e]
    by_cases h : u < v
    · rw [if_pos (by omega), if_pos h]
    · rw [if_neg (by omega), if_neg h]
theorem colsMid_skip {n : Net} {st : List Int} {k v : Nat} (hv : v < n.nodes.length) (h : colAt n st (k + 1) v = colAt n st k v) : colsMid n st k (v + 1) = colsMid n st k v := by
  rw [colsMid_next hv, h]
  apply List.ext_getElem (by simp)
  intro u h1 h2
  rw [List.getElem_set]
  split
  · rename_i e; subst e; rw [colsMid_at]
  · rfl
theorem colsTo_skip {n : Net} {st : List Int} {k : Nat} {d : Dv} (hd : n.devs[k]? = some d) (h : ¬ (st.getD k 0 = 2 ∧ joinsK d.kind = false)) : colsTo n st (k + 1) = colsTo n st k := by
  unfold colsTo
  exact List.map_congr_left fun v _ => colAt_same hd fun ⟨h1, h2, _⟩ => h ⟨h1, h2⟩
theorem colsTo_zero {n : Net} {st : List Int} : (colsTo n st 0).map encN = List.replicate n.nodes.length [.raw (.int .i64 0)] := by
  simp only [colsTo, List.map_map]
  apply List.ext_getElem (by simp)
  intro v h1 h2
  simp [encN, colAt_zero]
noncomputable def liveB (n : Net) (st : List Int) (v : Nat) : Bool := pB (LiveTo n st n.devs.length v)
theorem cols_at {n : Net} {st : List Int} {v : Nat} (h : v < (cols n st).length) : IntKind.i64.wrap ((BitVec.ofInt 64 ((cols n st)[v]) ||| BitVec.ofInt 64 0).toNat : Int) = (cols n st)[v] := by
  have e : (cols n st)[v] = colAt n st n.devs.length v := by simp [cols, colsTo]
  rw [e, colAt]
  cases pB (LiveTo n st n.devs.length v) <;> cases pB (EarthTo n st n.devs.length v) <;> decide
theorem cols_live {n : Net} {st : List Int} {v : Nat} (h : v < (cols n st).length) : IntKind.i64.wrap ((BitVec.ofInt 64 ((cols n st)[v]) &&& BitVec.ofInt 64 1).toNat : Int) = if liveB n st v then 1 else 0 := by
  have e : (cols n st)[v] = colAt n st n.devs.length v := by simp [cols, colsTo]
  rw [e, colAt, colV_and1]; rfl

/-- The state in which gaps are open and all else is closed. -/
def highTo (g : List Int) (k : Nat) : List Int := (List.range k).map fun (i : Nat) => if (i : Int) ∈ g then (1 : Int) else 2
theorem highTo_len {g : List Int} {k : Nat} : (highTo g k).length = k := by simp [highTo]
theorem highTo_closed {g : List Int} {k i : Nat} (hi : i < k) : Closed (highTo g k) i ↔ (i : Int) ∉ g := by
  unfold Closed highTo
  rw [getD_get (by simpa using hi)]
  simp only [List.getElem_map, List.getElem_range]
  split <;> simp_all
theorem edge_closed {n : Net} {st : List Int} {g : List Int} (h : ∀ i, i < n.devs.length → (Closed st i → (i : Int) ∉ g)) {u v : Nat} (he : Edge n (Closed st) u v) : Edge n (fun i => (i : Int) ∉ g) u v := by
  obtain ⟨i, d, h1, h2, h3, h4⟩ := he
  exact ⟨i, d, h1, h2, h i (List.getElem?_eq_some_iff.1 h1).1 h3, h4⟩
theorem conn_rg {n : Net} {st : List Int} {g : List Int} (h : ∀ i, i < n.devs.length → (Closed st i → (i : Int) ∉ g)) {u v : Nat} (hc : Conn n st u v) : RG n [(u : Int)] g v := by
  induction hc with
  | base h => exact .base (by rw [h]; simp)
  | step _ h1 h2 ih => exact .step ih h1 (edge_closed h h2)
theorem rg_conn {n : Net} {st : List Int} {g : List Int} (h : ∀ i, i < n.devs.length → ((i : Int) ∉ g → Closed st i)) {u v : Nat} (hc : RG n [(u : Int)] g v) : Conn n st u v := by
  induction hc with
  | base h => exact .base (by have := List.mem_singleton.1 h; omega)
  | step _ h1 h2 ih =>
    obtain ⟨i, d, h3, h4, h5, h6⟩ := h2
    exact Rch.step ih h1 ⟨i, d, h3, h4, h i (List.getElem?_eq_some_iff.1 h3).1 h5, h6⟩
theorem live_enough {n : Net} {st : List Int} {g : List Int} (h : ∀ i, i < n.devs.length → (Closed st i → (i : Int) ∉ g)) {v : Nat} (hl : LiveTo n st n.devs.length v) : enoughB n [(v : Int)] g = false := by
  obtain ⟨i, d, hi, hd, h2, hk, hc⟩ := hl
  rw [enoughB, decide_eq_false_iff_not]
  intro he
  refine he i d hd ?_ (conn_rg h hc)
  rcases hk with hk | hk
  · exact .inl hk
  · exact .inr ⟨hk, h i hi h2⟩
theorem enough_live {n : Net} {st : List Int} {g : List Int} (hg : Gaps n g) (h : ∀ i, i < n.devs.length → ((i : Int) ∉ g → Closed st i)) {v : Nat} (he : enoughB n [(v : Int)] g = false) : LiveTo n st n.devs.length v := by
  rw [enoughB, decide_eq_false_iff_not] at he
  refine Classical.byContradiction fun hl => he fun i d hd hk hr => hl ?_
  have hi := (List.getElem?_eq_some_iff.1 hd).1
  have hig : (i : Int) ∉ g := by
    rcases hk with hk | hk
    · intro hm
      have := hg.gap _ hm
      simp [List.getD_eq_getElem?_getD, hd, gapK, hk] at this
    · exact hk.2
  exact ⟨i, d, hi, hd, h i hi hig, hk.imp id And.left, rg_conn h hr⟩
theorem high_live {n : Net} {g : List Int} (hg : Gaps n g) {v : Nat} : liveB n (highTo g n.devs.length) v = !enoughB n [(v : Int)] g := by
  have h : liveB n (highTo g n.devs.length) v = true ↔ enoughB n [(v : Int)] g = false := by
    rw [liveB, pB_iff]
    exact ⟨live_enough fun i hi => (highTo_closed hi).1, enough_live hg fun i hi => (highTo_closed hi).2⟩
  cases he : enoughB n [(v : Int)] g
  · exact h.2 he
  · cases hl : liveB n (highTo g n.devs.length) v
    · rfl
    · rw [h.1 hl] at he; cases he
/-- Whether one of the first k nodes of a zone is live. -/
noncomputable def anyLive (n : Net) (st : List Int) (z : List Int) (k : Nat) : Bool := (z.take k).any fun v => liveB n st v.toNat
theorem anyLive_next {n : Net} {st z : List Int} {k : Nat} (h : k < z.length) : anyLive n st z (k + 1) = (anyLive n st z k || liveB n st z[k].toNat) := by
  unfold anyLive
  rw [List.take_succ_eq_append_getElem h, List.any_append]
  simp
theorem anyLive_high {n : Net} (hn : n.ok) {g z : List Int} (hg : Gaps n g) (hz : rising z n.nodes.length = true) : anyLive n (highTo g n.devs.length) z z.length = !enoughB n z g := by
  have h : anyLive n (highTo g n.devs.length) z z.length = true ↔ ¬ enoughB n z g = true := by
    rw [each_enough hn hz, anyLive, List.take_length, List.any_eq_true]
    constructor
    · rintro ⟨v, hv, hl⟩ hall
      rw [high_live hg, Int.toNat_of_nonneg (rising_mem hz hv).1, hall v hv] at hl
      cases hl
    · intro hnot
      refine Classical.byContradiction fun hno => hnot fun v hv => ?_
      cases he : enoughB n [v] g
      · refine absurd ⟨v, hv, ?_⟩ hno
        rw [high_live hg, Int.toNat_of_nonneg (rising_mem hz hv).1, he]; rfl
      · rfl
  cases he : enoughB n z g
  · exact h.2 (by simp [he])
  · cases hl : anyLive n (highTo g n.devs.length) z z.length
    · rfl
    · exact absurd he (h.1 hl)
theorem mem_gapsOf {n : Net} {l : List Lk} {i : Nat} : (i : Int) ∈ gapsOf n l ↔ i < n.devs.length ∧ lockedAt l i = some 1 ∧ gapK (n.devs.getD i ⟨⟨#[]⟩, 0, 0, 0, 0⟩).kind = true := by
  simp only [gapsOf, List.mem_map, List.mem_filter, List.mem_range, Bool.and_eq_true, decide_eq_true_eq]
  constructor
  · rintro ⟨j, h, e⟩
    obtain rfl : j = i := Int.ofNat.inj e
    exact h
  · intro h; exact ⟨i, h, rfl⟩
theorem highTo_next {n : Net} {l : List Lk} {k : Nat} : highTo (gapsOf n l) (k + 1) = highTo (gapsOf n l) k ++ [if (k : Int) ∈ gapsOf n l then 1 else 2] := by
  unfold highTo
  rw [List.range_succ, List.map_append]; rfl
theorem lockedAt_mem' {l : List Lk} {i p : Int} (h : lockedAt l i = some p) : ∃ x, x ∈ l ∧ x.dev = i ∧ x.pos = p := by
  induction l with
  | nil => cases h
  | cons x l ih =>
    simp only [lockedAt] at h
    split at h
    · rename_i e
      exact ⟨x, by simp, e, by simpa using h⟩
    · obtain ⟨y, h1, h2⟩ := ih h
      exact ⟨y, by simp [h1], h2⟩
theorem lErr_pos {n : Net} {k : Lk} (h : lErr n k = 0) : k.pos = 1 ∨ k.pos = 2 := by
  unfold lErr at h
  split at h
  · cases h
  split at h
  · cases h
  split at h
  · cases h
  · omega
theorem holdAt_range {n : Net} {l : List Lk} (hl : Locks n l) (i : Nat) : 1 ≤ holdAt n l i ∧ holdAt n l i ≤ 3 := by
  unfold holdAt
  cases h : lockedAt l (i : Int) with
  | none => simp only; split <;> omega
  | some p =>
    obtain ⟨x, h1, h2, h3⟩ := lockedAt_mem' h
    have := lErr_pos (hl.each x h1)
    simp only; omega
theorem worst_ok {n : Net} {l : List Lk} (hl : Locks n l) : posChk n (worstTo n l n.devs.length) 3 = 0 := by
  refine posChk_ok hl.net worstTo_len fun x hx => ?_
  simp only [worstTo, List.mem_map, List.mem_range] at hx
  obtain ⟨i, _, rfl⟩ := hx
  exact holdAt_range hl i
theorem within_ok {n : Net} (hn : n.ok) {m s : List Int} (hs : s.length = n.devs.length) (h : WithinTo m s) : posChk n s 2 = 0 := by
  refine posChk_ok hn hs fun x hx => ?_
  obtain ⟨i, hi, rfl⟩ := List.getElem_of_mem hx
  have := (h i hi).1
  omega
theorem within_gaps {n : Net} {l : List Lk} {s : List Int} (hs : s.length = n.devs.length) (h : WithinTo (worstTo n l n.devs.length) s) : ∀ i, i < n.devs.length → (Closed s i → (i : Int) ∉ gapsOf n l) := by
  intro i hi hc hm
  have h1 := (mem_gapsOf.1 hm).2.1
  have hw : (worstTo n l n.devs.length).getD i 0 = 1 := by
    rw [getD_get (by simp [worstTo_len, hi])]
    simp [worstTo, holdAt, h1]
  have h2 := (h i (by omega)).2
  rw [hw] at h2
  have := h2 (.inl rfl)
  rw [Closed, getD_get (by omega), this] at hc
  cases hc
/-- An isolated zone is dead in every state that the locks allow. -/
theorem within_dead {n : Net} (hn : n.ok) {l : List Lk} {s z : List Int} (hz : rising z n.nodes.length = true) (hs : s.length = n.devs.length) (h : WithinTo (worstTo n l n.devs.length) s) (he : enoughB n z (gapsOf n l) = true) {v : Int} (hv : v ∈ z) : liveB n s v.toNat = false := by
  rw [liveB, pB_eq_false]
  intro hl
  have h1 := live_enough (within_gaps hs h) hl
  have h2 := (each_enough hn hz).1 he v hv
  rw [Int.toNat_of_nonneg (rising_mem hz hv).1, h2] at h1
  cases h1
end Go.Proofs.YtmfgaefefgnhbaaGreatDoor.Abs
