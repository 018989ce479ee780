/- Parts on plain data: labels that flow over closed devices. No program in sight. -/
import Derived.Test.YtmfgaefefgnhbaaGreatDoorZ1
namespace Go.Proofs.YtmfgaefefgnhbaaGreatDoor.Abs
set_option linter.unusedSimpArgs false
set_option linter.unusedVariables false
open Go Go.RowKit

/-- Closed devices. -/
def Closed (st : List Int) (i : Nat) : Prop := st.getD i 0 = 2
/-- In one part. -/
abbrev Conn (n : Net) (st : List Int) (u v : Nat) : Prop := Rch n (Closed st) (fun _ => False) (fun x => x = u) v
theorem Conn.refl {n : Net} {st : List Int} (u : Nat) : Conn n st u u := .base rfl
theorem Conn.trans {n : Net} {st : List Int} {u v w : Nat} (h : Conn n st u v) (h' : Conn n st v w) : Conn n st u w :=
  Rch.trans (fun x hx => by subst hx; exact h) h'
theorem Conn.step {n : Net} {st : List Int} {u v : Nat} (h : Edge n (Closed st) u v) : Conn n st u v := Rch.step (Rch.base rfl) (fun h => h) h
theorem Conn.symm {n : Net} {st : List Int} {u v : Nat} (h : Conn n st u v) : Conn n st v u := by
  induction h with
  | base h => subst h; exact .refl _
  | step _ _ he ih => exact (Conn.step he.symm).trans ih
/-- Labels, so far: each node's label is a node of its part. -/
structure Lab (n : Net) (st : List Int) (out : List Int) : Prop where
  len : out.length = n.nodes.length
  at_ : ∀ v (hv : v < out.length), 0 ≤ out[v] ∧ out[v] < n.nodes.length ∧ Conn n st v out[v].toNat
theorem Lab.zero {n : Net} {st : List Int} : Lab n st ((List.range n.nodes.length).map Int.ofNat) :=
  ⟨by simp, fun v hv => by simp at hv ⊢; exact ⟨hv, .refl v⟩⟩
/-- Both ends of a device have one label. -/
def EqAt (n : Net) (st out : List Int) (i : Nat) : Prop := ∀ d, n.devs[i]? = some d → st.getD i 0 = 2 → joinsK d.kind = true → out.getD d.a.toNat 0 = out.getD d.b.toNat 0
/-- The labels once nothing changes any more. -/
structure Parts (n : Net) (st : List Int) (out : List Int) : Prop where
  lab : Lab n st out
  eq : ∀ i, i < n.devs.length → EqAt n st out i
theorem Parts.conn {n : Net} (hn : n.ok) {st out : List Int} (h : Parts n st out) {u v : Nat} (hu : u < n.nodes.length) (hv : v < n.nodes.length) : out.getD u 0 = out.getD v 0 ↔ Conn n st u v := by
  have hl := h.lab.len
  have eu : out.getD u 0 = out[u]'(by omega) := by simp [List.getD_eq_getElem?_getD, show u < out.length by omega]
  have ev : out.getD v 0 = out[v]'(by omega) := by simp [List.getD_eq_getElem?_getD, show v < out.length by omega]
  constructor
  · intro e
    rw [eu, ev] at e
    have h1 := (h.lab.at_ u (by omega)).2.2
    have h2 := (h.lab.at_ v (by omega)).2.2
    rw [← e] at h2
    exact h1.trans h2.symm
  · intro hc
    refine Rch.closed (T := fun w => out.getD u 0 = out.getD w 0) (fun w hw => by rw [hw]) (fun a b ha _ he => ?_) hc
    obtain ⟨i, d, h1, h2, h3, h4⟩ := he
    have := h.eq i (List.getElem?_eq_some_iff.1 h1).1 d h1 h3 h2
    rcases h4 with ⟨e1, e2⟩ | ⟨e1, e2⟩
    · rw [e1, e2] at this
      simp only [Int.toNat_natCast] at this
      rw [ha, this]
    · rw [e1, e2] at this
      simp only [Int.toNat_natCast] at this
      rw [ha, ← this]
/-- The sum of labels. -/
def sumL (out : List Int) : Nat := (out.map Int.toNat).sum
theorem sumL_set {out : List Int} {i : Nat} (hi : i < out.length) (x : Int) : sumL (out.set i x) + out[i].toNat = sumL out + x.toNat := by
  unfold sumL
  induction out generalizing i with
  | nil => simp at hi
  | cons y l ih =>
    cases i with
    | zero => simp; omega
    | succ i =>
      simp only [List.set_cons_succ, List.map_cons, List.sum_cons, List.getElem_cons_succ]
      have := ih (i := i) (by simpa using hi)
      omega
/-- Both ends get the lesser label. -/
def joinL (out : List Int) (a b : Nat) : List Int := (out.set a (if out.getD a 0 < out.getD b 0 then out.getD a 0 else out.getD b 0)).set b (if out.getD a 0 < out.getD b 0 then out.getD a 0 else out.getD b 0)
theorem Lab.join {n : Net} {st out : List Int} (h : Lab n st out) {a b : Nat} (ha : a < out.length) (hb : b < out.length) (he : Edge n (Closed st) a b) : Lab n st (joinL out a b) := by
  have ea : out.getD a 0 = out[a] := by simp [List.getD_eq_getElem?_getD, ha]
  have eb : out.getD b 0 = out[b] := by simp [List.getD_eq_getElem?_getD, hb]
  have la := h.at_ a ha
  have lb := h.at_ b hb
  refine ⟨by simp [joinL, h.len], fun v hv => ?_⟩
  have hv' : v < out.length := by simpa [joinL] using hv
  have low : ∀ w, (w = a ∨ w = b) → 0 ≤ (if out[a] < out[b] then out[a] else out[b]) ∧ (if out[a] < out[b] then out[a] else out[b]) < n.nodes.length ∧ Conn n st w (if out[a] < out[b] then out[a] else out[b]).toNat := fun w hw => by
    split
    · refine ⟨la.1, la.2.1, ?_⟩
      rcases hw with rfl | rfl
      · exact la.2.2
      · exact (Conn.step he.symm).trans la.2.2
    · refine ⟨lb.1, lb.2.1, ?_⟩
      rcases hw with rfl | rfl
      · exact (Conn.step he).trans lb.2.2
      · exact lb.2.2
  simp only [joinL, ea, eb, List.getElem_set]
  split
  · rename_i hbv; exact low v (.inr hbv.symm)
  · split
    · rename_i hav; exact low v (.inl hav.symm)
    · exact h.at_ v hv'
theorem sumL_join {n : Net} {st out : List Int} (h : Lab n st out) {a b : Nat} (ha : a < out.length) (hb : b < out.length) (hab : a ≠ b) (hne : out.getD a 0 ≠ out.getD b 0) : sumL (joinL out a b) < sumL out := by
  have ea : out.getD a 0 = out[a] := by simp [List.getD_eq_getElem?_getD, ha]
  have eb : out.getD b 0 = out[b] := by simp [List.getD_eq_getElem?_getD, hb]
  have la := (h.at_ a ha).1
  have lb := (h.at_ b hb).1
  rw [ea, eb] at hne
  simp only [joinL, ea, eb]
  have h1 := sumL_set ha (if out[a] < out[b] then out[a] else out[b])
  have h2 := sumL_set (out := out.set a (if out[a] < out[b] then out[a] else out[b])) (i := b) (by simpa using hb) (if out[a] < out[b] then out[a] else out[b])
  rw [List.getElem_set_ne hab] at h2
  by_cases hlt : out[a] < out[b]
  · simp only [if_pos hlt] at h1 h2 ⊢
    omega
  · simp only [if_neg hlt] at h1 h2 ⊢
    omega
end Go.Proofs.YtmfgaefefgnhbaaGreatDoor.Abs
