/- What the reference marks as reached, on plain data. No program in sight. -/
import Derived.Test.YtmfgaefefgnhbaaGreatDoorZ3
import Derived.Test.YtmfgaefefgnhbaaGreatDoorZ1
namespace Go.Proofs.YtmfgaefefgnhbaaGreatDoor.Abs
set_option linter.unusedSimpArgs false
set_option linter.unusedVariables false
open Go Go.RowKit

/-- Marks: all of the zone, and nothing that is not reached. -/
structure Marks (n : Net) (zone but : List Int) (T : List Bool) : Prop where
  len : T.length = n.nodes.length
  sound : ∀ v, T.getD v false = true → RG n zone but v
theorem Marks.zero {n : Net} {zone but : List Int} : Marks n zone but (List.replicate n.nodes.length false) :=
  ⟨by simp, fun v hv => by
    rw [List.getD_eq_getElem?_getD, List.getElem?_replicate] at hv
    split at hv <;> cases hv⟩
theorem Marks.set {n : Net} {zone but : List Int} {T : List Bool} (h : Marks n zone but T) {a : Nat} (ha : RG n zone but a) : Marks n zone but (T.set a true) :=
  ⟨by simp [h.len], fun v hv => by
    rw [getD_set] at hv
    split at hv
    · rename_i e; obtain ⟨rfl, _⟩ := e; exact ha
    · exact h.sound v hv⟩
theorem getD_set_mono {T : List Bool} {a v : Nat} (h : T.getD v false = true) : (T.set a true).getD v false = true := by
  rw [getD_set]
  split
  · rfl
  · exact h
def EqI (n : Net) (but : List Int) (T : List Bool) (i : Nat) : Prop := ∀ d, n.devs[i]? = some d → joinsK d.kind = true → (i : Int) ∉ but → T.getD d.a.toNat false = T.getD d.b.toNat false
def Based (zone : List Int) (T : List Bool) : Prop := ∀ x, x ∈ zone → T.getD x.toNat false = true
theorem count_le_set {l : List Bool} {i : Nat} : (l.set i true).count false ≤ l.count false := by
  rcases Nat.lt_or_ge i l.length with h | h
  · cases e : l[i]
    · have := count_set h e; omega
    · have : l.set i true = l := by
        apply List.ext_getElem (by simp)
        intro j h1 h2
        rw [List.getElem_set]
        split
        · rename_i e2; subst e2; exact e.symm
        · rfl
      rw [this]; omega
  · rw [List.set_eq_of_length_le h]; omega
theorem marks_both {n : Net} {zone but : List Int} {T : List Bool} (hm : Marks n zone but T) (hb : Based zone T) {a b : Nat} (ha : a < T.length) (hbl : b < T.length) (he : Edge n (fun i => (i : Int) ∉ but) a b) (hne : T[a] ≠ T[b]) :
    Marks n zone but ((T.set a true).set b true) ∧ Based zone ((T.set a true).set b true) ∧ ((T.set a true).set b true).count false < T.count false := by
  have ga : T.getD a false = T[a] := getD_get ha
  have gb : T.getD b false = T[b] := getD_get hbl
  have ra : RG n zone but a ∧ RG n zone but b := by
    cases e1 : T[a]
    · have e2 : T[b] = true := by rw [e1] at hne; cases h : T[b]; exact absurd h.symm (by simpa using hne); rfl
      have := hm.sound b (by rw [gb, e2])
      exact ⟨.step this (fun h => h) he.symm, this⟩
    · have := hm.sound a (by rw [ga, e1])
      exact ⟨this, .step this (fun h => h) he⟩
  refine ⟨(hm.set ra.1).set ra.2, fun x hx => getD_set_mono (getD_set_mono (hb x hx)), ?_⟩
  cases e1 : T[a]
  · have h1 := count_set ha e1
    have h2 := count_le_set (l := T.set a true) (i := b)
    omega
  · have e2 : T[b] = false := by rw [e1] at hne; cases h : T[b]; rfl; exact absurd h.symm (by simpa using hne)
    have hab : a ≠ b := fun e => by subst e; exact hne rfl
    have h0 := count_le_set (l := T) (i := a)
    have h1 := count_set (l := T.set a true) (i := b) (by simpa using hbl) (by rw [List.getElem_set_ne hab]; exact e2)
    omega
theorem marks_all {n : Net} (hn : n.ok) {zone but : List Int} {T : List Bool} (hm : Marks n zone but T) (hb : Based zone T) (hz : ∀ x, x ∈ zone → 0 ≤ x) (hc : ∀ i, i < n.devs.length → EqI n but T i) : T = regB n zone but := by
  apply List.ext_getElem (by rw [hm.len, regB_len])
  intro v h1 h2
  rw [Bool.eq_iff_iff, regB_at h2]
  rw [← getD_get (d := false) h1]
  constructor
  · exact hm.sound v
  · intro hr
    refine Rch.closed (T := fun v => T.getD v false = true) (fun w hw => ?_) (fun a b ha _ he => ?_) hr
    · simpa using hb _ hw
    · obtain ⟨i, d, h3, h4, h5, h6⟩ := he
      have := hc i (List.getElem?_eq_some_iff.1 h3).1 d h3 h4 h5
      rcases h6 with ⟨e1, e2⟩ | ⟨e1, e2⟩
      · rw [e1, e2] at this
        simp only [Int.toNat_natCast] at this
        rw [← this]; exact ha
      · rw [e1, e2] at this
        simp only [Int.toNat_natCast] at this
        rw [this]; exact ha
end Go.Proofs.YtmfgaefefgnhbaaGreatDoor.Abs
