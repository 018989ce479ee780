/- What is reached, computed: for networks that are given. No program in sight. -/
import Derived.Test.YtangkndckghblaaDoorZB
namespace Go.Proofs.YtangkndckghblaaDoor.Abs
set_option linter.unusedSimpArgs false
set_option linter.unusedVariables false
open Go Go.RowKit

def dv0 : Dv := ⟨⟨#[]⟩, 0, 0, 0, 0⟩
def hopC (n : Net) (use stop : Nat → Bool) (T : List Bool) (v i : Nat) : Bool :=
  let d := n.devs.getD i dv0
  joinsK d.kind && use i && ((decide (0 ≤ d.a) && T.getD d.a.toNat false && !stop d.a.toNat && decide (d.b = v)) || (decide (0 ≤ d.b) && T.getD d.b.toNat false && !stop d.b.toNat && decide (d.a = v)))
def stepC (n : Net) (use stop : Nat → Bool) (T : List Bool) : List Bool :=
  (List.range n.nodes.length).map fun v => T.getD v false || (List.range n.devs.length).any (hopC n use stop T v)
def iterC (n : Net) (use stop S : Nat → Bool) : Nat → List Bool
  | 0 => (List.range n.nodes.length).map S
  | k + 1 => stepC n use stop (iterC n use stop S k)
theorem getD_range {f : Nat → Bool} {m v : Nat} : ((List.range m).map f).getD v false = (decide (v < m) && f v) := by
  simp only [List.getD_eq_getElem?_getD, List.getElem?_map]
  by_cases h : v < m
  · simp [List.getElem?_range, h]
  · simp [h]
theorem hopC_iff {n : Net} {use stop : Nat → Bool} {T : List Bool} {v : Nat} : (∃ i, i < n.devs.length ∧ hopC n use stop T v i = true) ↔ ∃ u, T.getD u false = true ∧ ¬ stop u = true ∧ Edge n (fun i => use i = true) u v := by
  constructor
  · rintro ⟨i, hi, h⟩
    simp only [hopC, Bool.and_eq_true, Bool.or_eq_true, decide_eq_true_eq, Bool.not_eq_true'] at h
    have e : n.devs.getD i dv0 = n.devs[i] := by simp [List.getD_eq_getElem?_getD, hi]
    rw [e] at h
    obtain ⟨⟨h1, h2⟩, ⟨⟨⟨h3, h4⟩, h5⟩, h6⟩ | ⟨⟨⟨h3, h4⟩, h5⟩, h6⟩⟩ := h
    · exact ⟨_, h4, by simp [h5], i, _, List.getElem?_eq_getElem hi, h1, h2, .inl ⟨(Int.toNat_of_nonneg h3).symm, h6⟩⟩
    · exact ⟨_, h4, by simp [h5], i, _, List.getElem?_eq_getElem hi, h1, h2, .inr ⟨(Int.toNat_of_nonneg h3).symm, h6⟩⟩
  · rintro ⟨u, h1, h2, i, d, h3, h4, h5, h6⟩
    obtain ⟨hi, rfl⟩ := List.getElem?_eq_some_iff.1 h3
    refine ⟨i, hi, ?_⟩
    have e : n.devs.getD i dv0 = n.devs[i] := by simp [List.getD_eq_getElem?_getD, hi]
    simp only [hopC, e, Bool.and_eq_true, Bool.or_eq_true, decide_eq_true_eq, Bool.not_eq_true']
    refine ⟨⟨h4, h5⟩, h6.imp (fun h => ?_) fun h => ?_⟩
    · rw [h.1]; exact ⟨⟨⟨Int.natCast_nonneg _, by simpa using h1⟩, by simpa using h2⟩, h.2⟩
    · rw [h.1]; exact ⟨⟨⟨Int.natCast_nonneg _, by simpa using h1⟩, by simpa using h2⟩, h.2⟩
theorem stepC_at {n : Net} {use stop : Nat → Bool} {T : List Bool} {v : Nat} : (stepC n use stop T).getD v false = true ↔ v < n.nodes.length ∧ (T.getD v false = true ∨ ∃ u, T.getD u false = true ∧ ¬ stop u = true ∧ Edge n (fun i => use i = true) u v) := by
  rw [stepC, getD_range, ← hopC_iff]
  simp only [Bool.and_eq_true, decide_eq_true_eq, Bool.or_eq_true, List.any_eq_true, List.mem_range]
/-- What the steps reach, once nothing is added any more. -/
theorem iterC_rch {n : Net} (hn : n.ok) {use stop S : Nat → Bool} (hS : ∀ v, S v = true → v < n.nodes.length) (k : Nat) (hc : stepC n use stop (iterC n use stop S k) = iterC n use stop S k) {v : Nat} :
    (iterC n use stop S k).getD v false = true ↔ Rch n (fun i => use i = true) (fun v => stop v = true) (fun v => S v = true) v := by
  constructor
  · clear hc
    induction k generalizing v with
    | zero =>
      intro h
      rw [iterC, getD_range, Bool.and_eq_true] at h
      exact .base h.2
    | succ k ih =>
      intro h
      rcases (stepC_at.1 h).2 with h | ⟨u, h1, h2, h3⟩
      · exact ih h
      · exact .step (ih h1) h2 h3
  · intro h
    have up : ∀ j v, S v = true → (iterC n use stop S j).getD v false = true := by
      intro j
      induction j with
      | zero => intro v hv; rw [iterC, getD_range]; simp [hv, hS v hv]
      | succ j ih => intro v hv; exact stepC_at.2 ⟨hS v hv, .inl (ih v hv)⟩
    refine Rch.closed (T := fun v => (iterC n use stop S k).getD v false = true) (fun v hv => up k v hv) (fun u v hu hs he => ?_) h
    rw [← hc]
    exact stepC_at.2 ⟨(he.lt hn).2, .inr ⟨u, hu, hs, he⟩⟩
theorem iterC_len {n : Net} {use stop S : Nat → Bool} : ∀ k : Nat, (iterC n use stop S k).length = n.nodes.length
  | 0 => by simp [iterC]
  | k + 1 => by simp [iterC, stepC]
/-- The region of a zone, computed. -/
def regC (n : Net) (zone gaps : List Int) (k : Nat) : List Bool := iterC n (fun i => !gaps.contains (i : Int)) (fun _ => false) (fun v => decide (v < n.nodes.length) && zone.contains (v : Int)) k
def regDone (n : Net) (zone gaps : List Int) (k : Nat) : Bool := stepC n (fun i => !gaps.contains (i : Int)) (fun _ => false) (regC n zone gaps k) == regC n zone gaps k
theorem regC_iff {n : Net} (hn : n.ok) {zone gaps : List Int} (hz : rising zone n.nodes.length = true) (k : Nat) (hd : regDone n zone gaps k = true) {v : Nat} : (regC n zone gaps k).getD v false = true ↔ RG n zone gaps v := by
  rw [regC, iterC_rch hn (fun v hv => by simp at hv; exact hv.1) k (by simpa [regDone, regC] using hd)]
  constructor
  · exact Rch.mono (fun i hi => by simpa using hi) (fun i hi => hi.elim) (fun i hi => by simp at hi; exact hi.2)
  · exact Rch.mono (fun i hi => by simpa using hi) (fun i hi => by simp at hi) (fun i hi => by have := rising_mem hz hi; simp [hi]; omega)
theorem regB_C {n : Net} (hn : n.ok) {zone gaps : List Int} (hz : rising zone n.nodes.length = true) (k : Nat) (hd : regDone n zone gaps k = true) : regB n zone gaps = regC n zone gaps k := by
  have hl : (regC n zone gaps k).length = n.nodes.length := iterC_len k
  apply List.ext_getElem (by rw [regB_len, hl])
  intro v h1 h2
  rw [Bool.eq_iff_iff, regB_at, ← regC_iff hn hz k hd]
  simp [List.getD_eq_getElem?_getD, h2]
def enoughC (n : Net) (gaps : List Int) (T : List Bool) : Bool := (List.range n.devs.length).all fun i => let d := n.devs.getD i dv0; !((decide (d.kind = 5) || (decide (d.kind = 6) && !gaps.contains (i : Int))) && T.getD d.a.toNat false)
theorem enoughB_C {n : Net} (hn : n.ok) {zone gaps : List Int} (hz : rising zone n.nodes.length = true) (k : Nat) (hd : regDone n zone gaps k = true) : enoughB n zone gaps = enoughC n gaps (regC n zone gaps k) := by
  rw [Bool.eq_iff_iff]
  simp only [enoughB, decide_eq_true_eq, enoughC, List.all_eq_true, List.mem_range, Bool.not_eq_true', Bool.and_eq_false_iff, Bool.or_eq_false_iff, decide_eq_false_iff_not]
  have key : ∀ v, (regC n zone gaps k).getD v false = false ↔ ¬ RG n zone gaps v := fun v => by rw [← regC_iff hn hz k hd, Bool.not_eq_true]
  constructor
  · intro h i hi
    have e : n.devs.getD i dv0 = n.devs[i] := by simp [List.getD_eq_getElem?_getD, hi]
    rw [e, key]
    by_cases h5 : n.devs[i].kind = 5
    · exact .inr (h i _ (List.getElem?_eq_getElem hi) (.inl h5))
    by_cases h6 : n.devs[i].kind = 6 ∧ (i : Int) ∉ gaps
    · exact .inr (h i _ (List.getElem?_eq_getElem hi) (.inr h6))
    · refine .inl ⟨h5, ?_⟩
      by_cases h7 : n.devs[i].kind = 6
      · right
        have : (i : Int) ∈ gaps := Classical.byContradiction fun hx => h6 ⟨h7, hx⟩
        simpa using this
      · exact .inl h7
  · intro h i d hd' hk
    obtain ⟨hi, rfl⟩ := List.getElem?_eq_some_iff.1 hd'
    have e : n.devs.getD i dv0 = n.devs[i] := by simp [List.getD_eq_getElem?_getD, hi]
    have := h i hi
    rw [e, key] at this
    refine this.resolve_left fun hx => ?_
    rcases hk with hk | ⟨hk, hg⟩
    · exact hx.1 hk
    · rcases hx.2 with hx | hx
      · exact hx hk
      · simp at hx; exact hg hx
def atC (n : Net) (T : List Bool) (g : Int) : Bool := match n.devs[g.toNat]? with
  | some d => T.getD d.a.toNat false || (joinsK d.kind && T.getD d.b.toNat false)
  | none => false
theorem atB_C {n : Net} (hn : n.ok) {zone gaps : List Int} (hz : rising zone n.nodes.length = true) (k : Nat) (hd : regDone n zone gaps k = true) : atB n zone gaps = atC n (regC n zone gaps k) := by
  funext g
  rw [Bool.eq_iff_iff]
  simp only [atB, atC, decide_eq_true_eq]
  cases hg : n.devs[g.toNat]? with
  | none => simp
  | some d =>
    simp only [Option.some.injEq, Bool.or_eq_true, Bool.and_eq_true, regC_iff hn hz k hd]
    exact ⟨fun ⟨d', h1, h2⟩ => h1 ▸ h2, fun h => ⟨d, rfl, h⟩⟩
def nearestC (n : Net) (zone : List Int) (T : List Bool) : List Int × Int :=
  if (List.range n.devs.length).any (fun i => let d := n.devs.getD i dv0; decide (d.kind = 5) && T.getD d.a.toNat false) then ([], 15) else ((cuts n).filter (atC n T), 0)
theorem nearestR_C {n : Net} {zone : List Int} (h : zoneChk n zone = 0) (k : Nat) (hd : regDone n zone (cuts n) k = true) : nearestR n zone = nearestC n zone (regC n zone (cuts n) k) := by
  obtain ⟨hn, _, hz⟩ := zoneChk_zero h
  unfold nearestR nearestC
  rw [if_neg (by simp [h]), atB_C hn hz k hd]
  have key : (∃ (i : Nat) (d : Dv), n.devs[i]? = some d ∧ d.kind = 5 ∧ RG n zone (cuts n) d.a.toNat) ↔ (List.range n.devs.length).any (fun i => let d := n.devs.getD i dv0; decide (d.kind = 5) && (regC n zone (cuts n) k).getD d.a.toNat false) = true := by
    simp only [List.any_eq_true, List.mem_range, Bool.and_eq_true, decide_eq_true_eq, regC_iff hn hz k hd]
    constructor
    · rintro ⟨i, d, h1, h2, h3⟩
      obtain ⟨hi, rfl⟩ := List.getElem?_eq_some_iff.1 h1
      have e : n.devs.getD i dv0 = n.devs[i] := by simp [List.getD_eq_getElem?_getD, hi]
      exact ⟨i, hi, by rw [e]; exact ⟨h2, h3⟩⟩
    · rintro ⟨i, hi, h1, h2⟩
      have e : n.devs.getD i dv0 = n.devs[i] := by simp [List.getD_eq_getElem?_getD, hi]
      rw [e] at h1 h2
      exact ⟨i, _, List.getElem?_eq_getElem hi, h1, h2⟩
  by_cases hx : (List.range n.devs.length).any (fun i => let d := n.devs.getD i dv0; decide (d.kind = 5) && (regC n zone (cuts n) k).getD d.a.toNat false) = true
  · rw [if_pos hx, if_pos (key.2 hx)]
  · rw [if_neg hx, if_neg (fun h => hx (key.1 h))]
end Go.Proofs.YtangkndckghblaaDoor.Abs
