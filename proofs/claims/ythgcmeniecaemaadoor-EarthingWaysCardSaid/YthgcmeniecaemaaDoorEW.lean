/- Steps and ways on plain data. No program in sight. -/
import Derived.Test.YthgcmeniecaemaaDoorEA
import Derived.Test.YthgcmeniecaemaaDoorRVA
namespace Go.Proofs.YthgcmeniecaemaaDoor.Abs
set_option linter.unusedSimpArgs false
set_option linter.unusedVariables false
open Go Go.RowKit

/-- Used devices. -/
def Used (use : List Bool) (i : Nat) : Prop := use.getD i false = true
/-- One value less than 0 more counts as n. -/
def wgt (N : Nat) (x : Int) : Nat := if x < 0 then N else x.toNat
def wgtL (N : Nat) (l : List Int) : Nat := (l.map (wgt N)).sum
theorem wgtL_set {N : Nat} {l : List Int} {i : Nat} (hi : i < l.length) (x : Int) : wgtL N (l.set i x) + wgt N l[i] = wgtL N l + wgt N x := by
  unfold wgtL
  induction l generalizing i with
  | nil => simp at hi
  | cons y l ih =>
    cases i with
    | zero => simp; omega
    | succ i =>
      simp only [List.set_cons_succ, List.map_cons, List.sum_cons, List.getElem_cons_succ]
      have := ih (i := i) (by simpa using hi)
      omega
def negs (l : List Int) : Nat := l.countP fun x => decide (x < 0)
theorem negs_set {l : List Int} {i : Nat} (hi : i < l.length) (x : Int) (hx : 0 ≤ x) : negs (l.set i x) + (if l[i] < 0 then 1 else 0) = negs l := by
  unfold negs
  induction l generalizing i with
  | nil => simp at hi
  | cons y l ih =>
    cases i with
    | zero =>
      simp only [List.set_cons_zero, List.countP_cons, List.getElem_cons_zero]
      have : ¬ x < 0 := by omega
      by_cases hy : y < 0 <;> simp [hy, this]
    | succ i =>
      simp only [List.set_cons_succ, List.countP_cons, List.getElem_cons_succ]
      have := ih (i := i) (by simpa using hi)
      omega
/-- Steps, so far. -/
structure Stp (n : Net) (use : List Bool) (to : List Int) (o : List Int) : Prop where
  len : o.length = n.nodes.length
  low : ∀ v (hv : v < o.length), -1 ≤ o[v]
  base : ∀ x, x ∈ to → o.getD x.toNat 0 = 0
  reach : ∀ v (hv : v < o.length), 0 ≤ o[v] → Rch n (Used use) (fun _ => False) (fun u => (u : Int) ∈ to) v
  most : ∀ v (hv : v < o.length), 0 ≤ o[v] → o[v] + 1 + negs o ≤ n.nodes.length
  zer : ∀ v (hv : v < o.length), o[v] = 0 → (v : Int) ∈ to
  back : ∀ v (hv : v < o.length), 0 < o[v] → ∃ u, Edge n (Used use) v u ∧ ∃ hu : u < o.length, 0 ≤ o[u] ∧ o[u] + 1 ≤ o[v]
/-- Nothing is left to do along a device. -/
def Calm1 (o : List Int) (a b : Nat) : Prop := 0 ≤ o.getD a 0 → 0 ≤ o.getD b 0 ∧ o.getD b 0 ≤ o.getD a 0 + 1
def Calm (n : Net) (use : List Bool) (o : List Int) (i : Nat) : Prop := ∀ d, n.devs[i]? = some d → joinsK d.kind = true → Used use i → Calm1 o d.a.toNat d.b.toNat ∧ Calm1 o d.b.toNat d.a.toNat
theorem Stp.step {n : Net} (hn : n.ok) {use : List Bool} {to o : List Int} (h : Stp n use to o) {a b : Nat} (he : Edge n (Used use) a b) (ha : a < o.length) (hb : b < o.length) (h0 : 0 ≤ o[a]) (h1 : o[b] < 0 ∨ o[a] + 1 < o[b]) :
    Stp n use to (o.set b (o[a] + 1)) ∧ wgtL n.nodes.length (o.set b (o[a] + 1)) < wgtL n.nodes.length o := by
  have hab : a ≠ b := fun e => by subst e; omega
  have hng := negs_set hb (o[a] + 1) (by omega)
  have hma := h.most a ha h0
  have hmb : o[b] < 0 ∨ o[b] + 1 + negs o ≤ n.nodes.length := by
    by_cases hb0 : 0 ≤ o[b]
    · exact .inr (h.most b hb hb0)
    · exact .inl (by omega)
  refine ⟨⟨by simp [h.len], fun v hv => ?_, fun x hx => ?_, fun v hv hv0 => ?_, fun v hv hv0 => ?_, fun v hv hv0 => ?_, fun v hv hv0 => ?_⟩, ?_⟩
  · rw [List.getElem_set]
    split
    · omega
    · exact h.low v (by simpa using hv)
  · have hx0 := h.base x hx
    rw [List.getD_eq_getElem?_getD, List.getElem?_set]
    rw [List.getD_eq_getElem?_getD] at hx0
    split
    · rename_i e
      rw [← e, List.getElem?_eq_getElem hb] at hx0
      simp at hx0; omega
    · exact hx0
  · rw [List.getElem_set] at hv0
    split at hv0
    · rename_i e; subst e
      exact .step (h.reach a ha h0) (fun h => h) he
    · exact h.reach v (by simpa using hv) hv0
  · rw [List.getElem_set] at hv0 ⊢
    split at hv0
    · rename_i e; subst e
      rw [if_pos rfl]
      split at hng <;> omega
    · rename_i e
      rw [if_neg e]
      have := h.most v (by simpa using hv) hv0
      split at hng <;> omega
  · rw [List.getElem_set] at hv0
    split at hv0
    · omega
    · exact h.zer v (by simpa using hv) hv0
  · rw [List.getElem_set] at hv0
    split at hv0
    · rename_i e; subst e
      refine ⟨a, he.symm, by simpa using ha, ?_, ?_⟩
      · rw [List.getElem_set_ne (Ne.symm hab)]; exact h0
      · rw [List.getElem_set_ne (Ne.symm hab), List.getElem_set_self]; omega
    · rename_i e
      obtain ⟨u, h2, hu, h3, h4⟩ := h.back v (by simpa using hv) hv0
      refine ⟨u, h2, by simpa using hu, ?_, ?_⟩
      · rw [List.getElem_set]; split <;> omega
      · rw [List.getElem_set_ne e, List.getElem_set]
        split
        · rename_i e2; subst e2; omega
        · exact h4
  · have hw := wgtL_set (N := n.nodes.length) hb (o[a] + 1)
    have e1 : wgt n.nodes.length (o[a] + 1) = (o[a] + 1).toNat := by unfold wgt; rw [if_neg (by omega)]
    have e2 : wgt n.nodes.length o[b] = if o[b] < 0 then n.nodes.length else o[b].toNat := rfl
    rw [e1, e2] at hw
    by_cases hb0 : o[b] < 0
    · rw [if_pos hb0] at hw hng
      omega
    · rw [if_neg hb0] at hw
      omega
/-- The steps once nothing changes any more: who has a way, and the next node of it. -/
theorem Stp.all {n : Net} {use : List Bool} {to o : List Int} (h : Stp n use to o) (hc : ∀ i, i < n.devs.length → Calm n use o i) (hto : ∀ x, x ∈ to → 0 ≤ x ∧ x < n.nodes.length) :
    (∀ v (hv : v < o.length), 0 ≤ o[v] ↔ Rch n (Used use) (fun _ => False) (fun u => (u : Int) ∈ to) v) ∧ ∀ v (hv : v < o.length), 0 < o[v] → ∃ u, Edge n (Used use) v u ∧ ∃ hu : u < o.length, o[u] = o[v] - 1 := by
  have half : ∀ {a b : Nat}, Edge n (Used use) a b → Calm1 o a b := fun {a b} he => by
    obtain ⟨i, d, h1, h2, h3, h4⟩ := he
    have hh := hc i (List.getElem?_eq_some_iff.1 h1).1 d h1 h2 h3
    rcases h4 with ⟨e1, e2⟩ | ⟨e1, e2⟩
    · have := hh.1; rw [e1, e2] at this; simpa using this
    · have := hh.2; rw [e1, e2] at this; simpa using this
  refine ⟨fun v hv => ⟨h.reach v hv, fun hr => ?_⟩, fun v hv h0 => ?_⟩
  · have := Rch.closed (T := fun v => 0 ≤ o.getD v 0) (fun w hw => by
      have := h.base _ hw
      simp only [Int.toNat_natCast] at this
      omega) (fun a b ha _ he => (half he ha).1) hr
    rwa [getD_get hv] at this
  · obtain ⟨u, h1, hu, h2, h3⟩ := h.back v hv h0
    refine ⟨u, h1, hu, ?_⟩
    have := half h1.symm
    unfold Calm1 at this
    rw [getD_get hu, getD_get hv] at this
    have := (this h2).2
    omega
end Go.Proofs.YthgcmeniecaemaaDoor.Abs
