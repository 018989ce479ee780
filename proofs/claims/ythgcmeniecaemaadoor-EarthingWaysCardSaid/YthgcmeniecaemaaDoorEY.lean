/- What protected means: ways. No program in sight. -/
import Derived.Test.YthgcmeniecaemaaDoorEW
import Derived.Test.YthgcmeniecaemaaDoorEA
namespace Go.Proofs.YthgcmeniecaemaaDoor.Abs
set_option linter.unusedSimpArgs false
set_option linter.unusedVariables false
open Go Go.RowKit

abbrev From (n : Net) (use : List Bool) (t f : Nat) : Prop := Rch n (Used use) (fun _ => False) (fun u => u = t) f
theorem Rch.flip {n : Net} {use : Nat → Prop} {u v : Nat} (h : Rch n use (fun _ => False) (fun x => x = u) v) : Rch n use (fun _ => False) (fun x => x = v) u := by
  induction h with
  | base h => exact .base h.symm
  | step _ _ he ih => exact Rch.trans (fun y hy => by subst hy; exact .step (.base rfl) (fun h => h) he.symm) ih
/-- Devices that join, and whose ends are not earthed. -/
def useB (n : Net) (E : List Int) (i : Nat) : Bool := joinsK (n.devs.getD i ⟨⟨#[]⟩, 0, 0, 0, 0⟩).kind && (!decide ((n.devs.getD i ⟨⟨#[]⟩, 0, 0, 0, 0⟩).a ∈ E) && !decide ((n.devs.getD i ⟨⟨#[]⟩, 0, 0, 0, 0⟩).b ∈ E))
def anyB (n : Net) (i : Nat) : Bool := joinsK (n.devs.getD i ⟨⟨#[]⟩, 0, 0, 0, 0⟩).kind
def bitsTo (p : Nat → Bool) (N k : Nat) : List Bool := (List.range N).map fun i => if i < k then p i else false
theorem bitsTo_len {p : Nat → Bool} {N k : Nat} : (bitsTo p N k).length = N := by simp [bitsTo]
theorem bitsTo_next {p : Nat → Bool} {N k : Nat} (hk : k < N) : bitsTo p N (k + 1) = (bitsTo p N k).set k (p k) := by
  apply List.ext_getElem (by simp [bitsTo])
  intro u h1 h2
  have hu : u < N := by simpa [bitsTo] using h1
  rw [List.getElem_set]
  simp only [bitsTo, List.getElem_map, List.getElem_range]
  by_cases e : k = u
  · subst e; simp
  · rw [if_neg e]
    by_cases h : u < k
    · rw [if_pos (by omega), if_pos h]
    · rw [if_neg (by omega), if_neg h]
theorem bitsTo_at {p : Nat → Bool} {N i : Nat} (hi : i < N) : (bitsTo p N N).getD i false = p i := by
  rw [List.getD_eq_getElem?_getD, List.getElem?_eq_getElem (by simpa [bitsTo] using hi)]
  simp [bitsTo, hi]
theorem use_edge {n : Net} (hn : n.ok) {E : List Int} {u v : Nat} : Edge n (Used (bitsTo (useB n E) n.devs.length n.devs.length)) u v ↔ Edge n (fun _ => True) u v ∧ (u : Int) ∉ E ∧ (v : Int) ∉ E := by
  constructor
  · rintro ⟨i, d, h1, h2, h3, h4⟩
    have hi := (List.getElem?_eq_some_iff.1 h1).1
    rw [Used, bitsTo_at hi] at h3
    simp only [useB, List.getD_eq_getElem?_getD, h1, Option.getD_some, Bool.and_eq_true, Bool.not_eq_true', decide_eq_false_iff_not] at h3
    refine ⟨⟨i, d, h1, h2, trivial, h4⟩, ?_⟩
    rcases h4 with ⟨e1, e2⟩ | ⟨e1, e2⟩
    · rw [← e1, ← e2]; exact ⟨h3.2.1, h3.2.2⟩
    · rw [← e1, ← e2]; exact ⟨h3.2.2, h3.2.1⟩
  · rintro ⟨⟨i, d, h1, h2, _, h4⟩, h5, h6⟩
    have hi := (List.getElem?_eq_some_iff.1 h1).1
    refine ⟨i, d, h1, h2, ?_, h4⟩
    rw [Used, bitsTo_at hi]
    simp only [useB, List.getD_eq_getElem?_getD, h1, Option.getD_some, Bool.and_eq_true, Bool.not_eq_true', decide_eq_false_iff_not]
    rcases h4 with ⟨e1, e2⟩ | ⟨e1, e2⟩
    · rw [e1, e2]; exact ⟨h2, h5, h6⟩
    · rw [e1, e2]; exact ⟨h2, h6, h5⟩
theorem any_edge {n : Net} {u v : Nat} : Edge n (Used (bitsTo (anyB n) n.devs.length n.devs.length)) u v ↔ Edge n (fun _ => True) u v := by
  constructor
  · exact fun h => h.mono fun _ _ => trivial
  · rintro ⟨i, d, h1, h2, _, h4⟩
    have hi := (List.getElem?_eq_some_iff.1 h1).1
    refine ⟨i, d, h1, h2, ?_, h4⟩
    rw [Used, bitsTo_at hi]
    simpa only [anyB, List.getD_eq_getElem?_getD, h1, Option.getD_some] using h2
theorem free_way {n : Net} (hn : n.ok) {E : List Int} {v w : Nat} (hv : (v : Int) ∉ E) (hw : (w : Int) ∉ E) : From n (bitsTo (useB n E) n.devs.length n.devs.length) w v ↔ RE n E v w := by
  constructor
  · intro h
    refine Rch.closed (T := fun x => RE n E x w) (fun x hx => by rw [hx]; exact .self) (fun a b ha _ he => ?_) h
    have h2 := (use_edge hn).1 he
    exact Rch.trans (fun y hy => by subst hy; exact .step (.base rfl) h2.2.2 h2.1.symm) ha
  · intro h
    have key : ∀ x, RE n E v x → (x : Int) ∈ E ∨ From n (bitsTo (useB n E) n.devs.length n.devs.length) x v := fun x hx => by
      refine Rch.closed (T := fun x => (x : Int) ∈ E ∨ From n (bitsTo (useB n E) n.devs.length n.devs.length) x v) (fun y hy => .inr (by rw [hy]; exact .base rfl)) (fun a b ha hs he => ?_) hx
      by_cases hb : (b : Int) ∈ E
      · exact .inl hb
      · rcases ha with ha | ha
        · exact absurd ha hs
        · exact .inr (Rch.trans (fun y hy => by subst hy; exact .step (.base rfl) (fun h => h) ((use_edge hn).2 ⟨he.symm, hb, hs⟩)) ha)
    rcases key w h with h1 | h1
    · exact absurd h1 hw
    · exact h1
theorem met_way {n : Net} {E : List Int} {v : Nat} : (∃ u : Nat, (u : Int) ∈ E ∧ From n (bitsTo (anyB n) n.devs.length n.devs.length) u v) ↔ ∃ u : Nat, (u : Int) ∈ E ∧ RE n E v u := by
  constructor
  · rintro ⟨u, hu, h⟩
    have key : ∀ x, Rch n (Used (bitsTo (anyB n) n.devs.length n.devs.length)) (fun _ => False) (fun y => y = v) x → RE n E v x ∨ ∃ u : Nat, (u : Int) ∈ E ∧ RE n E v u := fun x hx => by
      refine Rch.closed (T := fun x => RE n E v x ∨ ∃ u : Nat, (u : Int) ∈ E ∧ RE n E v u) (fun y hy => .inl (.base hy)) (fun a b ha _ he => ?_) hx
      rcases ha with ha | ha
      · by_cases hb : (a : Int) ∈ E
        · exact .inr ⟨a, hb, ha⟩
        · exact .inl (.step ha hb (any_edge.1 he))
      · exact .inr ha
    rcases key u h.flip with h1 | h1
    · exact ⟨u, hu, h1⟩
    · exact h1
  · rintro ⟨u, hu, h⟩
    refine ⟨u, hu, Rch.flip ?_⟩
    exact Rch.closed (T := fun x => Rch n (Used (bitsTo (anyB n) n.devs.length n.devs.length)) (fun _ => False) (fun y => y = v) x) (fun y hy => .base hy) (fun a b ha _ he => .step ha (fun h => h) (any_edge.2 he)) h
/-- A source among the first k devices that is not earthed has a way. -/
def SrcWay (n : Net) (E : List Int) (v k : Nat) : Prop := ∃ (i : Nat) (d : Dv), i < k ∧ n.devs[i]? = some d ∧ (d.kind = 5 ∨ d.kind = 6) ∧ d.a ∉ E ∧ From n (bitsTo (useB n E) n.devs.length n.devs.length) d.a.toNat v
/-- One of the first k earthed nodes has a way. -/
def MetWay (n : Net) (E : List Int) (v k : Nat) : Prop := ∃ (j : Nat) (hj : j < E.length), j < k ∧ From n (bitsTo (anyB n) n.devs.length n.devs.length) E[j].toNat v
theorem prot_ways {n : Net} (hn : n.ok) {E : List Int} (hE : ∀ x, x ∈ E → 0 ≤ x) {v : Nat} (hv : (v : Int) ∉ E) : protB n E v = (pB (MetWay n E v E.length) && !pB (SrcWay n E v n.devs.length)) := by
  rw [Bool.eq_iff_iff, protB, pB_iff, Bool.and_eq_true, pB_iff, Bool.not_eq_true', pB_eq_false]
  have hm : MetWay n E v E.length ↔ ∃ u : Nat, (u : Int) ∈ E ∧ RE n E v u := by
    rw [← met_way]
    constructor
    · rintro ⟨j, hj, _, h⟩
      exact ⟨E[j].toNat, by rw [Int.toNat_of_nonneg (hE _ (List.getElem_mem hj))]; exact List.getElem_mem hj, h⟩
    · rintro ⟨u, hu, h⟩
      obtain ⟨j, hj, e⟩ := List.getElem_of_mem hu
      exact ⟨j, hj, hj, by rw [e]; simpa using h⟩
  constructor
  · intro h
    refine ⟨hm.2 h.met, ?_⟩
    rintro ⟨i, d, _, hd, hk, ha, hw⟩
    have h0 := (hn.dev hd).a0
    exact ha (h.src i d hd hk ((free_way hn hv (by rw [Int.toNat_of_nonneg h0]; exact ha)).1 hw))
  · rintro ⟨h1, h2⟩
    refine ⟨fun i d hd hk hr => Classical.byContradiction fun ha => h2 ⟨i, d, (List.getElem?_eq_some_iff.1 hd).1, hd, hk, ha, ?_⟩, hm.1 h1⟩
    have h0 := (hn.dev hd).a0
    exact (free_way hn hv (by rw [Int.toNat_of_nonneg h0]; exact ha)).2 hr
theorem SrcWay.succ {n : Net} {E : List Int} {v k : Nat} (hk : k < n.devs.length) : SrcWay n E v (k + 1) ↔ SrcWay n E v k ∨ ((n.devs[k].kind = 5 ∨ n.devs[k].kind = 6) ∧ n.devs[k].a ∉ E ∧ From n (bitsTo (useB n E) n.devs.length n.devs.length) n.devs[k].a.toNat v) := by
  constructor
  · rintro ⟨i, d, hi, hd, h⟩
    by_cases e : i = k
    · subst e
      obtain ⟨_, rfl⟩ := List.getElem?_eq_some_iff.1 hd
      exact .inr h
    · exact .inl ⟨i, d, by omega, hd, h⟩
  · rintro (⟨i, d, hi, h⟩ | h)
    · exact ⟨i, d, by omega, h⟩
    · exact ⟨k, _, by omega, List.getElem?_eq_getElem hk, h⟩
theorem MetWay.succ {n : Net} {E : List Int} {v k : Nat} (hk : k < E.length) : MetWay n E v (k + 1) ↔ MetWay n E v k ∨ From n (bitsTo (anyB n) n.devs.length n.devs.length) E[k].toNat v := by
  constructor
  · rintro ⟨j, hj, hi, h⟩
    by_cases e : j = k
    · subst e; exact .inr h
    · exact .inl ⟨j, hj, by omega, h⟩
  · rintro (⟨j, hj, hi, h⟩ | h)
    · exact ⟨j, hj, by omega, h⟩
    · exact ⟨k, hk, by omega, h⟩
theorem SrcWay.zero {n : Net} {E : List Int} {v : Nat} : ¬ SrcWay n E v 0 := fun ⟨_, _, h, _⟩ => by omega
theorem MetWay.zero {n : Net} {E : List Int} {v : Nat} : ¬ MetWay n E v 0 := fun ⟨_, _, h, _⟩ => by omega
end Go.Proofs.YthgcmeniecaemaaDoor.Abs
