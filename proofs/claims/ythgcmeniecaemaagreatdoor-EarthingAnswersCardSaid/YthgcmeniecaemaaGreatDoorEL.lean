/- Locks that a statement of chapter 16 makes; one earth more. No program in sight. -/
import Derived.Test.YthgcmeniecaemaaGreatDoorEA
import Derived.Test.YthgcmeniecaemaaGreatDoorZPA
import Derived.Test.YthgcmeniecaemaaGreatDoorR2
namespace Go.Proofs.YthgcmeniecaemaaGreatDoor.Abs
set_option linter.unusedSimpArgs false
set_option linter.unusedVariables false
open Go Go.RowKit

/-- A lock for each of some devices. -/
def lkBy (f : Int → Int) (i : Int) : Lk := ⟨i, f i, i⟩
theorem by_locks {n : Net} (hn : n.ok) {f : Int → Int} {gl : List Int} (hu : rising gl n.devs.length = true) (hk : ∀ g, g ∈ gl → (n.devs.getD g.toNat ⟨⟨#[]⟩, 0, 0, 0, 0⟩).kind ≠ 5) (hf : ∀ g, g ∈ gl → f g = 1 ∨ f g = 2) : Locks n (gl.map (lkBy f)) := by
  have hp := rising_pair.1 hu
  have hlen := rising_len (by omega) hu
  have hdl := hn.dl
  refine ⟨hn, by simp; omega, fun x hx => ?_, ?_, ?_, ?_⟩
  · obtain ⟨g, hgm, rfl⟩ := List.mem_map.1 hx
    have h1 := hp.2 g hgm
    have h2 := hk g hgm
    have h3 := hf g hgm
    unfold lErr lkBy
    simp only
    rw [if_neg (by omega), if_neg h2, if_neg (by omega), if_neg (by omega)]
  · rw [List.pairwise_map]
    exact hp.1.imp fun h => by simp [lkBefore, lkBy, h]
  · rw [List.pairwise_map]
    exact hp.1.imp fun h e => by simp [lkBy] at e; omega
  · rw [List.pairwise_map]
    exact hp.1.imp fun h => by simp [lkBy]; omega
/-- The devices below i that are wanted. -/
def pickTo (p : Nat → Bool) (i : Nat) : List Int := ((List.range i).filter p).map Int.ofNat
theorem pickTo_next {p : Nat → Bool} {i : Nat} : pickTo p (i + 1) = pickTo p i ++ (if p i then [(i : Int)] else []) := by
  unfold pickTo
  rw [List.range_succ, List.filter_append, List.map_append]
  congr 1
  simp only [List.filter_cons, List.filter_nil]
  cases p i <;> rfl
theorem pickTo_len {p : Nat → Bool} {i : Nat} : (pickTo p i).length ≤ i := by
  unfold pickTo
  rw [List.length_map]
  exact Nat.le_trans (List.length_filter_le _ _) (by simp)
theorem mem_pickTo {p : Nat → Bool} {i : Nat} {x : Int} : x ∈ pickTo p i ↔ ∃ j : Nat, x = j ∧ j < i ∧ p j = true := by
  simp only [pickTo, List.mem_map, List.mem_filter, List.mem_range]
  constructor
  · rintro ⟨j, ⟨h1, h2⟩, rfl⟩; exact ⟨j, rfl, h1, h2⟩
  · rintro ⟨j, rfl, h1, h2⟩; exact ⟨j, ⟨h1, h2⟩, rfl⟩
theorem pickTo_up {p : Nat → Bool} {i : Nat} : rising (pickTo p i) i = true := rising_map
end Go.Proofs.YthgcmeniecaemaaGreatDoor.Abs
