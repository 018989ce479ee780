/- ZonePoints's plain law: locks of gaps, each of its own; points with one fewer. No program in sight. -/
import Derived.Test.YtmfgaefefgnhbaaGreatDoorR2
import Derived.Test.YtmfgaefefgnhbaaGreatDoorZ1
namespace Go.Proofs.YtmfgaefefgnhbaaGreatDoor.Abs
set_option linter.unusedSimpArgs false
set_option linter.unusedVariables false
open Go Go.RowKit

theorem pair_ext : ∀ {a b : List Int}, a.Pairwise (· < ·) → b.Pairwise (· < ·) → (∀ x, x ∈ a ↔ x ∈ b) → a = b
  | [], [], _, _, _ => rfl
  | [], y :: b, _, _, h => by have := (h y).2 (List.mem_cons_self ..); cases this
  | x :: a, [], _, _, h => by have := (h x).1 (List.mem_cons_self ..); cases this
  | x :: a, y :: b, ha, hb, h => by
    rw [List.pairwise_cons] at ha hb
    have hxy : x = y := by
      rcases List.mem_cons.1 ((h x).1 (List.mem_cons_self ..)) with e | hx
      · exact e
      rcases List.mem_cons.1 ((h y).2 (List.mem_cons_self ..)) with e | hy
      · exact e.symm
      have h1 := hb.1 x hx
      have h2 := ha.1 y hy
      omega
    subst hxy
    rw [pair_ext ha.2 hb.2 fun z => ?_]
    have hz := h z
    rw [List.mem_cons, List.mem_cons] at hz
    constructor
    · intro hm
      rcases hz.1 (.inr hm) with e | hm'
      · subst e; have := ha.1 z hm; omega
      · exact hm'
    · intro hm
      rcases hz.2 (.inr hm) with e | hm'
      · subst e; have := hb.1 z hm; omega
      · exact hm'
theorem rising_ext {u v : Int} {a b : List Int} (ha : rising a u = true) (hb : rising b v = true) (h : ∀ x, x ∈ a ↔ x ∈ b) : a = b := pair_ext (rising_pair.1 ha).1 (rising_pair.1 hb).1 h
def ownLk (i : Int) : Lk := ⟨i, 1, i⟩
theorem lockedAt_own {gl : List Int} {d : Int} : lockedAt (gl.map ownLk) d = if d ∈ gl then some 1 else none := by
  induction gl with
  | nil => rfl
  | cons x l ih =>
    rw [List.map_cons, lockedAt]
    by_cases h : x = d
    · subst h; simp [ownLk]
    · rw [if_neg (by simpa [ownLk] using h), ih]
      simp [Ne.symm h]
theorem own_locks {n : Net} (hn : n.ok) {gl : List Int} (hg : Gaps n gl) : Locks n (gl.map ownLk) := by
  have hp := rising_pair.1 hg.up
  have hlen := rising_len (by omega) hg.up
  have hdl := hn.dl
  refine ⟨hn, by simp; omega, fun x hx => ?_, ?_, ?_, ?_⟩
  · obtain ⟨g, hgm, rfl⟩ := List.mem_map.1 hx
    have h1 := hp.2 g hgm
    have h2 := hg.gap g hgm
    unfold lErr ownLk
    simp only
    rw [if_neg (by omega), if_neg (fun e => by rw [e] at h2; simp [gapK] at h2), if_neg (by omega), if_neg (by omega)]
  · rw [List.pairwise_map]
    exact hp.1.imp fun h => by simp [lkBefore, ownLk, h]
  · rw [List.pairwise_map]
    exact hp.1.imp fun h => by simp [ownLk]
  · rw [List.pairwise_map]
    exact hp.1.imp fun h => by simp [ownLk]; omega
theorem own_gaps {n : Net} {gl : List Int} (hg : Gaps n gl) : gapsOf n (gl.map ownLk) = gl := by
  refine rising_ext (gapsOf_gaps n _).up hg.up fun x => ?_
  simp only [gapsOf, List.mem_map, List.mem_filter, List.mem_range, Bool.and_eq_true, decide_eq_true_eq]
  constructor
  · rintro ⟨i, ⟨h1, h2, h3⟩, rfl⟩
    rw [lockedAt_own] at h2
    split at h2
    · assumption
    · cases h2
  · intro hx
    have h1 := (rising_pair.1 hg.up).2 x hx
    have h2 := hg.gap x hx
    obtain ⟨i, rfl⟩ := Int.eq_ofNat_of_zero_le h1.1
    exact ⟨i, ⟨by omega, by rw [lockedAt_own, if_pos hx], by simpa using h2⟩, rfl⟩
theorem regL_len_mono {n : Net} (hn : n.ok) {z g g' : List Int} (h : ∀ v, RG n z g v → RG n z g' v) : (regL n z g).length ≤ (regL n z g').length := by
  unfold regL trues
  rw [List.length_map, List.length_map, regB_len, regB_len, ← List.countP_eq_length_filter, ← List.countP_eq_length_filter]
  refine List.countP_mono_left fun v hv => ?_
  have hv' := List.mem_range.1 hv
  have h1 : v < (regB n z g).length := by rw [regB_len]; exact hv'
  have h2 : v < (regB n z g').length := by rw [regB_len]; exact hv'
  simp only [List.getD_eq_getElem?_getD, List.getElem?_eq_getElem h1, List.getElem?_eq_getElem h2, Option.getD_some]
  intro hx
  exact (regB_at h2).2 (h v ((regB_at h1).1 hx))
def lessTo (pts : List Int) (p : Int) (j : Nat) : List Int := (pts.take j).filter fun x => decide (x ≠ p)
theorem lessTo_next {pts : List Int} {p : Int} {j : Nat} (hj : j < pts.length) : lessTo pts p (j + 1) = lessTo pts p j ++ (if pts[j] ≠ p then [pts[j]] else []) := by
  unfold lessTo
  rw [List.take_succ_eq_append_getElem hj, List.filter_append]
  congr 1
  by_cases h : pts[j] = p <;> simp [h]
theorem lessTo_len {pts : List Int} {p : Int} {j : Nat} : (lessTo pts p j).length ≤ j := by
  unfold lessTo
  exact Nat.le_trans (List.length_filter_le _ _) (by simp; omega)
end Go.Proofs.YtmfgaefefgnhbaaGreatDoor.Abs
