/- ZoneMore, walked: it returns true. -/
import Derived.Test.YthgcmeniecaemaaDoorZNear
namespace Go.Proofs.YthgcmeniecaemaaDoor.Abs
set_option linter.unusedSimpArgs false
set_option linter.unusedVariables false
set_option maxRecDepth 100000
open Go Go.RowKit

/-- Two lists of gaps, so far. -/
structure FM (n : Net) (i : Nat) (few more : List Int) : Prop where
  rf : rising few i = true
  rm : rising more i = true
  sub : ∀ g, g ∈ few → g ∈ more
  gap : ∀ g, g ∈ more → gapK (n.devs.getD g.toNat ⟨⟨#[]⟩, 0, 0, 0, 0⟩).kind = true
theorem FM.zero (n : Net) : FM n 0 [] [] := ⟨rfl, rfl, fun _ h => (by cases h), fun _ h => (by cases h)⟩
theorem FM.skip {n : Net} {i : Nat} {few more : List Int} (h : FM n i few more) : FM n (i + 1) few more := ⟨rising_mono h.rf (by omega), rising_mono h.rm (by omega), h.sub, h.gap⟩
theorem FM.one {n : Net} {i : Nat} {few more : List Int} (h : FM n i few more) (hi : i < n.devs.length) (hg : gapK n.devs[i].kind = true) : FM n (i + 1) few (more ++ [(i : Int)]) :=
  ⟨rising_mono h.rf (by omega), rising_snoc h.rm (by omega) (by omega), fun g hg => List.mem_append_left _ (h.sub g hg), fun g hm => by
    rcases List.mem_append.1 hm with hm | hm
    · exact h.gap g hm
    · rw [List.mem_singleton] at hm; subst hm; rw [Int.toNat_natCast, getD_get hi]; exact hg⟩
theorem FM.both {n : Net} {i : Nat} {few more : List Int} (h : FM n i few more) (hi : i < n.devs.length) (hg : gapK n.devs[i].kind = true) : FM n (i + 1) (few ++ [(i : Int)]) (more ++ [(i : Int)]) :=
  ⟨rising_snoc h.rf (by omega) (by omega), (h.one hi hg).rm, fun g hm => by
    rcases List.mem_append.1 hm with hm | hm
    · exact List.mem_append_left _ (h.sub g hm)
    · exact List.mem_append_right _ hm, (h.one hi hg).gap⟩
theorem FM.few {n : Net} {few more : List Int} (h : FM n n.devs.length few more) : Gaps n few := ⟨h.rf, fun g hg => h.gap g (h.sub g hg)⟩
theorem FM.more {n : Net} {few more : List Int} (h : FM n n.devs.length few more) : Gaps n more := ⟨h.rm, h.gap⟩
theorem enoughR_ok {n : Net} {z g : List Int} (h : zoneChk n z = 0) (hg : Gaps n g) : enoughR n z g = (enoughB n z g, 0) := by unfold enoughR; rw [if_neg (by simp [fault_ok h hg])]
theorem regionR_ok {n : Net} {z g : List Int} (h : zoneChk n z = 0) (hg : Gaps n g) : regionR n z g = (regL n z g, 0) := by unfold regionR; rw [if_neg (by simp [fault_ok h hg])]
end Go.Proofs.YthgcmeniecaemaaDoor.Abs
