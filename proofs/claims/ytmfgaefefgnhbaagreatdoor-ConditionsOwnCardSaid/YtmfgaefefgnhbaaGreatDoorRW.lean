/- References: regions, isolation, points, nearest gaps. -/
import Derived.Test.YtmfgaefefgnhbaaGreatDoorRV
import Derived.Test.YtmfgaefefgnhbaaGreatDoorR4
import Derived.Test.YtmfgaefefgnhbaaGreatDoorR2
import Derived.Test.YtmfgaefefgnhbaaGreatDoorZ4
namespace Go.Proofs.YtmfgaefefgnhbaaGreatDoor.Abs
set_option linter.unusedSimpArgs false
set_option linter.unusedVariables false
set_option maxRecDepth 100000
open Go Go.RowKit

theorem regLen {n : Net} {z g : List Int} : (regL n z g).length ≤ n.nodes.length := by
  unfold regL trues
  rw [List.length_map, regB_len]
  exact Nat.le_trans (List.length_filter_le _ _) (by simp)
theorem enoughB_not {n : Net} {zone gaps : List Int} {i : Nat} (hi : i < n.devs.length) (hk : n.devs[i].kind = 5 ∨ (n.devs[i].kind = 6 ∧ (i : Int) ∉ gaps)) (hr : RG n zone gaps n.devs[i].a.toNat) : enoughB n zone gaps = false := by
  rw [enoughB, decide_eq_false_iff_not]
  exact fun h => h i _ (List.getElem?_eq_getElem hi) hk hr
end Go.Proofs.YtmfgaefefgnhbaaGreatDoor.Abs
