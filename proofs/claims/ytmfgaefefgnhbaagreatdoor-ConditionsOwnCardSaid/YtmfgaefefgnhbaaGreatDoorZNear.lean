/- ZoneNearest, walked: it returns true. -/
import Derived.Test.YtmfgaefefgnhbaaGreatDoorZ4
import Derived.Test.YtmfgaefefgnhbaaGreatDoorZ3
import Derived.Test.YtmfgaefefgnhbaaGreatDoorZ2
import Derived.Test.YtmfgaefefgnhbaaGreatDoorT3
namespace Go.Proofs.YtmfgaefefgnhbaaGreatDoor.Abs
set_option linter.unusedSimpArgs false
set_option linter.unusedVariables false
set_option maxRecDepth 100000
open Go Go.RowKit

/-- Lists of numbers that come in. -/
structure NumsOk (l : List Int) : Prop where
  len : l.length ≤ 9223372036854775807
  ls : ∀ x, x ∈ l → inI x
theorem NumsOk.deck {l : List Int} (h : NumsOk l) : Dk.ok ⟨l, 0, 88172645463325252⟩ := ⟨h.len, by simp, by simp, by simp, by simp, h.ls⟩
theorem cuts_len {n : Net} : (cuts n).length ≤ n.devs.length := cutsTo_len
theorem near_len {n : Net} {z : List Int} : (nearestR n z).1.length ≤ n.devs.length := by
  unfold nearestR
  split
  · simp
  · split
    · simp
    · exact Nat.le_trans (List.length_filter_le _ _) cuts_len
theorem reg_len {n : Net} {z g : List Int} : (regL n z g).length ≤ n.nodes.length := by
  unfold regL trues
  rw [List.length_map]
  refine Nat.le_trans (List.length_filter_le _ _) ?_
  simp [regB_len]
theorem nums_ok {x : (Sh.slice (.int .i64)).Den} (h : (Sh.slice (.int .i64)).Ok x) : NumsOk x :=
  ⟨Nat.le_trans h.1 (by decide), fun y hy => by have := bounds_i64 (h.2 y hy); exact this⟩
theorem nums_av (x : (Sh.slice (.int .i64)).Den) : (Sh.slice (.int .i64)).av x = .lst 1 (List.map encN x) := rfl
end Go.Proofs.YtmfgaefefgnhbaaGreatDoor.Abs
