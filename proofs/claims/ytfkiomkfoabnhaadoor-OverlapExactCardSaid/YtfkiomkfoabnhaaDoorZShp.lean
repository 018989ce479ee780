/- Arguments that came in, as networks and locks. No program in sight. -/
import Derived.Test.YtfkiomkfoabnhaaDoorZ3
import Derived.Test.YtfkiomkfoabnhaaDoorZ1
import Derived.Test.YtfkiomkfoabnhaaDoorT3
namespace Go.Proofs.YtfkiomkfoabnhaaDoor.Abs
set_option linter.unusedSimpArgs false
set_option linter.unusedVariables false
open Go Go.RowKit

theorem map2 {α β γ : Type} {f : α → β} {g : β → γ} {h : α → γ} (e : ∀ x, h x = g (f x)) (l : List α) : List.map h l = List.map g (List.map f l) := by
  rw [List.map_map]; exact List.map_congr_left fun x _ => e x
/-- A network that came in. -/
abbrev shNd : Sh := .pair .str (.pair (.int .i64) (.pair (.int .i64) .unit))
abbrev shDv : Sh := .pair .str (.pair (.int .i64) (.pair (.int .i64) (.pair (.int .i64) (.pair (.int .i64) .unit))))
abbrev shNet : Sh := .pair (.slice shNd) (.pair (.slice shDv) .unit)
def ndOf (y : shNd.Den) : Nd := ⟨y.1, y.2.1, y.2.2.1⟩
def dvOf (y : shDv.Den) : Dv := ⟨y.1, y.2.1, y.2.2.1, y.2.2.2.1, y.2.2.2.2.1⟩
def netOf (x : shNet.Den) : Net := ⟨List.map (α := shNd.Den) ndOf x.1, List.map (α := shDv.Den) dvOf x.2.1⟩
theorem net_av (x : shNet.Den) : shNet.av x = .agg (encNet (netOf x)) :=
  congr (congrArg (fun a b => AV.agg [.lst 3 a, .lst 5 b]) (map2 (α := shNd.Den) (f := ndOf) (g := encNd) (h := shNd.enc) (fun _ => rfl) x.1)) (map2 (α := shDv.Den) (f := dvOf) (g := encDv) (h := shDv.enc) (fun _ => rfl) x.2.1)
theorem maxLen_le : maxLen ≤ 9223372036854775807 := by decide
theorem net_sized {x : shNet.Den} (h : shNet.Ok x) : (netOf x).sized := by
  have h1 : List.length (α := shNd.Den) x.1 ≤ maxLen := h.1.1
  have h2 : ∀ y : shNd.Den, List.Mem (α := shNd.Den) y x.1 → shNd.Ok y := h.1.2
  have h3 : List.length (α := shDv.Den) x.2.1 ≤ maxLen := h.2.1.1
  have h4 : ∀ y : shDv.Den, List.Mem (α := shDv.Den) y x.2.1 → shDv.Ok y := h.2.1.2
  refine ⟨?_, ?_, fun y hy => ?_, fun y hy => ?_⟩
  · exact Nat.le_trans (Nat.le_of_eq (List.length_map (α := shNd.Den) ndOf)) (Nat.le_trans h1 maxLen_le)
  · exact Nat.le_trans (Nat.le_of_eq (List.length_map (α := shDv.Den) dvOf)) (Nat.le_trans h3 maxLen_le)
  · obtain ⟨z, hz, rfl⟩ := (List.mem_map (α := shNd.Den) (f := ndOf)).1 hy
    exact Nat.le_trans (h2 z hz).1 maxLen_le
  · obtain ⟨z, hz, rfl⟩ := (List.mem_map (α := shDv.Den) (f := dvOf)).1 hy
    exact Nat.le_trans (h4 z hz).1 maxLen_le
abbrev shLk : Sh := .pair (.int .i64) (.pair (.int .i64) (.pair (.int .i64) .unit))
def lkOf (y : shLk.Den) : Lk := ⟨y.1, y.2.1, y.2.2.1⟩
def locksOf (x : (Sh.slice shLk).Den) : List Lk := List.map (α := shLk.Den) lkOf x
theorem locks_av (x : (Sh.slice shLk).Den) : (Sh.slice shLk).av x = .lst 3 ((locksOf x).map encLk) :=
  congrArg (fun a => AV.lst 3 a) (map2 (α := shLk.Den) (f := lkOf) (g := encLk) (h := shLk.enc) (fun _ => rfl) x)
theorem locks_len {x : (Sh.slice shLk).Den} (h : (Sh.slice shLk).Ok x) : (locksOf x).length ≤ 9223372036854775807 :=
  Nat.le_trans (Nat.le_of_eq (List.length_map (α := shLk.Den) lkOf)) (Nat.le_trans h.1 maxLen_le)
end Go.Proofs.YtfkiomkfoabnhaaDoor.Abs
