/- Sets of names as maps. No program in sight. -/
import Derived.Test.YtangkndckghblaaDoorZD
namespace Go.Proofs.YtangkndckghblaaDoor.Abs
set_option linter.unusedSimpArgs false
set_option linter.unusedVariables false
open Go Go.RowKit

/-- A map that says true of some names. -/
def nameMap (l : List ByteArray) : List (MKey × AV) := l.map fun s => (.str s, .raw (.bool true))
theorem nameMap_find : ∀ (l : List ByteArray) (s : ByteArray), (mfind (nameMap l) (.str s)).getD (.raw (.bool false)) = .raw (.bool (decide (s ∈ l)))
  | [], s => rfl
  | x :: l, s => by
    have ih := nameMap_find l s
    by_cases h : x = s
    · subst h; simp [nameMap, mfind]
    · have h' : ¬ MKey.str x = MKey.str s := fun e => h (by injection e)
      have h'' : ¬ s = x := fun e => h e.symm
      show (mfind ((MKey.str x, AV.raw (.bool true)) :: nameMap l) (.str s)).getD _ = _
      simp only [mfind, h', if_false, ih, List.mem_cons, h'', false_or]
theorem nameMap_put {l : List ByteArray} {s : ByteArray} (h : ¬ s ∈ l) : mput (nameMap l) (.str s) (.raw (.bool true)) = nameMap (l ++ [s]) := by
  have hn : midx (nameMap l) (.str s) = none := by
    cases hm : midx (nameMap l) (.str s) with
    | none => rfl
    | some j =>
      obtain ⟨a, h1, _⟩ := midx_some hm
      have := List.mem_of_getElem? h1
      simp only [nameMap, List.mem_map, Prod.mk.injEq, MKey.str.injEq] at this
      obtain ⟨x, hx, rfl, _⟩ := this
      exact absurd hx h
  simp only [mput, hn]
  simp [nameMap]
end Go.Proofs.YtangkndckghblaaDoor.Abs
