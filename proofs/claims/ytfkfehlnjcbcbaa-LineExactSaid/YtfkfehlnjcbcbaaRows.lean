/-
  No cell of these rows narrows 'for every input' (looked for: loops, veiled, ifaces, maps, wideKeys, modest, calm, conditions, laid).
  DERIVED. THE GIVEN ROWS OF THIS SEAT. 6 by the template 'for every input the law returns true; each argument reads behind the call as it read before'; 0 by the template 'total and deterministic' (their statements: YtfkfehlnjcbcbaaTotals.lean).
  GIVEN WITH THE SEED: the statements are not yours to turn. If you find one false, say at which input.
  Laid BY PROGRAM, IN A SANDBOX (cutbox-rows.mjs): the forced cells as the released guide's own fill.sh prints them over the translation 7e339d373feda2d5… (all of the seat's roots in one cut). By AI agents, Wed Nov 11 2026. No macro, syntax, notation, axiom, sorry.
-/
import Derived.Test.YtfkfehlnjcbcbaaChecked
import GoSem.Claim
import GoSem.ClaimJoined
import GoSem.ClaimMapViews
import Derived.JoinedTies
import Derived.KernelRfl
namespace Go.Proofs.Ytfkfehlnjcbcbaa
/- THE CELL 'sum', in the pinned program and in every row, IS THE sha256 OF THE DUMP (.gsa) THAT YtfkfehlnjcbcbaaProg.lean LOADS. Nothing in Lean hashes anything: it is a label: what it is worth is what the hold of that sum in a sandbox is worth. -/
noncomputable def Try.pinned : Pinned := { name := "ytfkfehlnjcbcbaa", sum := "7e339d373feda2d59bf095256b01c563e494c7c4348a14806b1907490e97b0e1", checked := Try.checked }
namespace Rows
def none {H : Type} : Left H := { results := [], args := [] }

/-- 'permitofficelaw33.LineFull': WHATEVER THE INPUT: true; the input reads as it did. -/
def lineFullSpec : ChangeSpec := { name := "lineFull", fn := fun _ => fun
  | [d] => { results := [.lit (.bool true)], args := [d] }
  | _ => none }
def lineFullRow : OpenClaim := { program := "ytfkfehlnjcbcbaa", sum := "7e339d373feda2d59bf095256b01c563e494c7c4348a14806b1907490e97b0e1", func := "permitoffice/permitofficelaw33.LineFull", spec := "lineFull", unfollowed := true, recurses := true, apart := false }
def LineFullSaid : Prop := lineFullRow.holds Try.pinned (OpenSpec.ofChange lineFullSpec)

/-- ITS FALSE NEIGHBOUR: 'it returns false'. Refute it at one input. -/
def lineFullWrong : ChangeSpec := { name := "lineFull", fn := fun _ => fun
  | [d] => { results := [.lit (.bool false)], args := [d] }
  | _ => none }
def LineFullWrongFalsely : Prop := lineFullRow.holds Try.pinned (OpenSpec.ofChange lineFullWrong)

/-- 'permitofficelaw33.LineExact': WHATEVER THE INPUT: true; the input reads as it did. -/
def lineExactSpec : ChangeSpec := { name := "lineExact", fn := fun _ => fun
  | [d1, d2, d3, d4] => { results := [.lit (.bool true)], args := [d1, d2, d3, d4] }
  | _ => none }
def lineExactRow : OpenClaim := { program := "ytfkfehlnjcbcbaa", sum := "7e339d373feda2d59bf095256b01c563e494c7c4348a14806b1907490e97b0e1", func := "permitoffice/permitofficelaw33.LineExact", spec := "lineExact", unfollowed := true, recurses := true, apart := false }
def LineExactSaid : Prop := lineExactRow.holds Try.pinned (OpenSpec.ofChange lineExactSpec)

/-- ITS FALSE NEIGHBOUR: 'it returns false'. Refute it at one input. -/
def lineExactWrong : ChangeSpec := { name := "lineExact", fn := fun _ => fun
  | [d1, d2, d3, d4] => { results := [.lit (.bool false)], args := [d1, d2, d3, d4] }
  | _ => none }
def LineExactWrongFalsely : Prop := lineExactRow.holds Try.pinned (OpenSpec.ofChange lineExactWrong)

/-- 'permitofficelaw33.LineOnce': WHATEVER THE INPUT: true; the input reads as it did. -/
def lineOnceSpec : ChangeSpec := { name := "lineOnce", fn := fun _ => fun
  | [d] => { results := [.lit (.bool true)], args := [d] }
  | _ => none }
def lineOnceRow : OpenClaim := { program := "ytfkfehlnjcbcbaa", sum := "7e339d373feda2d59bf095256b01c563e494c7c4348a14806b1907490e97b0e1", func := "permitoffice/permitofficelaw33.LineOnce", spec := "lineOnce", unfollowed := true, recurses := true, apart := false }
def LineOnceSaid : Prop := lineOnceRow.holds Try.pinned (OpenSpec.ofChange lineOnceSpec)

/-- ITS FALSE NEIGHBOUR: 'it returns false'. Refute it at one input. -/
def lineOnceWrong : ChangeSpec := { name := "lineOnce", fn := fun _ => fun
  | [d] => { results := [.lit (.bool false)], args := [d] }
  | _ => none }
def LineOnceWrongFalsely : Prop := lineOnceRow.holds Try.pinned (OpenSpec.ofChange lineOnceWrong)

/-- 'permitofficelaw33.LineEnds': WHATEVER THE INPUT: true; the input reads as it did. -/
def lineEndsSpec : ChangeSpec := { name := "lineEnds", fn := fun _ => fun
  | [d] => { results := [.lit (.bool true)], args := [d] }
  | _ => none }
def lineEndsRow : OpenClaim := { program := "ytfkfehlnjcbcbaa", sum := "7e339d373feda2d59bf095256b01c563e494c7c4348a14806b1907490e97b0e1", func := "permitoffice/permitofficelaw33.LineEnds", spec := "lineEnds", unfollowed := true, recurses := true, apart := false }
def LineEndsSaid : Prop := lineEndsRow.holds Try.pinned (OpenSpec.ofChange lineEndsSpec)

/-- ITS FALSE NEIGHBOUR: 'it returns false'. Refute it at one input. -/
def lineEndsWrong : ChangeSpec := { name := "lineEnds", fn := fun _ => fun
  | [d] => { results := [.lit (.bool false)], args := [d] }
  | _ => none }
def LineEndsWrongFalsely : Prop := lineEndsRow.holds Try.pinned (OpenSpec.ofChange lineEndsWrong)

/-- 'permitofficelaw33.LineKnows': WHATEVER THE INPUT: true; the input reads as it did. -/
def lineKnowsSpec : ChangeSpec := { name := "lineKnows", fn := fun _ => fun
  | [d] => { results := [.lit (.bool true)], args := [d] }
  | _ => none }
def lineKnowsRow : OpenClaim := { program := "ytfkfehlnjcbcbaa", sum := "7e339d373feda2d59bf095256b01c563e494c7c4348a14806b1907490e97b0e1", func := "permitoffice/permitofficelaw33.LineKnows", spec := "lineKnows", unfollowed := true, recurses := true, apart := false }
def LineKnowsSaid : Prop := lineKnowsRow.holds Try.pinned (OpenSpec.ofChange lineKnowsSpec)

/-- ITS FALSE NEIGHBOUR: 'it returns false'. Refute it at one input. -/
def lineKnowsWrong : ChangeSpec := { name := "lineKnows", fn := fun _ => fun
  | [d] => { results := [.lit (.bool false)], args := [d] }
  | _ => none }
def LineKnowsWrongFalsely : Prop := lineKnowsRow.holds Try.pinned (OpenSpec.ofChange lineKnowsWrong)

/-- 'permitofficelaw33.LineAny': WHATEVER THE INPUT: true; the input reads as it did. -/
def lineAnySpec : ChangeSpec := { name := "lineAny", fn := fun _ => fun
  | [d] => { results := [.lit (.bool true)], args := [d] }
  | _ => none }
def lineAnyRow : OpenClaim := { program := "ytfkfehlnjcbcbaa", sum := "7e339d373feda2d59bf095256b01c563e494c7c4348a14806b1907490e97b0e1", func := "permitoffice/permitofficelaw33.LineAny", spec := "lineAny", unfollowed := true, recurses := true, apart := false }
def LineAnySaid : Prop := lineAnyRow.holds Try.pinned (OpenSpec.ofChange lineAnySpec)

/-- ITS FALSE NEIGHBOUR: 'it returns false'. Refute it at one input. -/
def lineAnyWrong : ChangeSpec := { name := "lineAny", fn := fun _ => fun
  | [d] => { results := [.lit (.bool false)], args := [d] }
  | _ => none }
def LineAnyWrongFalsely : Prop := lineAnyRow.holds Try.pinned (OpenSpec.ofChange lineAnyWrong)

/- THE SECOND FORM. 'bulk': how many values and letters a reading holds, each counted each time it is reached (what is shared counts as often as it is met; a slice's spare places count too). A statement '..UptoSaid' is the law's where the arguments, and the package variables that the reading takes, are together of bulk at most 1048576: NARROWER than '..Said'. Prove '..Said' where nothing that the law and all that it calls make is longer than what came in: it says more and counts as full. Else prove '..UptoSaid'. A law counts once. -/
mutual
def uptoBulk {H : Type} : DataW H → Nat
  | .lit (.string bytes) => bytes.length + 1
  | .lit _ => 1
  | .nil => 1
  | .ptr d => uptoBulk d + 1
  | .slice elems spare => uptoBulkAll elems + uptoBulkAll spare + 1
  | .agg parts => uptoBulkAll parts + 1
  | .iface _ d => uptoBulk d + 1
  | .map entries => uptoBulkEntries entries + 1
  | .held _ => 1
def uptoBulkAll {H : Type} : List (DataW H) → Nat
  | [] => 0
  | d :: r => uptoBulk d + uptoBulkAll r
def uptoBulkEntries {H : Type} : List (Lit × DataW H) → Nat
  | [] => 0
  | x :: r => uptoBulkEntry x + uptoBulkEntries r
def uptoBulkEntry {H : Type} : Lit × DataW H → Nat
  | (.string bytes, d) => bytes.length + uptoBulk d + 1
  | (_, d) => uptoBulk d + 1
 end
def uptoSmall : (H : Type) → List (DataW H) → Bool := fun _ ds => decide (uptoBulkAll ds ≤ 1048576)
def OpenSpec.upto (s : _root_.Go.ChangeSpec) : _root_.Go.OpenSpec := { _root_.Go.OpenSpec.ofChange s with cond := some uptoSmall }

/-- 'permitofficelaw33.LineFull', WHERE WHAT IT READS IS OF BULK AT MOST 1048576: true; the input reads as it did. -/
def lineFullUptoRow : OpenClaim := { program := "ytfkfehlnjcbcbaa", sum := "7e339d373feda2d59bf095256b01c563e494c7c4348a14806b1907490e97b0e1", func := "permitoffice/permitofficelaw33.LineFull", spec := "lineFull", unfollowed := true, recurses := true, apart := false, narrowed := true }
def LineFullUptoSaid : Prop := lineFullUptoRow.holds Try.pinned (OpenSpec.upto lineFullSpec)

/-- 'permitofficelaw33.LineExact', WHERE WHAT IT READS IS OF BULK AT MOST 1048576: true; the input reads as it did. -/
def lineExactUptoRow : OpenClaim := { program := "ytfkfehlnjcbcbaa", sum := "7e339d373feda2d59bf095256b01c563e494c7c4348a14806b1907490e97b0e1", func := "permitoffice/permitofficelaw33.LineExact", spec := "lineExact", unfollowed := true, recurses := true, apart := false, narrowed := true }
def LineExactUptoSaid : Prop := lineExactUptoRow.holds Try.pinned (OpenSpec.upto lineExactSpec)

/-- 'permitofficelaw33.LineOnce', WHERE WHAT IT READS IS OF BULK AT MOST 1048576: true; the input reads as it did. -/
def lineOnceUptoRow : OpenClaim := { program := "ytfkfehlnjcbcbaa", sum := "7e339d373feda2d59bf095256b01c563e494c7c4348a14806b1907490e97b0e1", func := "permitoffice/permitofficelaw33.LineOnce", spec := "lineOnce", unfollowed := true, recurses := true, apart := false, narrowed := true }
def LineOnceUptoSaid : Prop := lineOnceUptoRow.holds Try.pinned (OpenSpec.upto lineOnceSpec)

/-- 'permitofficelaw33.LineEnds', WHERE WHAT IT READS IS OF BULK AT MOST 1048576: true; the input reads as it did. -/
def lineEndsUptoRow : OpenClaim := { program := "ytfkfehlnjcbcbaa", sum := "7e339d373feda2d59bf095256b01c563e494c7c4348a14806b1907490e97b0e1", func := "permitoffice/permitofficelaw33.LineEnds", spec := "lineEnds", unfollowed := true, recurses := true, apart := false, narrowed := true }
def LineEndsUptoSaid : Prop := lineEndsUptoRow.holds Try.pinned (OpenSpec.upto lineEndsSpec)

/-- 'permitofficelaw33.LineKnows', WHERE WHAT IT READS IS OF BULK AT MOST 1048576: true; the input reads as it did. -/
def lineKnowsUptoRow : OpenClaim := { program := "ytfkfehlnjcbcbaa", sum := "7e339d373feda2d59bf095256b01c563e494c7c4348a14806b1907490e97b0e1", func := "permitoffice/permitofficelaw33.LineKnows", spec := "lineKnows", unfollowed := true, recurses := true, apart := false, narrowed := true }
def LineKnowsUptoSaid : Prop := lineKnowsUptoRow.holds Try.pinned (OpenSpec.upto lineKnowsSpec)

/-- 'permitofficelaw33.LineAny', WHERE WHAT IT READS IS OF BULK AT MOST 1048576: true; the input reads as it did. -/
def lineAnyUptoRow : OpenClaim := { program := "ytfkfehlnjcbcbaa", sum := "7e339d373feda2d59bf095256b01c563e494c7c4348a14806b1907490e97b0e1", func := "permitoffice/permitofficelaw33.LineAny", spec := "lineAny", unfollowed := true, recurses := true, apart := false, narrowed := true }
def LineAnyUptoSaid : Prop := lineAnyUptoRow.holds Try.pinned (OpenSpec.upto lineAnySpec)

end Rows
end Go.Proofs.Ytfkfehlnjcbcbaa
