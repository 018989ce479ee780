/-
  NARROWER THAN 'FOR EVERY INPUT', by the rows' own cells (each row's printed sentence says how): EarthingHolds: laid · EarthingInside: laid · EarthingMore: laid · EarthingWays: laid · EarthingUnion: laid.
  DERIVED. THE GIVEN ROWS OF THIS SEAT. 5 by the template 'for every input the law returns true; each argument reads behind the call as it read before'; 0 by the template 'total and deterministic' (their statements: YthgcmeniecaemaaDoorTotals.lean).
  GIVEN WITH THE SEED: the statements are not yours to turn. If you find one false, say at which input.
  Laid BY PROGRAM, IN A SANDBOX (cutbox-rows.mjs): the forced cells as the released guide's own fill.sh prints them over the translation 0775eeb34068b702… (all of the seat's roots in one cut). By AI agents, Wed Nov 11 2026. No macro, syntax, notation, axiom, sorry.
-/
import Derived.Test.YthgcmeniecaemaaDoorChecked
import GoSem.Claim
import GoSem.ClaimJoined
import GoSem.ClaimMapViews
import Derived.JoinedTies
import Derived.KernelRfl
namespace Go.Proofs.YthgcmeniecaemaaDoor
/- THE CELL 'sum', in the pinned program and in every row, IS THE sha256 OF THE DUMP (.gsa) THAT YthgcmeniecaemaaDoorProg.lean LOADS. Nothing in Lean hashes anything: it is a label: what it is worth is what the hold of that sum in a sandbox is worth. -/
noncomputable def Tryd.pinned : Pinned := { name := "ythgcmeniecaemaadoor", sum := "0775eeb34068b70244e8c1d95dc7f6e9cfc2c166f814e5bc2b054e7ab90f5233", checked := Tryd.checked }
namespace Rows
def none {H : Type} : Left H := { results := [], args := [] }

/- WHAT THE LISTED PACKAGE-LEVEL VARIABLES READ AS WHEN THE CALL BEGINS. Each datum BY PROGRAM (the guide's laid-datum.mjs) off the statement by which the dump's own 'gosem.cut.vars' lays the variable. In a bare row this is a premise. The card (YthgcmeniecaemaaDoorCards.lean) ties it to the program's text. -/
def laid_permitoffice_lexeme_classes {H : Type} : DataW H := .agg [.agg [.lit (.int .u8 65), .lit (.int .u8 90), .lit (.bool true)], .agg [.lit (.int .u8 97), .lit (.int .u8 122), .lit (.bool true)], .agg [.lit (.int .u8 48), .lit (.int .u8 57), .lit (.bool false)], .agg [.lit (.int .u8 95), .lit (.int .u8 95), .lit (.bool false)]]

/-- 'permitofficelaw16.EarthingHolds': WHATEVER THE INPUT: true; the input reads as it did. -/
def earthingHoldsSpec : ChangeSpec := { name := "earthingHolds", fn := fun _ => fun
  | [d] => { results := [.lit (.bool true)], args := [d] }
  | _ => none }
def earthingHoldsRow : OpenClaim := { program := "ythgcmeniecaemaadoor", sum := "0775eeb34068b70244e8c1d95dc7f6e9cfc2c166f814e5bc2b054e7ab90f5233", func := "permitoffice/permitofficelaw16.EarthingHolds", spec := "earthingHolds", unfollowed := true, recurses := true, named := ["permitoffice/lexeme.classes"], apart := false, laid := [("permitoffice/lexeme.classes", laid_permitoffice_lexeme_classes)] }
def EarthingHoldsSaid : Prop := earthingHoldsRow.holds Tryd.pinned (OpenSpec.ofChange earthingHoldsSpec)

/-- ITS FALSE NEIGHBOUR: 'it returns false'. Refute it at one input. -/
def earthingHoldsWrong : ChangeSpec := { name := "earthingHolds", fn := fun _ => fun
  | [d] => { results := [.lit (.bool false)], args := [d] }
  | _ => none }
def EarthingHoldsWrongFalsely : Prop := earthingHoldsRow.holds Tryd.pinned (OpenSpec.ofChange earthingHoldsWrong)

/-- 'permitofficelaw16.EarthingInside': WHATEVER THE INPUT: true; the input reads as it did. -/
def earthingInsideSpec : ChangeSpec := { name := "earthingInside", fn := fun _ => fun
  | [d] => { results := [.lit (.bool true)], args := [d] }
  | _ => none }
def earthingInsideRow : OpenClaim := { program := "ythgcmeniecaemaadoor", sum := "0775eeb34068b70244e8c1d95dc7f6e9cfc2c166f814e5bc2b054e7ab90f5233", func := "permitoffice/permitofficelaw16.EarthingInside", spec := "earthingInside", unfollowed := true, recurses := true, named := ["permitoffice/lexeme.classes"], apart := false, laid := [("permitoffice/lexeme.classes", laid_permitoffice_lexeme_classes)] }
def EarthingInsideSaid : Prop := earthingInsideRow.holds Tryd.pinned (OpenSpec.ofChange earthingInsideSpec)

/-- ITS FALSE NEIGHBOUR: 'it returns false'. Refute it at one input. -/
def earthingInsideWrong : ChangeSpec := { name := "earthingInside", fn := fun _ => fun
  | [d] => { results := [.lit (.bool false)], args := [d] }
  | _ => none }
def EarthingInsideWrongFalsely : Prop := earthingInsideRow.holds Tryd.pinned (OpenSpec.ofChange earthingInsideWrong)

/-- 'permitofficelaw16.EarthingMore': WHATEVER THE INPUT: true; the input reads as it did. -/
def earthingMoreSpec : ChangeSpec := { name := "earthingMore", fn := fun _ => fun
  | [d] => { results := [.lit (.bool true)], args := [d] }
  | _ => none }
def earthingMoreRow : OpenClaim := { program := "ythgcmeniecaemaadoor", sum := "0775eeb34068b70244e8c1d95dc7f6e9cfc2c166f814e5bc2b054e7ab90f5233", func := "permitoffice/permitofficelaw16.EarthingMore", spec := "earthingMore", unfollowed := true, recurses := true, named := ["permitoffice/lexeme.classes"], apart := false, laid := [("permitoffice/lexeme.classes", laid_permitoffice_lexeme_classes)] }
def EarthingMoreSaid : Prop := earthingMoreRow.holds Tryd.pinned (OpenSpec.ofChange earthingMoreSpec)

/-- ITS FALSE NEIGHBOUR: 'it returns false'. Refute it at one input. -/
def earthingMoreWrong : ChangeSpec := { name := "earthingMore", fn := fun _ => fun
  | [d] => { results := [.lit (.bool false)], args := [d] }
  | _ => none }
def EarthingMoreWrongFalsely : Prop := earthingMoreRow.holds Tryd.pinned (OpenSpec.ofChange earthingMoreWrong)

/-- 'permitofficelaw16.EarthingWays': WHATEVER THE INPUT: true; the input reads as it did. -/
def earthingWaysSpec : ChangeSpec := { name := "earthingWays", fn := fun _ => fun
  | [d] => { results := [.lit (.bool true)], args := [d] }
  | _ => none }
def earthingWaysRow : OpenClaim := { program := "ythgcmeniecaemaadoor", sum := "0775eeb34068b70244e8c1d95dc7f6e9cfc2c166f814e5bc2b054e7ab90f5233", func := "permitoffice/permitofficelaw16.EarthingWays", spec := "earthingWays", unfollowed := true, recurses := true, named := ["permitoffice/lexeme.classes"], apart := false, laid := [("permitoffice/lexeme.classes", laid_permitoffice_lexeme_classes)] }
def EarthingWaysSaid : Prop := earthingWaysRow.holds Tryd.pinned (OpenSpec.ofChange earthingWaysSpec)

/-- ITS FALSE NEIGHBOUR: 'it returns false'. Refute it at one input. -/
def earthingWaysWrong : ChangeSpec := { name := "earthingWays", fn := fun _ => fun
  | [d] => { results := [.lit (.bool false)], args := [d] }
  | _ => none }
def EarthingWaysWrongFalsely : Prop := earthingWaysRow.holds Tryd.pinned (OpenSpec.ofChange earthingWaysWrong)

/-- 'permitofficelaw16.EarthingUnion': WHATEVER THE INPUT: true; the input reads as it did. -/
def earthingUnionSpec : ChangeSpec := { name := "earthingUnion", fn := fun _ => fun
  | [d] => { results := [.lit (.bool true)], args := [d] }
  | _ => none }
def earthingUnionRow : OpenClaim := { program := "ythgcmeniecaemaadoor", sum := "0775eeb34068b70244e8c1d95dc7f6e9cfc2c166f814e5bc2b054e7ab90f5233", func := "permitoffice/permitofficelaw16.EarthingUnion", spec := "earthingUnion", unfollowed := true, recurses := true, named := ["permitoffice/lexeme.classes"], apart := false, laid := [("permitoffice/lexeme.classes", laid_permitoffice_lexeme_classes)] }
def EarthingUnionSaid : Prop := earthingUnionRow.holds Tryd.pinned (OpenSpec.ofChange earthingUnionSpec)

/-- ITS FALSE NEIGHBOUR: 'it returns false'. Refute it at one input. -/
def earthingUnionWrong : ChangeSpec := { name := "earthingUnion", fn := fun _ => fun
  | [d] => { results := [.lit (.bool false)], args := [d] }
  | _ => none }
def EarthingUnionWrongFalsely : Prop := earthingUnionRow.holds Tryd.pinned (OpenSpec.ofChange earthingUnionWrong)

/- THE SECOND FORM. 'bulk': how many values and letters a reading holds, each counted each time it is reached (what is shared counts as often as it is met; a slice's spare places count too). A statement '..UptoSaid' is the law's where the arguments, and the package variables that the reading takes, are together of bulk at most 1048576: NARROWER than '..Said'. Prove '..Said' where nothing that the law and all that it calls make is longer than what came in: it says more and counts as full. Else prove '..UptoSaid'. A law counts once. -/
mutual
def uptoBulk {H : Type} : DataW H → Nat
  | .lit (.string bytes) => bytes.length + 1
  | .lit _ => 1
  | .nil => 1
  | .ptr d => uptoBulk d + 1
  | .slice elems spare => uptoBulkAll elems + uptoBulkAll spare + 1
  | .agg parts => uptoBulkAll parts + 1
  | .iface _ d => uptoBulk d + 1
  | .map entries => uptoBulkEntries entries + 1
  | .held _ => 1
def uptoBulkAll {H : Type} : List (DataW H) → Nat
  | [] => 0
  | d :: r => uptoBulk d + uptoBulkAll r
def uptoBulkEntries {H : Type} : List (Lit × DataW H) → Nat
  | [] => 0
  | x :: r => uptoBulkEntry x + uptoBulkEntries r
def uptoBulkEntry {H : Type} : Lit × DataW H → Nat
  | (.string bytes, d) => bytes.length + uptoBulk d + 1
  | (_, d) => uptoBulk d + 1
 end
def uptoSmall : (H : Type) → List (DataW H) → Bool := fun _ ds => decide (uptoBulkAll ds ≤ 1048576)
def OpenSpec.upto (s : _root_.Go.ChangeSpec) : _root_.Go.OpenSpec := { _root_.Go.OpenSpec.ofChange s with cond := some uptoSmall }

/-- 'permitofficelaw16.EarthingHolds', WHERE WHAT IT READS IS OF BULK AT MOST 1048576: true; the input reads as it did. -/
def earthingHoldsUptoRow : OpenClaim := { program := "ythgcmeniecaemaadoor", sum := "0775eeb34068b70244e8c1d95dc7f6e9cfc2c166f814e5bc2b054e7ab90f5233", func := "permitoffice/permitofficelaw16.EarthingHolds", spec := "earthingHolds", unfollowed := true, recurses := true, named := ["permitoffice/lexeme.classes"], apart := false, laid := [("permitoffice/lexeme.classes", laid_permitoffice_lexeme_classes)], narrowed := true }
def EarthingHoldsUptoSaid : Prop := earthingHoldsUptoRow.holds Tryd.pinned (OpenSpec.upto earthingHoldsSpec)

/-- 'permitofficelaw16.EarthingInside', WHERE WHAT IT READS IS OF BULK AT MOST 1048576: true; the input reads as it did. -/
def earthingInsideUptoRow : OpenClaim := { program := "ythgcmeniecaemaadoor", sum := "0775eeb34068b70244e8c1d95dc7f6e9cfc2c166f814e5bc2b054e7ab90f5233", func := "permitoffice/permitofficelaw16.EarthingInside", spec := "earthingInside", unfollowed := true, recurses := true, named := ["permitoffice/lexeme.classes"], apart := false, laid := [("permitoffice/lexeme.classes", laid_permitoffice_lexeme_classes)], narrowed := true }
def EarthingInsideUptoSaid : Prop := earthingInsideUptoRow.holds Tryd.pinned (OpenSpec.upto earthingInsideSpec)

/-- 'permitofficelaw16.EarthingMore', WHERE WHAT IT READS IS OF BULK AT MOST 1048576: true; the input reads as it did. -/
def earthingMoreUptoRow : OpenClaim := { program := "ythgcmeniecaemaadoor", sum := "0775eeb34068b70244e8c1d95dc7f6e9cfc2c166f814e5bc2b054e7ab90f5233", func := "permitoffice/permitofficelaw16.EarthingMore", spec := "earthingMore", unfollowed := true, recurses := true, named := ["permitoffice/lexeme.classes"], apart := false, laid := [("permitoffice/lexeme.classes", laid_permitoffice_lexeme_classes)], narrowed := true }
def EarthingMoreUptoSaid : Prop := earthingMoreUptoRow.holds Tryd.pinned (OpenSpec.upto earthingMoreSpec)

/-- 'permitofficelaw16.EarthingWays', WHERE WHAT IT READS IS OF BULK AT MOST 1048576: true; the input reads as it did. -/
def earthingWaysUptoRow : OpenClaim := { program := "ythgcmeniecaemaadoor", sum := "0775eeb34068b70244e8c1d95dc7f6e9cfc2c166f814e5bc2b054e7ab90f5233", func := "permitoffice/permitofficelaw16.EarthingWays", spec := "earthingWays", unfollowed := true, recurses := true, named := ["permitoffice/lexeme.classes"], apart := false, laid := [("permitoffice/lexeme.classes", laid_permitoffice_lexeme_classes)], narrowed := true }
def EarthingWaysUptoSaid : Prop := earthingWaysUptoRow.holds Tryd.pinned (OpenSpec.upto earthingWaysSpec)

/-- 'permitofficelaw16.EarthingUnion', WHERE WHAT IT READS IS OF BULK AT MOST 1048576: true; the input reads as it did. -/
def earthingUnionUptoRow : OpenClaim := { program := "ythgcmeniecaemaadoor", sum := "0775eeb34068b70244e8c1d95dc7f6e9cfc2c166f814e5bc2b054e7ab90f5233", func := "permitoffice/permitofficelaw16.EarthingUnion", spec := "earthingUnion", unfollowed := true, recurses := true, named := ["permitoffice/lexeme.classes"], apart := false, laid := [("permitoffice/lexeme.classes", laid_permitoffice_lexeme_classes)], narrowed := true }
def EarthingUnionUptoSaid : Prop := earthingUnionUptoRow.holds Tryd.pinned (OpenSpec.upto earthingUnionSpec)

end Rows
end Go.Proofs.YthgcmeniecaemaaDoor
