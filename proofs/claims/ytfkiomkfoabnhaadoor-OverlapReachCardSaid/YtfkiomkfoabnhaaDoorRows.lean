/-
  NARROWER THAN 'FOR EVERY INPUT', by the rows' own cells (each row's printed sentence says how): BoundaryWhole: laid · OverlapMutual: laid · OverlapShrinks: laid · OverlapReach: laid · OverlapExact: laid · OverlapClear: laid.
  DERIVED. THE GIVEN ROWS OF THIS SEAT. 6 by the template 'for every input the law returns true; each argument reads behind the call as it read before'; 0 by the template 'total and deterministic' (their statements: YtfkiomkfoabnhaaDoorTotals.lean).
  GIVEN WITH THE SEED: the statements are not yours to turn. If you find one false, say at which input.
  Laid BY PROGRAM, IN A SANDBOX (cutbox-rows.mjs): the forced cells as the released guide's own fill.sh prints them over the translation c54e5b5a638a9bb9… (all of the seat's roots in one cut). By AI agents, Wed Nov 11 2026. No macro, syntax, notation, axiom, sorry.
-/
import Derived.Test.YtfkiomkfoabnhaaDoorChecked
import GoSem.Claim
import GoSem.ClaimJoined
import GoSem.ClaimMapViews
import Derived.JoinedTies
import Derived.KernelRfl
namespace Go.Proofs.YtfkiomkfoabnhaaDoor
/- THE CELL 'sum', in the pinned program and in every row, IS THE sha256 OF THE DUMP (.gsa) THAT YtfkiomkfoabnhaaDoorProg.lean LOADS. Nothing in Lean hashes anything: it is a label: what it is worth is what the hold of that sum in a sandbox is worth. -/
noncomputable def Tryd.pinned : Pinned := { name := "ytfkiomkfoabnhaadoor", sum := "c54e5b5a638a9bb9f2cb25a684257195d432f2ce51c202366d90c80f75011d12", checked := Tryd.checked }
namespace Rows
def none {H : Type} : Left H := { results := [], args := [] }

/- WHAT THE LISTED PACKAGE-LEVEL VARIABLES READ AS WHEN THE CALL BEGINS. Each datum BY PROGRAM (the guide's laid-datum.mjs) off the statement by which the dump's own 'gosem.cut.vars' lays the variable. In a bare row this is a premise. The card (YtfkiomkfoabnhaaDoorCards.lean) ties it to the program's text. -/
def laid_permitoffice_lexeme_classes {H : Type} : DataW H := .agg [.agg [.lit (.int .u8 65), .lit (.int .u8 90), .lit (.bool true)], .agg [.lit (.int .u8 97), .lit (.int .u8 122), .lit (.bool true)], .agg [.lit (.int .u8 48), .lit (.int .u8 57), .lit (.bool false)], .agg [.lit (.int .u8 95), .lit (.int .u8 95), .lit (.bool false)]]

/-- 'permitofficelaw35.BoundaryWhole': WHATEVER THE INPUT: true; the input reads as it did. -/
def boundaryWholeSpec : ChangeSpec := { name := "boundaryWhole", fn := fun _ => fun
  | [d] => { results := [.lit (.bool true)], args := [d] }
  | _ => none }
def boundaryWholeRow : OpenClaim := { program := "ytfkiomkfoabnhaadoor", sum := "c54e5b5a638a9bb9f2cb25a684257195d432f2ce51c202366d90c80f75011d12", func := "permitoffice/permitofficelaw35.BoundaryWhole", spec := "boundaryWhole", unfollowed := true, recurses := true, named := ["permitoffice/lexeme.classes"], apart := false, laid := [("permitoffice/lexeme.classes", laid_permitoffice_lexeme_classes)] }
def BoundaryWholeSaid : Prop := boundaryWholeRow.holds Tryd.pinned (OpenSpec.ofChange boundaryWholeSpec)

/-- ITS FALSE NEIGHBOUR: 'it returns false'. Refute it at one input. -/
def boundaryWholeWrong : ChangeSpec := { name := "boundaryWhole", fn := fun _ => fun
  | [d] => { results := [.lit (.bool false)], args := [d] }
  | _ => none }
def BoundaryWholeWrongFalsely : Prop := boundaryWholeRow.holds Tryd.pinned (OpenSpec.ofChange boundaryWholeWrong)

/-- 'permitofficelaw27.OverlapMutual': WHATEVER THE INPUT: true; the input reads as it did. -/
def overlapMutualSpec : ChangeSpec := { name := "overlapMutual", fn := fun _ => fun
  | [d] => { results := [.lit (.bool true)], args := [d] }
  | _ => none }
def overlapMutualRow : OpenClaim := { program := "ytfkiomkfoabnhaadoor", sum := "c54e5b5a638a9bb9f2cb25a684257195d432f2ce51c202366d90c80f75011d12", func := "permitoffice/permitofficelaw27.OverlapMutual", spec := "overlapMutual", unfollowed := true, recurses := true, named := ["permitoffice/lexeme.classes"], apart := false, laid := [("permitoffice/lexeme.classes", laid_permitoffice_lexeme_classes)] }
def OverlapMutualSaid : Prop := overlapMutualRow.holds Tryd.pinned (OpenSpec.ofChange overlapMutualSpec)

/-- ITS FALSE NEIGHBOUR: 'it returns false'. Refute it at one input. -/
def overlapMutualWrong : ChangeSpec := { name := "overlapMutual", fn := fun _ => fun
  | [d] => { results := [.lit (.bool false)], args := [d] }
  | _ => none }
def OverlapMutualWrongFalsely : Prop := overlapMutualRow.holds Tryd.pinned (OpenSpec.ofChange overlapMutualWrong)

/-- 'permitofficelaw27.OverlapShrinks': WHATEVER THE INPUT: true; the input reads as it did. -/
def overlapShrinksSpec : ChangeSpec := { name := "overlapShrinks", fn := fun _ => fun
  | [d] => { results := [.lit (.bool true)], args := [d] }
  | _ => none }
def overlapShrinksRow : OpenClaim := { program := "ytfkiomkfoabnhaadoor", sum := "c54e5b5a638a9bb9f2cb25a684257195d432f2ce51c202366d90c80f75011d12", func := "permitoffice/permitofficelaw27.OverlapShrinks", spec := "overlapShrinks", unfollowed := true, recurses := true, named := ["permitoffice/lexeme.classes"], apart := false, laid := [("permitoffice/lexeme.classes", laid_permitoffice_lexeme_classes)] }
def OverlapShrinksSaid : Prop := overlapShrinksRow.holds Tryd.pinned (OpenSpec.ofChange overlapShrinksSpec)

/-- ITS FALSE NEIGHBOUR: 'it returns false'. Refute it at one input. -/
def overlapShrinksWrong : ChangeSpec := { name := "overlapShrinks", fn := fun _ => fun
  | [d] => { results := [.lit (.bool false)], args := [d] }
  | _ => none }
def OverlapShrinksWrongFalsely : Prop := overlapShrinksRow.holds Tryd.pinned (OpenSpec.ofChange overlapShrinksWrong)

/-- 'permitofficelaw27.OverlapReach': WHATEVER THE INPUT: true; the input reads as it did. -/
def overlapReachSpec : ChangeSpec := { name := "overlapReach", fn := fun _ => fun
  | [d] => { results := [.lit (.bool true)], args := [d] }
  | _ => none }
def overlapReachRow : OpenClaim := { program := "ytfkiomkfoabnhaadoor", sum := "c54e5b5a638a9bb9f2cb25a684257195d432f2ce51c202366d90c80f75011d12", func := "permitoffice/permitofficelaw27.OverlapReach", spec := "overlapReach", unfollowed := true, recurses := true, named := ["permitoffice/lexeme.classes"], apart := false, laid := [("permitoffice/lexeme.classes", laid_permitoffice_lexeme_classes)] }
def OverlapReachSaid : Prop := overlapReachRow.holds Tryd.pinned (OpenSpec.ofChange overlapReachSpec)

/-- ITS FALSE NEIGHBOUR: 'it returns false'. Refute it at one input. -/
def overlapReachWrong : ChangeSpec := { name := "overlapReach", fn := fun _ => fun
  | [d] => { results := [.lit (.bool false)], args := [d] }
  | _ => none }
def OverlapReachWrongFalsely : Prop := overlapReachRow.holds Tryd.pinned (OpenSpec.ofChange overlapReachWrong)

/-- 'permitofficelaw27.OverlapExact': WHATEVER THE INPUT: true; the input reads as it did. -/
def overlapExactSpec : ChangeSpec := { name := "overlapExact", fn := fun _ => fun
  | [d1, d2] => { results := [.lit (.bool true)], args := [d1, d2] }
  | _ => none }
def overlapExactRow : OpenClaim := { program := "ytfkiomkfoabnhaadoor", sum := "c54e5b5a638a9bb9f2cb25a684257195d432f2ce51c202366d90c80f75011d12", func := "permitoffice/permitofficelaw27.OverlapExact", spec := "overlapExact", unfollowed := true, recurses := true, named := ["permitoffice/lexeme.classes"], apart := false, laid := [("permitoffice/lexeme.classes", laid_permitoffice_lexeme_classes)] }
def OverlapExactSaid : Prop := overlapExactRow.holds Tryd.pinned (OpenSpec.ofChange overlapExactSpec)

/-- ITS FALSE NEIGHBOUR: 'it returns false'. Refute it at one input. -/
def overlapExactWrong : ChangeSpec := { name := "overlapExact", fn := fun _ => fun
  | [d1, d2] => { results := [.lit (.bool false)], args := [d1, d2] }
  | _ => none }
def OverlapExactWrongFalsely : Prop := overlapExactRow.holds Tryd.pinned (OpenSpec.ofChange overlapExactWrong)

/-- 'permitofficelaw27.OverlapClear': WHATEVER THE INPUT: true; the input reads as it did. -/
def overlapClearSpec : ChangeSpec := { name := "overlapClear", fn := fun _ => fun
  | [d] => { results := [.lit (.bool true)], args := [d] }
  | _ => none }
def overlapClearRow : OpenClaim := { program := "ytfkiomkfoabnhaadoor", sum := "c54e5b5a638a9bb9f2cb25a684257195d432f2ce51c202366d90c80f75011d12", func := "permitoffice/permitofficelaw27.OverlapClear", spec := "overlapClear", unfollowed := true, recurses := true, named := ["permitoffice/lexeme.classes"], apart := false, laid := [("permitoffice/lexeme.classes", laid_permitoffice_lexeme_classes)] }
def OverlapClearSaid : Prop := overlapClearRow.holds Tryd.pinned (OpenSpec.ofChange overlapClearSpec)

/-- ITS FALSE NEIGHBOUR: 'it returns false'. Refute it at one input. -/
def overlapClearWrong : ChangeSpec := { name := "overlapClear", fn := fun _ => fun
  | [d] => { results := [.lit (.bool false)], args := [d] }
  | _ => none }
def OverlapClearWrongFalsely : Prop := overlapClearRow.holds Tryd.pinned (OpenSpec.ofChange overlapClearWrong)

/- THE SECOND FORM. 'bulk': how many values and letters a reading holds, each counted each time it is reached (what is shared counts as often as it is met; a slice's spare places count too). A statement '..UptoSaid' is the law's where the arguments, and the package variables that the reading takes, are together of bulk at most 1048576: NARROWER than '..Said'. Prove '..Said' where nothing that the law and all that it calls make is longer than what came in: it says more and counts as full. Else prove '..UptoSaid'. A law counts once. -/
mutual
def uptoBulk {H : Type} : DataW H → Nat
  | .lit (.string bytes) => bytes.length + 1
  | .lit _ => 1
  | .nil => 1
  | .ptr d => uptoBulk d + 1
  | .slice elems spare => uptoBulkAll elems + uptoBulkAll spare + 1
  | .agg parts => uptoBulkAll parts + 1
  | .iface _ d => uptoBulk d + 1
  | .map entries => uptoBulkEntries entries + 1
  | .held _ => 1
def uptoBulkAll {H : Type} : List (DataW H) → Nat
  | [] => 0
  | d :: r => uptoBulk d + uptoBulkAll r
def uptoBulkEntries {H : Type} : List (Lit × DataW H) → Nat
  | [] => 0
  | x :: r => uptoBulkEntry x + uptoBulkEntries r
def uptoBulkEntry {H : Type} : Lit × DataW H → Nat
  | (.string bytes, d) => bytes.length + uptoBulk d + 1
  | (_, d) => uptoBulk d + 1
 end
def uptoSmall : (H : Type) → List (DataW H) → Bool := fun _ ds => decide (uptoBulkAll ds ≤ 1048576)
def OpenSpec.upto (s : _root_.Go.ChangeSpec) : _root_.Go.OpenSpec := { _root_.Go.OpenSpec.ofChange s with cond := some uptoSmall }

/-- 'permitofficelaw35.BoundaryWhole', WHERE WHAT IT READS IS OF BULK AT MOST 1048576: true; the input reads as it did. -/
def boundaryWholeUptoRow : OpenClaim := { program := "ytfkiomkfoabnhaadoor", sum := "c54e5b5a638a9bb9f2cb25a684257195d432f2ce51c202366d90c80f75011d12", func := "permitoffice/permitofficelaw35.BoundaryWhole", spec := "boundaryWhole", unfollowed := true, recurses := true, named := ["permitoffice/lexeme.classes"], apart := false, laid := [("permitoffice/lexeme.classes", laid_permitoffice_lexeme_classes)], narrowed := true }
def BoundaryWholeUptoSaid : Prop := boundaryWholeUptoRow.holds Tryd.pinned (OpenSpec.upto boundaryWholeSpec)

/-- 'permitofficelaw27.OverlapMutual', WHERE WHAT IT READS IS OF BULK AT MOST 1048576: true; the input reads as it did. -/
def overlapMutualUptoRow : OpenClaim := { program := "ytfkiomkfoabnhaadoor", sum := "c54e5b5a638a9bb9f2cb25a684257195d432f2ce51c202366d90c80f75011d12", func := "permitoffice/permitofficelaw27.OverlapMutual", spec := "overlapMutual", unfollowed := true, recurses := true, named := ["permitoffice/lexeme.classes"], apart := false, laid := [("permitoffice/lexeme.classes", laid_permitoffice_lexeme_classes)], narrowed := true }
def OverlapMutualUptoSaid : Prop := overlapMutualUptoRow.holds Tryd.pinned (OpenSpec.upto overlapMutualSpec)

/-- 'permitofficelaw27.OverlapShrinks', WHERE WHAT IT READS IS OF BULK AT MOST 1048576: true; the input reads as it did. -/
def overlapShrinksUptoRow : OpenClaim := { program := "ytfkiomkfoabnhaadoor", sum := "c54e5b5a638a9bb9f2cb25a684257195d432f2ce51c202366d90c80f75011d12", func := "permitoffice/permitofficelaw27.OverlapShrinks", spec := "overlapShrinks", unfollowed := true, recurses := true, named := ["permitoffice/lexeme.classes"], apart := false, laid := [("permitoffice/lexeme.classes", laid_permitoffice_lexeme_classes)], narrowed := true }
def OverlapShrinksUptoSaid : Prop := overlapShrinksUptoRow.holds Tryd.pinned (OpenSpec.upto overlapShrinksSpec)

/-- 'permitofficelaw27.OverlapReach', WHERE WHAT IT READS IS OF BULK AT MOST 1048576: true; the input reads as it did. -/
def overlapReachUptoRow : OpenClaim := { program := "ytfkiomkfoabnhaadoor", sum := "c54e5b5a638a9bb9f2cb25a684257195d432f2ce51c202366d90c80f75011d12", func := "permitoffice/permitofficelaw27.OverlapReach", spec := "overlapReach", unfollowed := true, recurses := true, named := ["permitoffice/lexeme.classes"], apart := false, laid := [("permitoffice/lexeme.classes", laid_permitoffice_lexeme_classes)], narrowed := true }
def OverlapReachUptoSaid : Prop := overlapReachUptoRow.holds Tryd.pinned (OpenSpec.upto overlapReachSpec)

/-- 'permitofficelaw27.OverlapExact', WHERE WHAT IT READS IS OF BULK AT MOST 1048576: true; the input reads as it did. -/
def overlapExactUptoRow : OpenClaim := { program := "ytfkiomkfoabnhaadoor", sum := "c54e5b5a638a9bb9f2cb25a684257195d432f2ce51c202366d90c80f75011d12", func := "permitoffice/permitofficelaw27.OverlapExact", spec := "overlapExact", unfollowed := true, recurses := true, named := ["permitoffice/lexeme.classes"], apart := false, laid := [("permitoffice/lexeme.classes", laid_permitoffice_lexeme_classes)], narrowed := true }
def OverlapExactUptoSaid : Prop := overlapExactUptoRow.holds Tryd.pinned (OpenSpec.upto overlapExactSpec)

/-- 'permitofficelaw27.OverlapClear', WHERE WHAT IT READS IS OF BULK AT MOST 1048576: true; the input reads as it did. -/
def overlapClearUptoRow : OpenClaim := { program := "ytfkiomkfoabnhaadoor", sum := "c54e5b5a638a9bb9f2cb25a684257195d432f2ce51c202366d90c80f75011d12", func := "permitoffice/permitofficelaw27.OverlapClear", spec := "overlapClear", unfollowed := true, recurses := true, named := ["permitoffice/lexeme.classes"], apart := false, laid := [("permitoffice/lexeme.classes", laid_permitoffice_lexeme_classes)], narrowed := true }
def OverlapClearUptoSaid : Prop := overlapClearUptoRow.holds Tryd.pinned (OpenSpec.upto overlapClearSpec)

end Rows
end Go.Proofs.YtfkiomkfoabnhaaDoor
