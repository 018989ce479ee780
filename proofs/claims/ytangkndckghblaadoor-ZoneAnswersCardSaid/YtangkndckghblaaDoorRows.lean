/-
  NARROWER THAN 'FOR EVERY INPUT', by the rows' own cells (each row's printed sentence says how): ZoneNearest: laid · ZoneMore: laid · ZoneDead: laid · ZoneUnion: laid · ZoneAnswers: laid · ZonePoints: laid.
  DERIVED. THE GIVEN ROWS OF THIS SEAT. 6 by the template 'for every input the law returns true; each argument reads behind the call as it read before'; 0 by the template 'total and deterministic' (their statements: YtangkndckghblaaDoorTotals.lean).
  GIVEN WITH THE SEED: the statements are not yours to turn. If you find one false, say at which input.
  Laid BY PROGRAM, IN A SANDBOX (cutbox-rows.mjs): the forced cells as the released guide's own fill.sh prints them over the translation 991eaefbb031f9e0… (all of the seat's roots in one cut). By AI agents, Wed Nov 11 2026. No macro, syntax, notation, axiom, sorry.
-/
import Derived.Test.YtangkndckghblaaDoorChecked
import GoSem.Claim
import GoSem.ClaimJoined
import GoSem.ClaimMapViews
import Derived.JoinedTies
import Derived.KernelRfl
namespace Go.Proofs.YtangkndckghblaaDoor
/- THE CELL 'sum', in the pinned program and in every row, IS THE sha256 OF THE DUMP (.gsa) THAT YtangkndckghblaaDoorProg.lean LOADS. Nothing in Lean hashes anything: it is a label: what it is worth is what the hold of that sum in a sandbox is worth. -/
noncomputable def Tryd.pinned : Pinned := { name := "ytangkndckghblaadoor", sum := "991eaefbb031f9e00b9532ff18346fcb644d6215b6462e1a1c08f59dd270ecd7", checked := Tryd.checked }
namespace Rows
def none {H : Type} : Left H := { results := [], args := [] }

/- WHAT THE LISTED PACKAGE-LEVEL VARIABLES READ AS WHEN THE CALL BEGINS. Each datum BY PROGRAM (the guide's laid-datum.mjs) off the statement by which the dump's own 'gosem.cut.vars' lays the variable. In a bare row this is a premise. The card (YtangkndckghblaaDoorCards.lean) ties it to the program's text. -/
def laid_permitoffice_lexeme_classes {H : Type} : DataW H := .agg [.agg [.lit (.int .u8 65), .lit (.int .u8 90), .lit (.bool true)], .agg [.lit (.int .u8 97), .lit (.int .u8 122), .lit (.bool true)], .agg [.lit (.int .u8 48), .lit (.int .u8 57), .lit (.bool false)], .agg [.lit (.int .u8 95), .lit (.int .u8 95), .lit (.bool false)]]

/-- 'permitofficelaw15.ZoneNearest': WHATEVER THE INPUT: true; the input reads as it did. -/
def zoneNearestSpec : ChangeSpec := { name := "zoneNearest", fn := fun _ => fun
  | [d] => { results := [.lit (.bool true)], args := [d] }
  | _ => none }
def zoneNearestRow : OpenClaim := { program := "ytangkndckghblaadoor", sum := "991eaefbb031f9e00b9532ff18346fcb644d6215b6462e1a1c08f59dd270ecd7", func := "permitoffice/permitofficelaw15.ZoneNearest", spec := "zoneNearest", unfollowed := true, recurses := true, named := ["permitoffice/lexeme.classes"], apart := false, laid := [("permitoffice/lexeme.classes", laid_permitoffice_lexeme_classes)] }
def ZoneNearestSaid : Prop := zoneNearestRow.holds Tryd.pinned (OpenSpec.ofChange zoneNearestSpec)

/-- ITS FALSE NEIGHBOUR: 'it returns false'. Refute it at one input. -/
def zoneNearestWrong : ChangeSpec := { name := "zoneNearest", fn := fun _ => fun
  | [d] => { results := [.lit (.bool false)], args := [d] }
  | _ => none }
def ZoneNearestWrongFalsely : Prop := zoneNearestRow.holds Tryd.pinned (OpenSpec.ofChange zoneNearestWrong)

/-- 'permitofficelaw15.ZoneMore': WHATEVER THE INPUT: true; the input reads as it did. -/
def zoneMoreSpec : ChangeSpec := { name := "zoneMore", fn := fun _ => fun
  | [d] => { results := [.lit (.bool true)], args := [d] }
  | _ => none }
def zoneMoreRow : OpenClaim := { program := "ytangkndckghblaadoor", sum := "991eaefbb031f9e00b9532ff18346fcb644d6215b6462e1a1c08f59dd270ecd7", func := "permitoffice/permitofficelaw15.ZoneMore", spec := "zoneMore", unfollowed := true, recurses := true, named := ["permitoffice/lexeme.classes"], apart := false, laid := [("permitoffice/lexeme.classes", laid_permitoffice_lexeme_classes)] }
def ZoneMoreSaid : Prop := zoneMoreRow.holds Tryd.pinned (OpenSpec.ofChange zoneMoreSpec)

/-- ITS FALSE NEIGHBOUR: 'it returns false'. Refute it at one input. -/
def zoneMoreWrong : ChangeSpec := { name := "zoneMore", fn := fun _ => fun
  | [d] => { results := [.lit (.bool false)], args := [d] }
  | _ => none }
def ZoneMoreWrongFalsely : Prop := zoneMoreRow.holds Tryd.pinned (OpenSpec.ofChange zoneMoreWrong)

/-- 'permitofficelaw15.ZoneDead': WHATEVER THE INPUT: true; the input reads as it did. -/
def zoneDeadSpec : ChangeSpec := { name := "zoneDead", fn := fun _ => fun
  | [d] => { results := [.lit (.bool true)], args := [d] }
  | _ => none }
def zoneDeadRow : OpenClaim := { program := "ytangkndckghblaadoor", sum := "991eaefbb031f9e00b9532ff18346fcb644d6215b6462e1a1c08f59dd270ecd7", func := "permitoffice/permitofficelaw15.ZoneDead", spec := "zoneDead", unfollowed := true, recurses := true, named := ["permitoffice/lexeme.classes"], apart := false, laid := [("permitoffice/lexeme.classes", laid_permitoffice_lexeme_classes)] }
def ZoneDeadSaid : Prop := zoneDeadRow.holds Tryd.pinned (OpenSpec.ofChange zoneDeadSpec)

/-- ITS FALSE NEIGHBOUR: 'it returns false'. Refute it at one input. -/
def zoneDeadWrong : ChangeSpec := { name := "zoneDead", fn := fun _ => fun
  | [d] => { results := [.lit (.bool false)], args := [d] }
  | _ => none }
def ZoneDeadWrongFalsely : Prop := zoneDeadRow.holds Tryd.pinned (OpenSpec.ofChange zoneDeadWrong)

/-- 'permitofficelaw15.ZoneUnion': WHATEVER THE INPUT: true; the input reads as it did. -/
def zoneUnionSpec : ChangeSpec := { name := "zoneUnion", fn := fun _ => fun
  | [d] => { results := [.lit (.bool true)], args := [d] }
  | _ => none }
def zoneUnionRow : OpenClaim := { program := "ytangkndckghblaadoor", sum := "991eaefbb031f9e00b9532ff18346fcb644d6215b6462e1a1c08f59dd270ecd7", func := "permitoffice/permitofficelaw15.ZoneUnion", spec := "zoneUnion", unfollowed := true, recurses := true, named := ["permitoffice/lexeme.classes"], apart := false, laid := [("permitoffice/lexeme.classes", laid_permitoffice_lexeme_classes)] }
def ZoneUnionSaid : Prop := zoneUnionRow.holds Tryd.pinned (OpenSpec.ofChange zoneUnionSpec)

/-- ITS FALSE NEIGHBOUR: 'it returns false'. Refute it at one input. -/
def zoneUnionWrong : ChangeSpec := { name := "zoneUnion", fn := fun _ => fun
  | [d] => { results := [.lit (.bool false)], args := [d] }
  | _ => none }
def ZoneUnionWrongFalsely : Prop := zoneUnionRow.holds Tryd.pinned (OpenSpec.ofChange zoneUnionWrong)

/-- 'permitofficelaw15.ZoneAnswers': WHATEVER THE INPUT: true; the input reads as it did. -/
def zoneAnswersSpec : ChangeSpec := { name := "zoneAnswers", fn := fun _ => fun
  | [d1, d2, d3, d4, d5] => { results := [.lit (.bool true)], args := [d1, d2, d3, d4, d5] }
  | _ => none }
def zoneAnswersRow : OpenClaim := { program := "ytangkndckghblaadoor", sum := "991eaefbb031f9e00b9532ff18346fcb644d6215b6462e1a1c08f59dd270ecd7", func := "permitoffice/permitofficelaw15.ZoneAnswers", spec := "zoneAnswers", unfollowed := true, recurses := true, named := ["permitoffice/lexeme.classes"], apart := false, laid := [("permitoffice/lexeme.classes", laid_permitoffice_lexeme_classes)] }
def ZoneAnswersSaid : Prop := zoneAnswersRow.holds Tryd.pinned (OpenSpec.ofChange zoneAnswersSpec)

/-- ITS FALSE NEIGHBOUR: 'it returns false'. Refute it at one input. -/
def zoneAnswersWrong : ChangeSpec := { name := "zoneAnswers", fn := fun _ => fun
  | [d1, d2, d3, d4, d5] => { results := [.lit (.bool false)], args := [d1, d2, d3, d4, d5] }
  | _ => none }
def ZoneAnswersWrongFalsely : Prop := zoneAnswersRow.holds Tryd.pinned (OpenSpec.ofChange zoneAnswersWrong)

/-- 'permitofficelaw15.ZonePoints': WHATEVER THE INPUT: true; the input reads as it did. -/
def zonePointsSpec : ChangeSpec := { name := "zonePoints", fn := fun _ => fun
  | [d] => { results := [.lit (.bool true)], args := [d] }
  | _ => none }
def zonePointsRow : OpenClaim := { program := "ytangkndckghblaadoor", sum := "991eaefbb031f9e00b9532ff18346fcb644d6215b6462e1a1c08f59dd270ecd7", func := "permitoffice/permitofficelaw15.ZonePoints", spec := "zonePoints", unfollowed := true, recurses := true, named := ["permitoffice/lexeme.classes"], apart := false, laid := [("permitoffice/lexeme.classes", laid_permitoffice_lexeme_classes)] }
def ZonePointsSaid : Prop := zonePointsRow.holds Tryd.pinned (OpenSpec.ofChange zonePointsSpec)

/-- ITS FALSE NEIGHBOUR: 'it returns false'. Refute it at one input. -/
def zonePointsWrong : ChangeSpec := { name := "zonePoints", fn := fun _ => fun
  | [d] => { results := [.lit (.bool false)], args := [d] }
  | _ => none }
def ZonePointsWrongFalsely : Prop := zonePointsRow.holds Tryd.pinned (OpenSpec.ofChange zonePointsWrong)

/- THE SECOND FORM. 'bulk': how many values and letters a reading holds, each counted each time it is reached (what is shared counts as often as it is met; a slice's spare places count too). A statement '..UptoSaid' is the law's where the arguments, and the package variables that the reading takes, are together of bulk at most 1048576: NARROWER than '..Said'. Prove '..Said' where nothing that the law and all that it calls make is longer than what came in: it says more and counts as full. Else prove '..UptoSaid'. A law counts once. -/
mutual
def uptoBulk {H : Type} : DataW H → Nat
  | .lit (.string bytes) => bytes.length + 1
  | .lit _ => 1
  | .nil => 1
  | .ptr d => uptoBulk d + 1
  | .slice elems spare => uptoBulkAll elems + uptoBulkAll spare + 1
  | .agg parts => uptoBulkAll parts + 1
  | .iface _ d => uptoBulk d + 1
  | .map entries => uptoBulkEntries entries + 1
  | .held _ => 1
def uptoBulkAll {H : Type} : List (DataW H) → Nat
  | [] => 0
  | d :: r => uptoBulk d + uptoBulkAll r
def uptoBulkEntries {H : Type} : List (Lit × DataW H) → Nat
  | [] => 0
  | x :: r => uptoBulkEntry x + uptoBulkEntries r
def uptoBulkEntry {H : Type} : Lit × DataW H → Nat
  | (.string bytes, d) => bytes.length + uptoBulk d + 1
  | (_, d) => uptoBulk d + 1
 end
def uptoSmall : (H : Type) → List (DataW H) → Bool := fun _ ds => decide (uptoBulkAll ds ≤ 1048576)
def OpenSpec.upto (s : _root_.Go.ChangeSpec) : _root_.Go.OpenSpec := { _root_.Go.OpenSpec.ofChange s with cond := some uptoSmall }

/-- 'permitofficelaw15.ZoneNearest', WHERE WHAT IT READS IS OF BULK AT MOST 1048576: true; the input reads as it did. -/
def zoneNearestUptoRow : OpenClaim := { program := "ytangkndckghblaadoor", sum := "991eaefbb031f9e00b9532ff18346fcb644d6215b6462e1a1c08f59dd270ecd7", func := "permitoffice/permitofficelaw15.ZoneNearest", spec := "zoneNearest", unfollowed := true, recurses := true, named := ["permitoffice/lexeme.classes"], apart := false, laid := [("permitoffice/lexeme.classes", laid_permitoffice_lexeme_classes)], narrowed := true }
def ZoneNearestUptoSaid : Prop := zoneNearestUptoRow.holds Tryd.pinned (OpenSpec.upto zoneNearestSpec)

/-- 'permitofficelaw15.ZoneMore', WHERE WHAT IT READS IS OF BULK AT MOST 1048576: true; the input reads as it did. -/
def zoneMoreUptoRow : OpenClaim := { program := "ytangkndckghblaadoor", sum := "991eaefbb031f9e00b9532ff18346fcb644d6215b6462e1a1c08f59dd270ecd7", func := "permitoffice/permitofficelaw15.ZoneMore", spec := "zoneMore", unfollowed := true, recurses := true, named := ["permitoffice/lexeme.classes"], apart := false, laid := [("permitoffice/lexeme.classes", laid_permitoffice_lexeme_classes)], narrowed := true }
def ZoneMoreUptoSaid : Prop := zoneMoreUptoRow.holds Tryd.pinned (OpenSpec.upto zoneMoreSpec)

/-- 'permitofficelaw15.ZoneDead', WHERE WHAT IT READS IS OF BULK AT MOST 1048576: true; the input reads as it did. -/
def zoneDeadUptoRow : OpenClaim := { program := "ytangkndckghblaadoor", sum := "991eaefbb031f9e00b9532ff18346fcb644d6215b6462e1a1c08f59dd270ecd7", func := "permitoffice/permitofficelaw15.ZoneDead", spec := "zoneDead", unfollowed := true, recurses := true, named := ["permitoffice/lexeme.classes"], apart := false, laid := [("permitoffice/lexeme.classes", laid_permitoffice_lexeme_classes)], narrowed := true }
def ZoneDeadUptoSaid : Prop := zoneDeadUptoRow.holds Tryd.pinned (OpenSpec.upto zoneDeadSpec)

/-- 'permitofficelaw15.ZoneUnion', WHERE WHAT IT READS IS OF BULK AT MOST 1048576: true; the input reads as it did. -/
def zoneUnionUptoRow : OpenClaim := { program := "ytangkndckghblaadoor", sum := "991eaefbb031f9e00b9532ff18346fcb644d6215b6462e1a1c08f59dd270ecd7", func := "permitoffice/permitofficelaw15.ZoneUnion", spec := "zoneUnion", unfollowed := true, recurses := true, named := ["permitoffice/lexeme.classes"], apart := false, laid := [("permitoffice/lexeme.classes", laid_permitoffice_lexeme_classes)], narrowed := true }
def ZoneUnionUptoSaid : Prop := zoneUnionUptoRow.holds Tryd.pinned (OpenSpec.upto zoneUnionSpec)

/-- 'permitofficelaw15.ZoneAnswers', WHERE WHAT IT READS IS OF BULK AT MOST 1048576: true; the input reads as it did. -/
def zoneAnswersUptoRow : OpenClaim := { program := "ytangkndckghblaadoor", sum := "991eaefbb031f9e00b9532ff18346fcb644d6215b6462e1a1c08f59dd270ecd7", func := "permitoffice/permitofficelaw15.ZoneAnswers", spec := "zoneAnswers", unfollowed := true, recurses := true, named := ["permitoffice/lexeme.classes"], apart := false, laid := [("permitoffice/lexeme.classes", laid_permitoffice_lexeme_classes)], narrowed := true }
def ZoneAnswersUptoSaid : Prop := zoneAnswersUptoRow.holds Tryd.pinned (OpenSpec.upto zoneAnswersSpec)

/-- 'permitofficelaw15.ZonePoints', WHERE WHAT IT READS IS OF BULK AT MOST 1048576: true; the input reads as it did. -/
def zonePointsUptoRow : OpenClaim := { program := "ytangkndckghblaadoor", sum := "991eaefbb031f9e00b9532ff18346fcb644d6215b6462e1a1c08f59dd270ecd7", func := "permitoffice/permitofficelaw15.ZonePoints", spec := "zonePoints", unfollowed := true, recurses := true, named := ["permitoffice/lexeme.classes"], apart := false, laid := [("permitoffice/lexeme.classes", laid_permitoffice_lexeme_classes)], narrowed := true }
def ZonePointsUptoSaid : Prop := zonePointsUptoRow.holds Tryd.pinned (OpenSpec.upto zonePointsSpec)

end Rows
end Go.Proofs.YtangkndckghblaaDoor
