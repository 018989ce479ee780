/-
  DERIVED. GIVEN WITH THE SEED: THE CARDS: each row of YtfkiomkfoabnhaaDoorRows.lean that lists a variable, with what it lists TIED to the program's text (the seventh form; the later family's looks); each row that meets fmt, with fmt's text TOLD by the authors' own Lean function (tested against real Go, not proved from fmt's source: count such statements apart). THE CARD IS WHAT COUNTS. Prove the row's statement (the work); the ties are given (YtfkiomkfoabnhaaDoorTie.lean); close each card by the builder's one call (the guide's Derived/Test/ToyasCard.lean, 'card_holds'). Laid BY PROGRAM, IN A SANDBOX (cutbox-door.mjs). By AI agents, Wed Nov 11 2026. No macro, syntax, notation, axiom, sorry.
-/
import Derived.Test.YtfkiomkfoabnhaaDoorRows
import GoSem.ClaimSeven
namespace Go.Proofs.YtfkiomkfoabnhaaDoor
namespace Rows

/-- THE TIED CARD OF 'permitofficelaw35.BoundaryWhole'. -/
def boundaryWholeCard : Claim7 := { stood := { row := boundaryWholeRow, standIns := [], harness := (true, "a78fe150e3f183ab6e2ec88bf1a017b9f798377cfc4f0baf8c7ead0cbf6f6268"), looks := false }, kinds := [], alts := [], laidByText := true, laidKinds := [.data], laidTests := true, laidLooks := .later }
def BoundaryWholeCardSaid : Prop := Claim7.holds Tryd.pinned (.plain (OpenSpec.ofChange boundaryWholeSpec)) boundaryWholeCard

/-- THE TIED CARD OF 'permitofficelaw27.OverlapMutual'. -/
def overlapMutualCard : Claim7 := { stood := { row := overlapMutualRow, standIns := [], harness := (true, "a78fe150e3f183ab6e2ec88bf1a017b9f798377cfc4f0baf8c7ead0cbf6f6268"), looks := false }, kinds := [], alts := [], laidByText := true, laidKinds := [.data], laidTests := true, laidLooks := .later }
def OverlapMutualCardSaid : Prop := Claim7.holds Tryd.pinned (.plain (OpenSpec.ofChange overlapMutualSpec)) overlapMutualCard

/-- THE TIED CARD OF 'permitofficelaw27.OverlapShrinks'. -/
def overlapShrinksCard : Claim7 := { stood := { row := overlapShrinksRow, standIns := [], harness := (true, "a78fe150e3f183ab6e2ec88bf1a017b9f798377cfc4f0baf8c7ead0cbf6f6268"), looks := false }, kinds := [], alts := [], laidByText := true, laidKinds := [.data], laidTests := true, laidLooks := .later }
def OverlapShrinksCardSaid : Prop := Claim7.holds Tryd.pinned (.plain (OpenSpec.ofChange overlapShrinksSpec)) overlapShrinksCard

/-- THE TIED CARD OF 'permitofficelaw27.OverlapReach'. -/
def overlapReachCard : Claim7 := { stood := { row := overlapReachRow, standIns := [], harness := (true, "a78fe150e3f183ab6e2ec88bf1a017b9f798377cfc4f0baf8c7ead0cbf6f6268"), looks := false }, kinds := [], alts := [], laidByText := true, laidKinds := [.data], laidTests := true, laidLooks := .later }
def OverlapReachCardSaid : Prop := Claim7.holds Tryd.pinned (.plain (OpenSpec.ofChange overlapReachSpec)) overlapReachCard

/-- THE TIED CARD OF 'permitofficelaw27.OverlapExact'. -/
def overlapExactCard : Claim7 := { stood := { row := overlapExactRow, standIns := [], harness := (true, "a78fe150e3f183ab6e2ec88bf1a017b9f798377cfc4f0baf8c7ead0cbf6f6268"), looks := false }, kinds := [], alts := [], laidByText := true, laidKinds := [.data], laidTests := true, laidLooks := .later }
def OverlapExactCardSaid : Prop := Claim7.holds Tryd.pinned (.plain (OpenSpec.ofChange overlapExactSpec)) overlapExactCard

/-- THE TIED CARD OF 'permitofficelaw27.OverlapClear'. -/
def overlapClearCard : Claim7 := { stood := { row := overlapClearRow, standIns := [], harness := (true, "a78fe150e3f183ab6e2ec88bf1a017b9f798377cfc4f0baf8c7ead0cbf6f6268"), looks := false }, kinds := [], alts := [], laidByText := true, laidKinds := [.data], laidTests := true, laidLooks := .later }
def OverlapClearCardSaid : Prop := Claim7.holds Tryd.pinned (.plain (OpenSpec.ofChange overlapClearSpec)) overlapClearCard

/-- THE SECOND FORM's CARD OF 'permitofficelaw35.BoundaryWhole'. -/
def boundaryWholeUptoCard : Claim7 := { stood := { row := boundaryWholeUptoRow, standIns := [], harness := (true, "a78fe150e3f183ab6e2ec88bf1a017b9f798377cfc4f0baf8c7ead0cbf6f6268"), looks := false }, kinds := [], alts := [], laidByText := true, laidKinds := [.data], laidTests := true, laidLooks := .later }
def BoundaryWholeUptoCardSaid : Prop := Claim7.holds Tryd.pinned (.plain (OpenSpec.upto boundaryWholeSpec)) boundaryWholeUptoCard

/-- THE SECOND FORM's CARD OF 'permitofficelaw27.OverlapMutual'. -/
def overlapMutualUptoCard : Claim7 := { stood := { row := overlapMutualUptoRow, standIns := [], harness := (true, "a78fe150e3f183ab6e2ec88bf1a017b9f798377cfc4f0baf8c7ead0cbf6f6268"), looks := false }, kinds := [], alts := [], laidByText := true, laidKinds := [.data], laidTests := true, laidLooks := .later }
def OverlapMutualUptoCardSaid : Prop := Claim7.holds Tryd.pinned (.plain (OpenSpec.upto overlapMutualSpec)) overlapMutualUptoCard

/-- THE SECOND FORM's CARD OF 'permitofficelaw27.OverlapShrinks'. -/
def overlapShrinksUptoCard : Claim7 := { stood := { row := overlapShrinksUptoRow, standIns := [], harness := (true, "a78fe150e3f183ab6e2ec88bf1a017b9f798377cfc4f0baf8c7ead0cbf6f6268"), looks := false }, kinds := [], alts := [], laidByText := true, laidKinds := [.data], laidTests := true, laidLooks := .later }
def OverlapShrinksUptoCardSaid : Prop := Claim7.holds Tryd.pinned (.plain (OpenSpec.upto overlapShrinksSpec)) overlapShrinksUptoCard

/-- THE SECOND FORM's CARD OF 'permitofficelaw27.OverlapReach'. -/
def overlapReachUptoCard : Claim7 := { stood := { row := overlapReachUptoRow, standIns := [], harness := (true, "a78fe150e3f183ab6e2ec88bf1a017b9f798377cfc4f0baf8c7ead0cbf6f6268"), looks := false }, kinds := [], alts := [], laidByText := true, laidKinds := [.data], laidTests := true, laidLooks := .later }
def OverlapReachUptoCardSaid : Prop := Claim7.holds Tryd.pinned (.plain (OpenSpec.upto overlapReachSpec)) overlapReachUptoCard

/-- THE SECOND FORM's CARD OF 'permitofficelaw27.OverlapExact'. -/
def overlapExactUptoCard : Claim7 := { stood := { row := overlapExactUptoRow, standIns := [], harness := (true, "a78fe150e3f183ab6e2ec88bf1a017b9f798377cfc4f0baf8c7ead0cbf6f6268"), looks := false }, kinds := [], alts := [], laidByText := true, laidKinds := [.data], laidTests := true, laidLooks := .later }
def OverlapExactUptoCardSaid : Prop := Claim7.holds Tryd.pinned (.plain (OpenSpec.upto overlapExactSpec)) overlapExactUptoCard

/-- THE SECOND FORM's CARD OF 'permitofficelaw27.OverlapClear'. -/
def overlapClearUptoCard : Claim7 := { stood := { row := overlapClearUptoRow, standIns := [], harness := (true, "a78fe150e3f183ab6e2ec88bf1a017b9f798377cfc4f0baf8c7ead0cbf6f6268"), looks := false }, kinds := [], alts := [], laidByText := true, laidKinds := [.data], laidTests := true, laidLooks := .later }
def OverlapClearUptoCardSaid : Prop := Claim7.holds Tryd.pinned (.plain (OpenSpec.upto overlapClearSpec)) overlapClearUptoCard
end Rows
end Go.Proofs.YtfkiomkfoabnhaaDoor
