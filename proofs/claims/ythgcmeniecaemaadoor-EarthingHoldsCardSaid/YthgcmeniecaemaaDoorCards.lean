/-
  DERIVED. GIVEN WITH THE SEED: THE CARDS: each row of YthgcmeniecaemaaDoorRows.lean that lists a variable, with what it lists TIED to the program's text (the seventh form; the later family's looks); each row that meets fmt, with fmt's text TOLD by the authors' own Lean function (tested against real Go, not proved from fmt's source: count such statements apart). THE CARD IS WHAT COUNTS. Prove the row's statement (the work); the ties are given (YthgcmeniecaemaaDoorTie.lean); close each card by the builder's one call (the guide's Derived/Test/ToyasCard.lean, 'card_holds'). Laid BY PROGRAM, IN A SANDBOX (cutbox-door.mjs). By AI agents, Wed Nov 11 2026. No macro, syntax, notation, axiom, sorry.
-/
import Derived.Test.YthgcmeniecaemaaDoorRows
import GoSem.ClaimSeven
namespace Go.Proofs.YthgcmeniecaemaaDoor
namespace Rows

/-- THE TIED CARD OF 'permitofficelaw16.EarthingHolds'. -/
def earthingHoldsCard : Claim7 := { stood := { row := earthingHoldsRow, standIns := [], harness := (true, "9d9e91fc46d1ebe9e29b143ab648501743915804eddc9bc2795286aaee755ecb"), looks := false }, kinds := [], alts := [], laidByText := true, laidKinds := [.data], laidTests := true, laidLooks := .later }
def EarthingHoldsCardSaid : Prop := Claim7.holds Tryd.pinned (.plain (OpenSpec.ofChange earthingHoldsSpec)) earthingHoldsCard

/-- THE TIED CARD OF 'permitofficelaw16.EarthingInside'. -/
def earthingInsideCard : Claim7 := { stood := { row := earthingInsideRow, standIns := [], harness := (true, "9d9e91fc46d1ebe9e29b143ab648501743915804eddc9bc2795286aaee755ecb"), looks := false }, kinds := [], alts := [], laidByText := true, laidKinds := [.data], laidTests := true, laidLooks := .later }
def EarthingInsideCardSaid : Prop := Claim7.holds Tryd.pinned (.plain (OpenSpec.ofChange earthingInsideSpec)) earthingInsideCard

/-- THE TIED CARD OF 'permitofficelaw16.EarthingMore'. -/
def earthingMoreCard : Claim7 := { stood := { row := earthingMoreRow, standIns := [], harness := (true, "9d9e91fc46d1ebe9e29b143ab648501743915804eddc9bc2795286aaee755ecb"), looks := false }, kinds := [], alts := [], laidByText := true, laidKinds := [.data], laidTests := true, laidLooks := .later }
def EarthingMoreCardSaid : Prop := Claim7.holds Tryd.pinned (.plain (OpenSpec.ofChange earthingMoreSpec)) earthingMoreCard

/-- THE TIED CARD OF 'permitofficelaw16.EarthingWays'. -/
def earthingWaysCard : Claim7 := { stood := { row := earthingWaysRow, standIns := [], harness := (true, "9d9e91fc46d1ebe9e29b143ab648501743915804eddc9bc2795286aaee755ecb"), looks := false }, kinds := [], alts := [], laidByText := true, laidKinds := [.data], laidTests := true, laidLooks := .later }
def EarthingWaysCardSaid : Prop := Claim7.holds Tryd.pinned (.plain (OpenSpec.ofChange earthingWaysSpec)) earthingWaysCard

/-- THE TIED CARD OF 'permitofficelaw16.EarthingUnion'. -/
def earthingUnionCard : Claim7 := { stood := { row := earthingUnionRow, standIns := [], harness := (true, "9d9e91fc46d1ebe9e29b143ab648501743915804eddc9bc2795286aaee755ecb"), looks := false }, kinds := [], alts := [], laidByText := true, laidKinds := [.data], laidTests := true, laidLooks := .later }
def EarthingUnionCardSaid : Prop := Claim7.holds Tryd.pinned (.plain (OpenSpec.ofChange earthingUnionSpec)) earthingUnionCard

/-- THE SECOND FORM's CARD OF 'permitofficelaw16.EarthingHolds'. -/
def earthingHoldsUptoCard : Claim7 := { stood := { row := earthingHoldsUptoRow, standIns := [], harness := (true, "9d9e91fc46d1ebe9e29b143ab648501743915804eddc9bc2795286aaee755ecb"), looks := false }, kinds := [], alts := [], laidByText := true, laidKinds := [.data], laidTests := true, laidLooks := .later }
def EarthingHoldsUptoCardSaid : Prop := Claim7.holds Tryd.pinned (.plain (OpenSpec.upto earthingHoldsSpec)) earthingHoldsUptoCard

/-- THE SECOND FORM's CARD OF 'permitofficelaw16.EarthingInside'. -/
def earthingInsideUptoCard : Claim7 := { stood := { row := earthingInsideUptoRow, standIns := [], harness := (true, "9d9e91fc46d1ebe9e29b143ab648501743915804eddc9bc2795286aaee755ecb"), looks := false }, kinds := [], alts := [], laidByText := true, laidKinds := [.data], laidTests := true, laidLooks := .later }
def EarthingInsideUptoCardSaid : Prop := Claim7.holds Tryd.pinned (.plain (OpenSpec.upto earthingInsideSpec)) earthingInsideUptoCard

/-- THE SECOND FORM's CARD OF 'permitofficelaw16.EarthingMore'. -/
def earthingMoreUptoCard : Claim7 := { stood := { row := earthingMoreUptoRow, standIns := [], harness := (true, "9d9e91fc46d1ebe9e29b143ab648501743915804eddc9bc2795286aaee755ecb"), looks := false }, kinds := [], alts := [], laidByText := true, laidKinds := [.data], laidTests := true, laidLooks := .later }
def EarthingMoreUptoCardSaid : Prop := Claim7.holds Tryd.pinned (.plain (OpenSpec.upto earthingMoreSpec)) earthingMoreUptoCard

/-- THE SECOND FORM's CARD OF 'permitofficelaw16.EarthingWays'. -/
def earthingWaysUptoCard : Claim7 := { stood := { row := earthingWaysUptoRow, standIns := [], harness := (true, "9d9e91fc46d1ebe9e29b143ab648501743915804eddc9bc2795286aaee755ecb"), looks := false }, kinds := [], alts := [], laidByText := true, laidKinds := [.data], laidTests := true, laidLooks := .later }
def EarthingWaysUptoCardSaid : Prop := Claim7.holds Tryd.pinned (.plain (OpenSpec.upto earthingWaysSpec)) earthingWaysUptoCard

/-- THE SECOND FORM's CARD OF 'permitofficelaw16.EarthingUnion'. -/
def earthingUnionUptoCard : Claim7 := { stood := { row := earthingUnionUptoRow, standIns := [], harness := (true, "9d9e91fc46d1ebe9e29b143ab648501743915804eddc9bc2795286aaee755ecb"), looks := false }, kinds := [], alts := [], laidByText := true, laidKinds := [.data], laidTests := true, laidLooks := .later }
def EarthingUnionUptoCardSaid : Prop := Claim7.holds Tryd.pinned (.plain (OpenSpec.upto earthingUnionSpec)) earthingUnionUptoCard
end Rows
end Go.Proofs.YthgcmeniecaemaaDoor
