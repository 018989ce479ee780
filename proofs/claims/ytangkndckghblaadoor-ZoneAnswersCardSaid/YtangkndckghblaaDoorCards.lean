/-
  DERIVED. GIVEN WITH THE SEED: THE CARDS: each row of YtangkndckghblaaDoorRows.lean that lists a variable, with what it lists TIED to the program's text (the seventh form; the later family's looks); each row that meets fmt, with fmt's text TOLD by the authors' own Lean function (tested against real Go, not proved from fmt's source: count such statements apart). THE CARD IS WHAT COUNTS. Prove the row's statement (the work); the ties are given (YtangkndckghblaaDoorTie.lean); close each card by the builder's one call (the guide's Derived/Test/ToyasCard.lean, 'card_holds'). Laid BY PROGRAM, IN A SANDBOX (cutbox-door.mjs). By AI agents, Wed Nov 11 2026. No macro, syntax, notation, axiom, sorry.
-/
import Derived.Test.YtangkndckghblaaDoorRows
import GoSem.ClaimSeven
namespace Go.Proofs.YtangkndckghblaaDoor
namespace Rows

/-- THE TIED CARD OF 'permitofficelaw15.ZoneNearest'. -/
def zoneNearestCard : Claim7 := { stood := { row := zoneNearestRow, standIns := [], harness := (true, "aacac368387e70d24502e2cb5b953ea99440884beb00fbe08a4ea364e54e535f"), looks := false }, kinds := [], alts := [], laidByText := true, laidKinds := [.data], laidTests := true, laidLooks := .later }
def ZoneNearestCardSaid : Prop := Claim7.holds Tryd.pinned (.plain (OpenSpec.ofChange zoneNearestSpec)) zoneNearestCard

/-- THE TIED CARD OF 'permitofficelaw15.ZoneMore'. -/
def zoneMoreCard : Claim7 := { stood := { row := zoneMoreRow, standIns := [], harness := (true, "aacac368387e70d24502e2cb5b953ea99440884beb00fbe08a4ea364e54e535f"), looks := false }, kinds := [], alts := [], laidByText := true, laidKinds := [.data], laidTests := true, laidLooks := .later }
def ZoneMoreCardSaid : Prop := Claim7.holds Tryd.pinned (.plain (OpenSpec.ofChange zoneMoreSpec)) zoneMoreCard

/-- THE TIED CARD OF 'permitofficelaw15.ZoneDead'. -/
def zoneDeadCard : Claim7 := { stood := { row := zoneDeadRow, standIns := [], harness := (true, "aacac368387e70d24502e2cb5b953ea99440884beb00fbe08a4ea364e54e535f"), looks := false }, kinds := [], alts := [], laidByText := true, laidKinds := [.data], laidTests := true, laidLooks := .later }
def ZoneDeadCardSaid : Prop := Claim7.holds Tryd.pinned (.plain (OpenSpec.ofChange zoneDeadSpec)) zoneDeadCard

/-- THE TIED CARD OF 'permitofficelaw15.ZoneUnion'. -/
def zoneUnionCard : Claim7 := { stood := { row := zoneUnionRow, standIns := [], harness := (true, "aacac368387e70d24502e2cb5b953ea99440884beb00fbe08a4ea364e54e535f"), looks := false }, kinds := [], alts := [], laidByText := true, laidKinds := [.data], laidTests := true, laidLooks := .later }
def ZoneUnionCardSaid : Prop := Claim7.holds Tryd.pinned (.plain (OpenSpec.ofChange zoneUnionSpec)) zoneUnionCard

/-- THE TIED CARD OF 'permitofficelaw15.ZoneAnswers'. -/
def zoneAnswersCard : Claim7 := { stood := { row := zoneAnswersRow, standIns := [], harness := (true, "aacac368387e70d24502e2cb5b953ea99440884beb00fbe08a4ea364e54e535f"), looks := false }, kinds := [], alts := [], laidByText := true, laidKinds := [.data], laidTests := true, laidLooks := .later }
def ZoneAnswersCardSaid : Prop := Claim7.holds Tryd.pinned (.plain (OpenSpec.ofChange zoneAnswersSpec)) zoneAnswersCard

/-- THE TIED CARD OF 'permitofficelaw15.ZonePoints'. -/
def zonePointsCard : Claim7 := { stood := { row := zonePointsRow, standIns := [], harness := (true, "aacac368387e70d24502e2cb5b953ea99440884beb00fbe08a4ea364e54e535f"), looks := false }, kinds := [], alts := [], laidByText := true, laidKinds := [.data], laidTests := true, laidLooks := .later }
def ZonePointsCardSaid : Prop := Claim7.holds Tryd.pinned (.plain (OpenSpec.ofChange zonePointsSpec)) zonePointsCard

/-- THE SECOND FORM's CARD OF 'permitofficelaw15.ZoneNearest'. -/
def zoneNearestUptoCard : Claim7 := { stood := { row := zoneNearestUptoRow, standIns := [], harness := (true, "aacac368387e70d24502e2cb5b953ea99440884beb00fbe08a4ea364e54e535f"), looks := false }, kinds := [], alts := [], laidByText := true, laidKinds := [.data], laidTests := true, laidLooks := .later }
def ZoneNearestUptoCardSaid : Prop := Claim7.holds Tryd.pinned (.plain (OpenSpec.upto zoneNearestSpec)) zoneNearestUptoCard

/-- THE SECOND FORM's CARD OF 'permitofficelaw15.ZoneMore'. -/
def zoneMoreUptoCard : Claim7 := { stood := { row := zoneMoreUptoRow, standIns := [], harness := (true, "aacac368387e70d24502e2cb5b953ea99440884beb00fbe08a4ea364e54e535f"), looks := false }, kinds := [], alts := [], laidByText := true, laidKinds := [.data], laidTests := true, laidLooks := .later }
def ZoneMoreUptoCardSaid : Prop := Claim7.holds Tryd.pinned (.plain (OpenSpec.upto zoneMoreSpec)) zoneMoreUptoCard

/-- THE SECOND FORM's CARD OF 'permitofficelaw15.ZoneDead'. -/
def zoneDeadUptoCard : Claim7 := { stood := { row := zoneDeadUptoRow, standIns := [], harness := (true, "aacac368387e70d24502e2cb5b953ea99440884beb00fbe08a4ea364e54e535f"), looks := false }, kinds := [], alts := [], laidByText := true, laidKinds := [.data], laidTests := true, laidLooks := .later }
def ZoneDeadUptoCardSaid : Prop := Claim7.holds Tryd.pinned (.plain (OpenSpec.upto zoneDeadSpec)) zoneDeadUptoCard

/-- THE SECOND FORM's CARD OF 'permitofficelaw15.ZoneUnion'. -/
def zoneUnionUptoCard : Claim7 := { stood := { row := zoneUnionUptoRow, standIns := [], harness := (true, "aacac368387e70d24502e2cb5b953ea99440884beb00fbe08a4ea364e54e535f"), looks := false }, kinds := [], alts := [], laidByText := true, laidKinds := [.data], laidTests := true, laidLooks := .later }
def ZoneUnionUptoCardSaid : Prop := Claim7.holds Tryd.pinned (.plain (OpenSpec.upto zoneUnionSpec)) zoneUnionUptoCard

/-- THE SECOND FORM's CARD OF 'permitofficelaw15.ZoneAnswers'. -/
def zoneAnswersUptoCard : Claim7 := { stood := { row := zoneAnswersUptoRow, standIns := [], harness := (true, "aacac368387e70d24502e2cb5b953ea99440884beb00fbe08a4ea364e54e535f"), looks := false }, kinds := [], alts := [], laidByText := true, laidKinds := [.data], laidTests := true, laidLooks := .later }
def ZoneAnswersUptoCardSaid : Prop := Claim7.holds Tryd.pinned (.plain (OpenSpec.upto zoneAnswersSpec)) zoneAnswersUptoCard

/-- THE SECOND FORM's CARD OF 'permitofficelaw15.ZonePoints'. -/
def zonePointsUptoCard : Claim7 := { stood := { row := zonePointsUptoRow, standIns := [], harness := (true, "aacac368387e70d24502e2cb5b953ea99440884beb00fbe08a4ea364e54e535f"), looks := false }, kinds := [], alts := [], laidByText := true, laidKinds := [.data], laidTests := true, laidLooks := .later }
def ZonePointsUptoCardSaid : Prop := Claim7.holds Tryd.pinned (.plain (OpenSpec.upto zonePointsSpec)) zonePointsUptoCard
end Rows
end Go.Proofs.YtangkndckghblaaDoor
