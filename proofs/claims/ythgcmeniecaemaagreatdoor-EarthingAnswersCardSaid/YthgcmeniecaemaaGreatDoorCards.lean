/-
  DERIVED. GIVEN WITH THE SEED: THE CARDS: each row of YthgcmeniecaemaaGreatDoorRows.lean that lists a variable, with what it lists TIED to the program's text (the seventh form; the later family's looks); each row that meets fmt, with fmt's text TOLD by the authors' own Lean function (tested against real Go, not proved from fmt's source: count such statements apart). THE CARD IS WHAT COUNTS. Prove the row's statement (the work); the ties are given (YthgcmeniecaemaaGreatDoorTie.lean); close each card by the builder's one call (the guide's Derived/Test/ToyasCard.lean, 'card_holds'). Laid BY PROGRAM, IN A SANDBOX (cutbox-door.mjs). By AI agents, Wed Nov 11 2026. No macro, syntax, notation, axiom, sorry.
-/
import Derived.Test.YthgcmeniecaemaaGreatDoorRows
import GoSem.ClaimSeven
namespace Go.Proofs.YthgcmeniecaemaaGreatDoor
namespace Rows

/-- THE TIED CARD OF 'permitofficelaw16.EarthingAnswers'. -/
def earthingAnswersCard : Claim7 := { stood := { row := earthingAnswersRow, standIns := [], harness := (true, "f291fb88c41d81c8bc6c3112c8b9be9a6914ec49e9f34f29fda449f636f24c40"), looks := false }, kinds := [], alts := [], laidByText := true, laidKinds := [.data], laidTests := true, laidLooks := .later }
def EarthingAnswersCardSaid : Prop := Claim7.holds Tryz.pinned (.plain (OpenSpec.ofChange earthingAnswersSpec)) earthingAnswersCard

/-- THE SECOND FORM's CARD OF 'permitofficelaw16.EarthingAnswers'. -/
def earthingAnswersUptoCard : Claim7 := { stood := { row := earthingAnswersUptoRow, standIns := [], harness := (true, "f291fb88c41d81c8bc6c3112c8b9be9a6914ec49e9f34f29fda449f636f24c40"), looks := false }, kinds := [], alts := [], laidByText := true, laidKinds := [.data], laidTests := true, laidLooks := .later }
def EarthingAnswersUptoCardSaid : Prop := Claim7.holds Tryz.pinned (.plain (OpenSpec.upto earthingAnswersSpec)) earthingAnswersUptoCard
end Rows
end Go.Proofs.YthgcmeniecaemaaGreatDoor
