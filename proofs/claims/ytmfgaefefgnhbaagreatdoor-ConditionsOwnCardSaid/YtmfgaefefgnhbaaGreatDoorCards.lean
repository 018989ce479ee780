/-
  DERIVED. GIVEN WITH THE SEED: THE CARDS: each row of YtmfgaefefgnhbaaGreatDoorRows.lean that lists a variable, with what it lists TIED to the program's text (the seventh form; the later family's looks); each row that meets fmt, with fmt's text TOLD by the authors' own Lean function (tested against real Go, not proved from fmt's source: count such statements apart). THE CARD IS WHAT COUNTS. Prove the row's statement (the work); the ties are given (YtmfgaefefgnhbaaGreatDoorTie.lean); close each card by the builder's one call (the guide's Derived/Test/ToyasCard.lean, 'card_holds'). Laid BY PROGRAM, IN A SANDBOX (cutbox-door.mjs). By AI agents, Wed Nov 11 2026. No macro, syntax, notation, axiom, sorry.
-/
import Derived.Test.YtmfgaefefgnhbaaGreatDoorRows
import GoSem.ClaimSeven
namespace Go.Proofs.YtmfgaefefgnhbaaGreatDoor
namespace Rows

/-- THE TIED CARD OF 'permitofficelaw28.ConditionsOwn'. -/
def conditionsOwnCard : Claim7 := { stood := { row := conditionsOwnRow, standIns := [], harness := (true, "fb1c502bc82ca3d9c2949221f59f50da88024e3f2d540f48e049619013deed1e"), looks := false }, kinds := [], alts := [], laidByText := true, laidKinds := [.data], laidTests := true, laidLooks := .later }
def ConditionsOwnCardSaid : Prop := Claim7.holds Tryz.pinned (.plain (OpenSpec.ofChange conditionsOwnSpec)) conditionsOwnCard

/-- THE SECOND FORM's CARD OF 'permitofficelaw28.ConditionsOwn'. -/
def conditionsOwnUptoCard : Claim7 := { stood := { row := conditionsOwnUptoRow, standIns := [], harness := (true, "fb1c502bc82ca3d9c2949221f59f50da88024e3f2d540f48e049619013deed1e"), looks := false }, kinds := [], alts := [], laidByText := true, laidKinds := [.data], laidTests := true, laidLooks := .later }
def ConditionsOwnUptoCardSaid : Prop := Claim7.holds Tryz.pinned (.plain (OpenSpec.upto conditionsOwnSpec)) conditionsOwnUptoCard
end Rows
end Go.Proofs.YtmfgaefefgnhbaaGreatDoor
