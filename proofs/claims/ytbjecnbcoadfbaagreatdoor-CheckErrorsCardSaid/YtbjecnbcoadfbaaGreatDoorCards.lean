/-
  DERIVED. GIVEN WITH THE SEED: THE CARDS: each row of YtbjecnbcoadfbaaGreatDoorRows.lean that lists a variable, with what it lists TIED to the program's text (the seventh form; the later family's looks); each row that meets fmt, with fmt's text TOLD by the authors' own Lean function (tested against real Go, not proved from fmt's source: count such statements apart). THE CARD IS WHAT COUNTS. Prove the row's statement (the work); the ties are given (YtbjecnbcoadfbaaGreatDoorTie.lean); close each card by the builder's one call (the guide's Derived/Test/ToyasCard.lean, 'card_holds'). Laid BY PROGRAM, IN A SANDBOX (cutbox-door.mjs). By AI agents, Wed Nov 11 2026. No macro, syntax, notation, axiom, sorry.
-/
import Derived.Test.YtbjecnbcoadfbaaGreatDoorRows
import GoSem.ClaimSeven
namespace Go.Proofs.YtbjecnbcoadfbaaGreatDoor
namespace Rows

/-- THE TIED CARD OF 'hourglasslaw11.CheckErrors'. -/
def checkErrorsCard : Claim7 := { stood := { row := checkErrorsRow, standIns := [], harness := (true, "e580d0d61a28464decd80c793a90069b7488a0bc3fa2efd5240917f093bccba9"), looks := true }, kinds := [], alts := [], laidByText := true, laidKinds := [.data, .data, .data, .sentinel, .sentinel, .listed, .data], laidTests := true, laidLooks := .later }
def CheckErrorsCardSaid : Prop := Claim7.holds Tryz.pinned (.plain (OpenSpec.ofChange checkErrorsSpec)) checkErrorsCard

/-- THE SECOND FORM's CARD OF 'hourglasslaw11.CheckErrors'. -/
def checkErrorsUptoCard : Claim7 := { stood := { row := checkErrorsUptoRow, standIns := [], harness := (true, "e580d0d61a28464decd80c793a90069b7488a0bc3fa2efd5240917f093bccba9"), looks := true }, kinds := [], alts := [], laidByText := true, laidKinds := [.data, .data, .data, .sentinel, .sentinel, .listed, .data], laidTests := true, laidLooks := .later }
def CheckErrorsUptoCardSaid : Prop := Claim7.holds Tryz.pinned (.plain (OpenSpec.upto checkErrorsSpec)) checkErrorsUptoCard
end Rows
end Go.Proofs.YtbjecnbcoadfbaaGreatDoor
