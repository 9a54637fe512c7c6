/-
  DERIVED. GIVEN WITH THE SEED: THE CARDS: each row of YtoelmnamlnbdhaaGreatDoorRows.lean that lists a variable, with what it lists TIED to the program's text (the seventh form; the later family's looks); each row that meets fmt, with fmt's text TOLD by the authors' own Lean function (tested against real Go, not proved from fmt's source: count such statements apart). THE CARD IS WHAT COUNTS. Prove the row's statement (the work); the ties are given (YtoelmnamlnbdhaaGreatDoorTie.lean); close each card by the builder's one call (the guide's Derived/Test/ToyasCard.lean, 'card_holds'). Laid BY PROGRAM, IN A SANDBOX (cutbox-door.mjs). By AI agents, Wed Nov 11 2026. No macro, syntax, notation, axiom, sorry.
-/
import Derived.Test.YtoelmnamlnbdhaaGreatDoorRows
import GoSem.ClaimSeven
namespace Go.Proofs.YtoelmnamlnbdhaaGreatDoor
namespace Rows

/-- THE TIED CARD OF 'hourglasslaw13.RunLoops'. -/
def runLoopsCard : Claim7 := { stood := { row := runLoopsRow, standIns := [], harness := (true, "4aa113fe0cd38b1c4759718ba9b8c76bd3648f19905c164baa3e3169e98dfdb4"), looks := true }, kinds := [], alts := [], laidByText := true, laidKinds := [.data, .data, .data, .sentinel, .sentinel, .listed, .data], laidTests := true, laidLooks := .later }
def RunLoopsCardSaid : Prop := Claim7.holds Tryz.pinned (.plain (OpenSpec.ofChange runLoopsSpec)) runLoopsCard

/-- THE SECOND FORM's CARD OF 'hourglasslaw13.RunLoops'. -/
def runLoopsUptoCard : Claim7 := { stood := { row := runLoopsUptoRow, standIns := [], harness := (true, "4aa113fe0cd38b1c4759718ba9b8c76bd3648f19905c164baa3e3169e98dfdb4"), looks := true }, kinds := [], alts := [], laidByText := true, laidKinds := [.data, .data, .data, .sentinel, .sentinel, .listed, .data], laidTests := true, laidLooks := .later }
def RunLoopsUptoCardSaid : Prop := Claim7.holds Tryz.pinned (.plain (OpenSpec.upto runLoopsSpec)) runLoopsUptoCard
end Rows
end Go.Proofs.YtoelmnamlnbdhaaGreatDoor
