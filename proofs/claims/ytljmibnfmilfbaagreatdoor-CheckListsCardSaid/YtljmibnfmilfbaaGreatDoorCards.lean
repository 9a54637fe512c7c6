/-
  DERIVED. GIVEN WITH THE SEED: THE CARDS: each row of YtljmibnfmilfbaaGreatDoorRows.lean that lists a variable, with what it lists TIED to the program's text (the seventh form; the later family's looks); each row that meets fmt, with fmt's text TOLD by the authors' own Lean function (tested against real Go, not proved from fmt's source: count such statements apart). THE CARD IS WHAT COUNTS. Prove the row's statement (the work); the ties are given (YtljmibnfmilfbaaGreatDoorTie.lean); close each card by the builder's one call (the guide's Derived/Test/ToyasCard.lean, 'card_holds'). Laid BY PROGRAM, IN A SANDBOX (cutbox-door.mjs). By AI agents, Wed Nov 11 2026. No macro, syntax, notation, axiom, sorry.
-/
import Derived.Test.YtljmibnfmilfbaaGreatDoorRows
import GoSem.ClaimSeven
namespace Go.Proofs.YtljmibnfmilfbaaGreatDoor
namespace Rows

/-- THE TIED CARD OF 'hourglasslaw11.CheckLists'. -/
def checkListsCard : Claim7 := { stood := { row := checkListsRow, standIns := [], harness := (true, "f2c8aab7aea786498865a0c34c79cd9c1f6af60ec4e61c8050e25cb0679ba357"), looks := true }, kinds := [], alts := [], laidByText := true, laidKinds := [.data, .data, .data, .sentinel, .sentinel, .listed, .data], laidTests := true, laidLooks := .later }
def CheckListsCardSaid : Prop := Claim7.holds Tryz.pinned (.plain (OpenSpec.ofChange checkListsSpec)) checkListsCard

/-- THE SECOND FORM's CARD OF 'hourglasslaw11.CheckLists'. -/
def checkListsUptoCard : Claim7 := { stood := { row := checkListsUptoRow, standIns := [], harness := (true, "f2c8aab7aea786498865a0c34c79cd9c1f6af60ec4e61c8050e25cb0679ba357"), looks := true }, kinds := [], alts := [], laidByText := true, laidKinds := [.data, .data, .data, .sentinel, .sentinel, .listed, .data], laidTests := true, laidLooks := .later }
def CheckListsUptoCardSaid : Prop := Claim7.holds Tryz.pinned (.plain (OpenSpec.upto checkListsSpec)) checkListsUptoCard
end Rows
end Go.Proofs.YtljmibnfmilfbaaGreatDoor
