/-
  DERIVED. GIVEN WITH THE SEED: THE CARDS: each row of YtijhlanclfajiaaGreatDoorRows.lean that lists a variable, with what it lists TIED to the program's text (the seventh form; the later family's looks); each row that meets fmt, with fmt's text TOLD by the authors' own Lean function (tested against real Go, not proved from fmt's source: count such statements apart). THE CARD IS WHAT COUNTS. Prove the row's statement (the work); the ties are given (YtijhlanclfajiaaGreatDoorTie.lean); close each card by the builder's one call (the guide's Derived/Test/ToyasCard.lean, 'card_holds'). Laid BY PROGRAM, IN A SANDBOX (cutbox-door.mjs). By AI agents, Wed Nov 11 2026. No macro, syntax, notation, axiom, sorry.
-/
import Derived.Test.YtijhlanclfajiaaGreatDoorRows
import GoSem.ClaimSeven
namespace Go.Proofs.YtijhlanclfajiaaGreatDoor
namespace Rows

/-- THE TIED CARD OF 'hourglasslaw11.CheckRights'. -/
def checkRightsCard : Claim7 := { stood := { row := checkRightsRow, standIns := [], harness := (true, "aadf729753b3fa6f9f02b7b44698295393ea4583d06334e2ee5a0064b30ada0a"), looks := true }, kinds := [], alts := [], laidByText := true, laidKinds := [.data, .data, .data, .sentinel, .sentinel, .listed, .data], laidTests := true, laidLooks := .later }
def CheckRightsCardSaid : Prop := Claim7.holds Tryz.pinned (.plain (OpenSpec.ofChange checkRightsSpec)) checkRightsCard

/-- THE SECOND FORM's CARD OF 'hourglasslaw11.CheckRights'. -/
def checkRightsUptoCard : Claim7 := { stood := { row := checkRightsUptoRow, standIns := [], harness := (true, "aadf729753b3fa6f9f02b7b44698295393ea4583d06334e2ee5a0064b30ada0a"), looks := true }, kinds := [], alts := [], laidByText := true, laidKinds := [.data, .data, .data, .sentinel, .sentinel, .listed, .data], laidTests := true, laidLooks := .later }
def CheckRightsUptoCardSaid : Prop := Claim7.holds Tryz.pinned (.plain (OpenSpec.upto checkRightsSpec)) checkRightsUptoCard
end Rows
end Go.Proofs.YtijhlanclfajiaaGreatDoor
