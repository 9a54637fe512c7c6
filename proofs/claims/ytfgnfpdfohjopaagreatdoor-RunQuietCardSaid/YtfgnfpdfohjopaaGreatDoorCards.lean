/-
  DERIVED. GIVEN WITH THE SEED: THE CARDS: each row of YtfgnfpdfohjopaaGreatDoorRows.lean that lists a variable, with what it lists TIED to the program's text (the seventh form; the later family's looks); each row that meets fmt, with fmt's text TOLD by the authors' own Lean function (tested against real Go, not proved from fmt's source: count such statements apart). THE CARD IS WHAT COUNTS. Prove the row's statement (the work); the ties are given (YtfgnfpdfohjopaaGreatDoorTie.lean); close each card by the builder's one call (the guide's Derived/Test/ToyasCard.lean, 'card_holds'). Laid BY PROGRAM, IN A SANDBOX (cutbox-door.mjs). By AI agents, Wed Nov 11 2026. No macro, syntax, notation, axiom, sorry.
-/
import Derived.Test.YtfgnfpdfohjopaaGreatDoorRows
import GoSem.ClaimSeven
namespace Go.Proofs.YtfgnfpdfohjopaaGreatDoor
namespace Rows

/-- THE TIED CARD OF 'hourglasslaw13.RunFuel'. -/
def runFuelCard : Claim7 := { stood := { row := runFuelRow, standIns := [], harness := (true, "38141f9fe5350047edcbff3d76305b04d0af266bc5f5374175b6e1f55611aeb1"), looks := true }, kinds := [], alts := [], laidByText := true, laidKinds := [.data, .data, .data, .sentinel, .sentinel, .listed, .data], laidTests := true, laidLooks := .later }
def RunFuelCardSaid : Prop := Claim7.holds Tryz.pinned (.plain (OpenSpec.ofChange runFuelSpec)) runFuelCard

/-- THE TIED CARD OF 'hourglasslaw13.RunQuiet'. -/
def runQuietCard : Claim7 := { stood := { row := runQuietRow, standIns := [], harness := (true, "38141f9fe5350047edcbff3d76305b04d0af266bc5f5374175b6e1f55611aeb1"), looks := true }, kinds := [], alts := [], laidByText := true, laidKinds := [.data, .data, .data, .sentinel, .sentinel, .listed, .data], laidTests := true, laidLooks := .later }
def RunQuietCardSaid : Prop := Claim7.holds Tryz.pinned (.plain (OpenSpec.ofChange runQuietSpec)) runQuietCard

/-- THE SECOND FORM's CARD OF 'hourglasslaw13.RunFuel'. -/
def runFuelUptoCard : Claim7 := { stood := { row := runFuelUptoRow, standIns := [], harness := (true, "38141f9fe5350047edcbff3d76305b04d0af266bc5f5374175b6e1f55611aeb1"), looks := true }, kinds := [], alts := [], laidByText := true, laidKinds := [.data, .data, .data, .sentinel, .sentinel, .listed, .data], laidTests := true, laidLooks := .later }
def RunFuelUptoCardSaid : Prop := Claim7.holds Tryz.pinned (.plain (OpenSpec.upto runFuelSpec)) runFuelUptoCard

/-- THE SECOND FORM's CARD OF 'hourglasslaw13.RunQuiet'. -/
def runQuietUptoCard : Claim7 := { stood := { row := runQuietUptoRow, standIns := [], harness := (true, "38141f9fe5350047edcbff3d76305b04d0af266bc5f5374175b6e1f55611aeb1"), looks := true }, kinds := [], alts := [], laidByText := true, laidKinds := [.data, .data, .data, .sentinel, .sentinel, .listed, .data], laidTests := true, laidLooks := .later }
def RunQuietUptoCardSaid : Prop := Claim7.holds Tryz.pinned (.plain (OpenSpec.upto runQuietSpec)) runQuietUptoCard
end Rows
end Go.Proofs.YtfgnfpdfohjopaaGreatDoor
