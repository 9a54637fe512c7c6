/-
  DERIVED. GIVEN WITH THE SEED: THE CARDS: each row of YthihjcannjhonaaGreatDoorRows.lean that lists a variable, with what it lists TIED to the program's text (the seventh form; the later family's looks); each row that meets fmt, with fmt's text TOLD by the authors' own Lean function (tested against real Go, not proved from fmt's source: count such statements apart). THE CARD IS WHAT COUNTS. Prove the row's statement (the work); the ties are given (YthihjcannjhonaaGreatDoorTie.lean); close each card by the builder's one call (the guide's Derived/Test/ToyasCard.lean, 'card_holds'). Laid BY PROGRAM, IN A SANDBOX (cutbox-door.mjs). By AI agents, Wed Nov 11 2026. No macro, syntax, notation, axiom, sorry.
-/
import Derived.Test.YthihjcannjhonaaGreatDoorRows
import GoSem.ClaimSeven
namespace Go.Proofs.YthihjcannjhonaaGreatDoor
namespace Rows

/-- THE TIED CARD OF 'hourglasslaw13.RunPlays'. -/
def runPlaysCard : Claim7 := { stood := { row := runPlaysRow, standIns := [], harness := (true, "ba56a3afbc0f709d89847a03c9d32b456f4c6c6e786ea8f4e7852ace90e04c5e"), looks := true }, kinds := [], alts := [], laidByText := true, laidKinds := [.data, .data, .data, .sentinel, .sentinel, .listed, .data], laidTests := true, laidLooks := .later }
def RunPlaysCardSaid : Prop := Claim7.holds Tryz.pinned (.plain (OpenSpec.ofChange runPlaysSpec)) runPlaysCard

/-- THE TIED CARD OF 'hourglasslaw13.RunEnds'. -/
def runEndsCard : Claim7 := { stood := { row := runEndsRow, standIns := [], harness := (true, "ba56a3afbc0f709d89847a03c9d32b456f4c6c6e786ea8f4e7852ace90e04c5e"), looks := true }, kinds := [], alts := [], laidByText := true, laidKinds := [.data, .data, .data, .sentinel, .sentinel, .listed, .data], laidTests := true, laidLooks := .later }
def RunEndsCardSaid : Prop := Claim7.holds Tryz.pinned (.plain (OpenSpec.ofChange runEndsSpec)) runEndsCard

/-- THE SECOND FORM's CARD OF 'hourglasslaw13.RunPlays'. -/
def runPlaysUptoCard : Claim7 := { stood := { row := runPlaysUptoRow, standIns := [], harness := (true, "ba56a3afbc0f709d89847a03c9d32b456f4c6c6e786ea8f4e7852ace90e04c5e"), looks := true }, kinds := [], alts := [], laidByText := true, laidKinds := [.data, .data, .data, .sentinel, .sentinel, .listed, .data], laidTests := true, laidLooks := .later }
def RunPlaysUptoCardSaid : Prop := Claim7.holds Tryz.pinned (.plain (OpenSpec.upto runPlaysSpec)) runPlaysUptoCard

/-- THE SECOND FORM's CARD OF 'hourglasslaw13.RunEnds'. -/
def runEndsUptoCard : Claim7 := { stood := { row := runEndsUptoRow, standIns := [], harness := (true, "ba56a3afbc0f709d89847a03c9d32b456f4c6c6e786ea8f4e7852ace90e04c5e"), looks := true }, kinds := [], alts := [], laidByText := true, laidKinds := [.data, .data, .data, .sentinel, .sentinel, .listed, .data], laidTests := true, laidLooks := .later }
def RunEndsUptoCardSaid : Prop := Claim7.holds Tryz.pinned (.plain (OpenSpec.upto runEndsSpec)) runEndsUptoCard
end Rows
end Go.Proofs.YthihjcannjhonaaGreatDoor
