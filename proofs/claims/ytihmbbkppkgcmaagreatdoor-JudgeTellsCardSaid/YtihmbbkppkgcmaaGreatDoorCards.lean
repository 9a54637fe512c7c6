/-
  DERIVED. GIVEN WITH THE SEED: THE CARDS: each row of YtihmbbkppkgcmaaGreatDoorRows.lean that lists a variable, with what it lists TIED to the program's text (the seventh form; the later family's looks); each row that meets fmt, with fmt's text TOLD by the authors' own Lean function (tested against real Go, not proved from fmt's source: count such statements apart). THE CARD IS WHAT COUNTS. Prove the row's statement (the work); the ties are given (YtihmbbkppkgcmaaGreatDoorTie.lean); close each card by the builder's one call (the guide's Derived/Test/ToyasCard.lean, 'card_holds'). Laid BY PROGRAM, IN A SANDBOX (cutbox-door.mjs). By AI agents, Wed Nov 11 2026. No macro, syntax, notation, axiom, sorry.
-/
import Derived.Test.YtihmbbkppkgcmaaGreatDoorRows
import GoSem.ClaimSeven
namespace Go.Proofs.YtihmbbkppkgcmaaGreatDoor
namespace Rows

/-- THE TIED CARD OF 'hourglasslaw22.JudgeScopes'. -/
def judgeScopesCard : Claim7 := { stood := { row := judgeScopesRow, standIns := [], harness := (true, "6e1b7705c68cc213c19fad46be2d68f864cad833d1f5fbcf567c0db4bf4e4933"), looks := true }, kinds := [], alts := [], laidByText := true, laidKinds := [.data, .data, .data, .sentinel, .sentinel, .listed, .data], laidTests := true, laidLooks := .later }
def JudgeScopesCardSaid : Prop := Claim7.holds Tryz.pinned (.plain (OpenSpec.ofChange judgeScopesSpec)) judgeScopesCard

/-- THE TIED CARD OF 'hourglasslaw22.JudgeOthers'. -/
def judgeOthersCard : Claim7 := { stood := { row := judgeOthersRow, standIns := [], harness := (true, "6e1b7705c68cc213c19fad46be2d68f864cad833d1f5fbcf567c0db4bf4e4933"), looks := true }, kinds := [], alts := [], laidByText := true, laidKinds := [.data, .data, .data, .sentinel, .sentinel, .listed, .data], laidTests := true, laidLooks := .later }
def JudgeOthersCardSaid : Prop := Claim7.holds Tryz.pinned (.plain (OpenSpec.ofChange judgeOthersSpec)) judgeOthersCard

/-- THE TIED CARD OF 'hourglasslaw22.JudgeTells'. -/
def judgeTellsCard : Claim7 := { stood := { row := judgeTellsRow, standIns := [], harness := (true, "6e1b7705c68cc213c19fad46be2d68f864cad833d1f5fbcf567c0db4bf4e4933"), looks := true }, kinds := [], alts := [], laidByText := true, laidKinds := [.data, .data, .data, .sentinel, .sentinel, .listed, .data], laidTests := true, laidLooks := .later }
def JudgeTellsCardSaid : Prop := Claim7.holds Tryz.pinned (.plain (OpenSpec.ofChange judgeTellsSpec)) judgeTellsCard

/-- THE SECOND FORM's CARD OF 'hourglasslaw22.JudgeScopes'. -/
def judgeScopesUptoCard : Claim7 := { stood := { row := judgeScopesUptoRow, standIns := [], harness := (true, "6e1b7705c68cc213c19fad46be2d68f864cad833d1f5fbcf567c0db4bf4e4933"), looks := true }, kinds := [], alts := [], laidByText := true, laidKinds := [.data, .data, .data, .sentinel, .sentinel, .listed, .data], laidTests := true, laidLooks := .later }
def JudgeScopesUptoCardSaid : Prop := Claim7.holds Tryz.pinned (.plain (OpenSpec.upto judgeScopesSpec)) judgeScopesUptoCard

/-- THE SECOND FORM's CARD OF 'hourglasslaw22.JudgeOthers'. -/
def judgeOthersUptoCard : Claim7 := { stood := { row := judgeOthersUptoRow, standIns := [], harness := (true, "6e1b7705c68cc213c19fad46be2d68f864cad833d1f5fbcf567c0db4bf4e4933"), looks := true }, kinds := [], alts := [], laidByText := true, laidKinds := [.data, .data, .data, .sentinel, .sentinel, .listed, .data], laidTests := true, laidLooks := .later }
def JudgeOthersUptoCardSaid : Prop := Claim7.holds Tryz.pinned (.plain (OpenSpec.upto judgeOthersSpec)) judgeOthersUptoCard

/-- THE SECOND FORM's CARD OF 'hourglasslaw22.JudgeTells'. -/
def judgeTellsUptoCard : Claim7 := { stood := { row := judgeTellsUptoRow, standIns := [], harness := (true, "6e1b7705c68cc213c19fad46be2d68f864cad833d1f5fbcf567c0db4bf4e4933"), looks := true }, kinds := [], alts := [], laidByText := true, laidKinds := [.data, .data, .data, .sentinel, .sentinel, .listed, .data], laidTests := true, laidLooks := .later }
def JudgeTellsUptoCardSaid : Prop := Claim7.holds Tryz.pinned (.plain (OpenSpec.upto judgeTellsSpec)) judgeTellsUptoCard
end Rows
end Go.Proofs.YtihmbbkppkgcmaaGreatDoor
