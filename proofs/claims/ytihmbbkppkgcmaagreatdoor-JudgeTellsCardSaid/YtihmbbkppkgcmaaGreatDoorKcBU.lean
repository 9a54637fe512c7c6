/-
  Part of a proof: contracts of functions that the claim reaches, and plain lemmas.
-/
import Derived.Test.YtihmbbkppkgcmaaGreatDoorKcBT
import Derived.Test.YtihmbbkppkgcmaaGreatDoorCards
import Derived.Test.YtihmbbkppkgcmaaGreatDoorTie
import Derived.SevenTiedAt
set_option linter.all false
namespace Go.Proofs.YtihmbbkppkgcmaaGreatDoor
open Go
theorem judgeTells_card : Rows.JudgeTellsCardSaid :=
 Claim7.holds_tied_plain_at .later [] [.data, .data, .data, .sentinel, .sentinel, .listed, .data] true (true, "6e1b7705c68cc213c19fad46be2d68f864cad833d1f5fbcf567c0db4bf4e4933") true
  judgeTells_holds (fun _ h => by cases h) (by kernel_rfl) (fun _ h => by cases h) judgeTells_row_tie rfl ⟨rfl, rfl⟩ (by kernel_rfl) rfl
  (fun f fn hf hfn => by
   obtain rfl : f = 5 := Option.some.inj ((show Tryz.prog.funcNamed "hourglass/hourglasslaw22.JudgeTells" = some 5 by kernel_rfl).symm.trans hf) |>.symm
   obtain rfl : fn = Tryz.f5 := (Option.some.inj (Tryz.func5.symm.trans hfn)).symm
   exact ⟨by kernel_rfl, fun j t ht => by
    rw [Tryz.params5] at ht
    have hm : t ∈ [9, 41, 41, 5] := by simpa using Array.mem_of_getElem? ht
    have hall : ([9, 41, 41, 5].all fun u => !Tryz.prog.wantsStandIn u) = true := by kernel_rfl
    exact (show Tryz.prog.wantsStandIn t = false by simpa using List.all_eq_true.1 hall t hm)⟩)
  (by kernel_rfl)
end Go.Proofs.YtihmbbkppkgcmaaGreatDoor
