/-
  Part of a proof of CheckErrors: contracts of functions that the claim reaches, and plain lemmas.
-/
import Derived.Test.YtbjecnbcoadfbaaGreatDoorKdBR
import Derived.Test.YtbjecnbcoadfbaaGreatDoorCards
import Derived.Test.YtbjecnbcoadfbaaGreatDoorTie
import Derived.SevenTiedAt
set_option linter.all false
namespace Go.Proofs.YtbjecnbcoadfbaaGreatDoor
open Go
theorem checkErrors_card : Rows.CheckErrorsCardSaid :=
 Claim7.holds_tied_plain_at .later [] [.data, .data, .data, .sentinel, .sentinel, .listed, .data] true (true, "e580d0d61a28464decd80c793a90069b7488a0bc3fa2efd5240917f093bccba9") true
  checkErrors_holds (fun _ h => by cases h) (by kernel_rfl) (fun _ h => by cases h) checkErrors_row_tie rfl ⟨rfl, rfl⟩ (by kernel_rfl) rfl
  (fun f fn hf hfn => by
   obtain rfl : f = 3 := Option.some.inj ((show Tryz.prog.funcNamed "hourglass/hourglasslaw11.CheckErrors" = some 3 by kernel_rfl).symm.trans hf) |>.symm
   obtain rfl : fn = Tryz.f3 := (Option.some.inj (Tryz.func3.symm.trans hfn)).symm
   exact ⟨by kernel_rfl, fun j t ht => by
    rw [Tryz.params3] at ht
    have hm : t ∈ [5, 5] := by simpa using Array.mem_of_getElem? ht
    have hall : ([5, 5].all fun u => !Tryz.prog.wantsStandIn u) = true := by kernel_rfl
    exact (show Tryz.prog.wantsStandIn t = false by simpa using List.all_eq_true.1 hall t hm)⟩)
  (by kernel_rfl)
end Go.Proofs.YtbjecnbcoadfbaaGreatDoor
