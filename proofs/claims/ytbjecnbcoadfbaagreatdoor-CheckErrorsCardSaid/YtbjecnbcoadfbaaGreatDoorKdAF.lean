/-
  Part of a proof of CheckErrors: contracts of functions that the claim reaches, and plain lemmas.
-/
import Derived.Test.YtbjecnbcoadfbaaGreatDoorKdAD
import Derived.RangeFuncBox
set_option linter.all false
namespace Go.Proofs.YtbjecnbcoadfbaaGreatDoor
open Go.RowKit
end Go.Proofs.YtbjecnbcoadfbaaGreatDoor
namespace Go.Proofs.YtbjecnbcoadfbaaGreatDoor
open Go.RowKit
end Go.Proofs.YtbjecnbcoadfbaaGreatDoor
