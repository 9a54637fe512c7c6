/-
  Part of a proof of CheckErrors: contracts of functions that the claim reaches, and plain lemmas.
-/
import Derived.Test.YtbjecnbcoadfbaaGreatDoorKdAG
import Derived.Deep.QuietTactic
import Derived.BigQuiet
import Derived.Deep.CutRange
set_option linter.all false
namespace Go.Proofs.YtbjecnbcoadfbaaGreatDoor
open Go.RowKit
end Go.Proofs.YtbjecnbcoadfbaaGreatDoor
