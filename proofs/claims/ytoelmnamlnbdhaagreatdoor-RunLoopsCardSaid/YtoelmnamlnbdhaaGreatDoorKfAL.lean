/-
  Part of a proof of RunLoops: contracts of functions that the claim reaches, and plain lemmas.
-/
import Derived.Test.YtoelmnamlnbdhaaGreatDoorKfAG
import Derived.Test.YtoelmnamlnbdhaaGreatDoorKfAE
import Derived.Deep.CutRange
import Derived.Deep.LoopGhost
import Derived.RangeFuncBox
set_option linter.all false
namespace Go.Proofs.YtoelmnamlnbdhaaGreatDoor
open Go.RowKit
end Go.Proofs.YtoelmnamlnbdhaaGreatDoor
