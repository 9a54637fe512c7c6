/-
  Part of a proof of RunLoops: contracts of functions that the claim reaches, and plain lemmas.
-/
import Derived.Test.YtoelmnamlnbdhaaGreatDoorKfAG
import Derived.Test.YtoelmnamlnbdhaaGreatDoorKfAA
import Derived.Maps.AppendAt
import Derived.Deep.RegionHeld3
import Derived.Deep.QuietTactic
import Derived.BigQuiet
set_option linter.all false
namespace Go.Proofs.YtoelmnamlnbdhaaGreatDoor
open Go.RowKit
theorem tok_one (t : Hg.Tok) : ∀ u ∈ tokCells t, u.oneCell' = true := by
 intro u hu
 simp only [tokCells, List.mem_cons, List.not_mem_nil, or_false] at hu
 rcases hu with rfl | rfl | rfl <;> rfl
theorem tok_snoc (l : List Hg.Tok) (t : Hg.Tok) : l.flatMap tokCells ++ tokCells t = (l ++ [t]).flatMap tokCells := by simp
def AllRes (w' : World) (e : Ending) (r : Option (List Hg.Tok)) : Prop :=
 match r with
 | none => e = .returned (.tuple #[.slice none 0 0, .int .i64 20])
 | some l => ∃ v, e = .returned (.tuple #[v, .int .i64 0]) ∧ Sl w' w'.heap.size v l.length (l.flatMap tokCells)
theorem AllRes.bad {w' : World} {e : Ending} {r : Option (List Hg.Tok)} (h : r = none) (he : e = .returned (.tuple #[.slice none 0 0, .int .i64 20])) : AllRes w' e r := by subst h; exact he
end Go.Proofs.YtoelmnamlnbdhaaGreatDoor
