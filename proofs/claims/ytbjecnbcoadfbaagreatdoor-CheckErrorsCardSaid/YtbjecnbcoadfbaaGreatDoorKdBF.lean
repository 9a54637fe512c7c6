/-
  Part of a proof of CheckErrors: contracts of functions that the claim reaches, and plain lemmas.
-/
import Derived.Shelf.SlicesE.Reverse
import Derived.Shelf.SlicesE.Compact
import Derived.Shelf.Sort.Plain
import Derived.Shelf.Lays
import Derived.Shelf.SlLaysE
import Derived.Sort.OwnSorted
import Derived.Test.YtbjecnbcoadfbaaGreatDoorProg
set_option linter.all false
namespace Go.Proofs
open Go.Shelf
def Tryz.lays190_ren : Go.Shelf.Ren := ⟨fun | 190 => 77 | 125 => 102 | 258 => 101 | 128 => 126 | 129 => 127 | 302 => 117 | 303 => 118 | 304 => 119 | 305 => 120 | 306 => 121 | 307 => 122 | 308 => 123 | 309 => 124 | 310 => 125 | 333 => 138 | 329 => 139 | 330 => 140 | 334 => 141 | 335 => 142 | 336 => 143 | 344 => 149 | n => n, fun | 31 => 23 | 9 => 9 | 3 => 3 | 46 => 139 | 0 => 0 | 51 => 165 | 53 => 30 | 4 => 4 | 183 => 158 | 182 => 157 | 131 => 112 | 5 => 5 | 218 => 181 | 222 => 185 | 228 => 202 | 229 => 203 | n => n, fun | n => n⟩
theorem Tryz.lays190 : Go.Proofs.Lays.n190 Tryz.prog Tryz.lays190_ren := {
 mixed := by kernel_rfl
 f125 := Tryz.func102.trans (congrArg some (by kernel_rfl))
 f128 := Tryz.func126.trans (congrArg some (by kernel_rfl))
 f129 := Tryz.func127.trans (congrArg some (by kernel_rfl))
 f190 := Tryz.func77.trans (congrArg some (by kernel_rfl))
 f258 := Tryz.func101.trans (congrArg some (by kernel_rfl))
 f302 := Tryz.func117.trans (congrArg some (by kernel_rfl))
 f303 := Tryz.func118.trans (congrArg some (by kernel_rfl))
 f304 := Tryz.func119.trans (congrArg some (by kernel_rfl))
 f305 := Tryz.func120.trans (congrArg some (by kernel_rfl))
 f306 := Tryz.func121.trans (congrArg some (by kernel_rfl))
 f307 := Tryz.func122.trans (congrArg some (by kernel_rfl))
 f308 := Tryz.func123.trans (congrArg some (by kernel_rfl))
 f309 := Tryz.func124.trans (congrArg some (by kernel_rfl))
 f310 := Tryz.func125.trans (congrArg some (by kernel_rfl))
 f329 := Tryz.func139.trans (congrArg some (by kernel_rfl))
 f330 := Tryz.func140.trans (congrArg some (by kernel_rfl))
 f333 := Tryz.func138.trans (congrArg some (by kernel_rfl))
 f334 := Tryz.func141.trans (congrArg some (by kernel_rfl))
 f335 := Tryz.func142.trans (congrArg some (by kernel_rfl))
 f336 := Tryz.func143.trans (congrArg some (by kernel_rfl))
 f344 := Tryz.func149.trans (congrArg some (by kernel_rfl))
 t0 := Tryz.underlying0
 a0 := Tryz.isAgg0
 z0 := Tryz.sizeOf0
 v0 := Tryz.zeroValue0
 t3 := Tryz.underlying3
 a3 := Tryz.isAgg3
 z3 := Tryz.sizeOf3
 v3 := Tryz.zeroValue3
 t4 := Tryz.underlying4
 a4 := Tryz.isAgg4
 z4 := Tryz.sizeOf4
 v4 := Tryz.zeroValue4
 t5 := Tryz.underlying5
 a5 := Tryz.isAgg5
 z5 := Tryz.sizeOf5
 v5 := Tryz.zeroValue5
 t9 := Tryz.underlying9
 a9 := Tryz.isAgg9
 z9 := Tryz.sizeOf9
 v9 := Tryz.zeroValue9
 t31 := Tryz.underlying23
 a31 := Tryz.isAgg23
 z31 := Tryz.sizeOf23
 v31 := Tryz.zeroValue23
 t46 := Tryz.underlying139
 a46 := Tryz.isAgg139
 z46 := Tryz.sizeOf139
 v46 := Tryz.zeroValue139
 t51 := Tryz.underlying165
 a51 := Tryz.isAgg165
 z51 := Tryz.sizeOf165
 v51 := Tryz.zeroValue165
 t53 := Tryz.underlying30
 a53 := Tryz.isAgg30
 z53 := Tryz.sizeOf30
 v53 := Tryz.zeroValue30
 t131 := Tryz.underlying112
 a131 := Tryz.isAgg112
 z131 := Tryz.sizeOf112
 v131 := Tryz.zeroValue112
 t182 := Tryz.underlying157
 a182 := Tryz.isAgg157
 z182 := Tryz.sizeOf157
 v182 := Tryz.zeroValue157
 t183 := Tryz.underlying158
 a183 := Tryz.isAgg158
 z183 := Tryz.sizeOf158
 v183 := Tryz.zeroValue158
 t218 := Tryz.underlying181
 a218 := Tryz.isAgg181
 z218 := Tryz.sizeOf181
 v218 := Tryz.zeroValue181
 t222 := Tryz.underlying185
 a222 := Tryz.isAgg185
 z222 := Tryz.sizeOf185
 v222 := Tryz.zeroValue185
 t228 := Tryz.underlying202
 a228 := Tryz.isAgg202
 z228 := Tryz.sizeOf202
 v228 := Tryz.zeroValue202
 t229 := Tryz.underlying203
 a229 := Tryz.isAgg203
 z229 := Tryz.sizeOf203
 v229 := Tryz.zeroValue203 }
open Go.Sort Go.RowKit in
theorem Tryz.slices_Sort_string (blk off cap : Nat) (ss : List (List UInt8)) (w : World) (hH : Holds encStr w blk off ss.toArray) (hblk : blk < w.heap.size) (hsz : ss.length < 4611686018427387904) :
 Calls Tryz.prog 77 #[.slice (some ⟨blk, off, none⟩) ss.length cap] w fun e w' =>
  e = .returned (.tuple #[]) ∧ ∃ n os, w' = grow (putRow encStr (Sort.ahead w n) blk off (ss.mergeSort fun x y => decide (x ≤ y)).toArray) os := Any.slices_Sort_string Tryz.lays190 blk off cap ss w hH hblk hsz
def Tryz.lRev_ren : Go.Shelf.Ren := ⟨fun | 35 => 68 | n => n, fun | 22 => 53 | 23 => 31 | 3 => 3 | 4 => 4 | 0 => 0 | n => n, fun | n => n⟩
theorem Tryz.lRev : Go.Proofs.SlLaysE.n35 Tryz.prog Tryz.lRev_ren := {
 mixed := by kernel_rfl
 f35 := ⟨Tryz.f68.name, by decide, Tryz.func68.trans (congrArg some (by kernel_rfl))⟩
 t0 := Tryz.underlying0
 a0 := Tryz.isAgg0
 z0 := Tryz.sizeOf0
 v0 := Tryz.zeroValue0
 t3 := Tryz.underlying3
 a3 := Tryz.isAgg3
 z3 := Tryz.sizeOf3
 v3 := Tryz.zeroValue3
 t4 := Tryz.underlying4
 a4 := Tryz.isAgg4
 z4 := Tryz.sizeOf4
 v4 := Tryz.zeroValue4
 t22 := Tryz.underlying53
 a22 := Tryz.isAgg53
 z22 := Tryz.sizeOf53
 v22 := Tryz.zeroValue53
 a23 := Tryz.isAgg31
 z23 := Tryz.sizeOf31 }
def Tryz.lCmp_ren : Go.Shelf.Ren := ⟨fun | 43 => 78 | n => n, fun | 22 => 23 | 23 => 9 | 3 => 3 | 4 => 4 | 0 => 0 | n => n, fun | n => n⟩
theorem Tryz.lCmp : Go.Proofs.SlLaysE.n43 Tryz.prog Tryz.lCmp_ren := {
 mixed := by kernel_rfl
 f43 := ⟨Tryz.f78.name, by decide, Tryz.func78.trans (congrArg some (by kernel_rfl))⟩
 t0 := Tryz.underlying0
 a0 := Tryz.isAgg0
 z0 := Tryz.sizeOf0
 v0 := Tryz.zeroValue0
 t3 := Tryz.underlying3
 a3 := Tryz.isAgg3
 z3 := Tryz.sizeOf3
 v3 := Tryz.zeroValue3
 t4 := Tryz.underlying4
 a4 := Tryz.isAgg4
 z4 := Tryz.sizeOf4
 v4 := Tryz.zeroValue4
 t22 := Tryz.underlying23
 a22 := Tryz.isAgg23
 z22 := Tryz.sizeOf23
 v22 := Tryz.zeroValue23
 a23 := Tryz.isAgg9
 z23 := Tryz.sizeOf9 }
end Go.Proofs
