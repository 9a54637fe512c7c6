/-
  Part of a proof of RunLoops: contracts of functions that the claim reaches, and plain lemmas.
-/
import Derived.Shelf.SlicesE.Reverse
import Derived.Shelf.SlicesE.Compact
import Derived.Shelf.Sort.Plain
import Derived.Shelf.Lays
import Derived.Shelf.SlLaysE
import Derived.Sort.OwnSorted
import Derived.Test.YtoelmnamlnbdhaaGreatDoorProg
set_option linter.all false
namespace Go.Proofs
open Go.Shelf
def Tryz.lays190_ren : Go.Shelf.Ren := ⟨fun | 190 => 102 | 125 => 124 | 258 => 123 | 128 => 148 | 129 => 134 | 302 => 139 | 303 => 140 | 304 => 141 | 305 => 142 | 306 => 143 | 307 => 144 | 308 => 145 | 309 => 146 | 310 => 147 | 333 => 155 | 329 => 156 | 330 => 157 | 334 => 158 | 335 => 159 | 336 => 160 | 344 => 163 | n => n, fun | 31 => 99 | 9 => 9 | 3 => 3 | 46 => 154 | 0 => 0 | 51 => 181 | 53 => 29 | 4 => 4 | 183 => 191 | 182 => 190 | 131 => 136 | 5 => 5 | 218 => 214 | 222 => 218 | 228 => 226 | 229 => 227 | n => n, fun | n => n⟩
theorem Tryz.lays190 : Go.Proofs.Lays.n190 Tryz.prog Tryz.lays190_ren := {
 mixed := by kernel_rfl
 f125 := Tryz.func124.trans (congrArg some (by kernel_rfl))
 f128 := Tryz.func148.trans (congrArg some (by kernel_rfl))
 f129 := Tryz.func134.trans (congrArg some (by kernel_rfl))
 f190 := Tryz.func102.trans (congrArg some (by kernel_rfl))
 f258 := Tryz.func123.trans (congrArg some (by kernel_rfl))
 f302 := Tryz.func139.trans (congrArg some (by kernel_rfl))
 f303 := Tryz.func140.trans (congrArg some (by kernel_rfl))
 f304 := Tryz.func141.trans (congrArg some (by kernel_rfl))
 f305 := Tryz.func142.trans (congrArg some (by kernel_rfl))
 f306 := Tryz.func143.trans (congrArg some (by kernel_rfl))
 f307 := Tryz.func144.trans (congrArg some (by kernel_rfl))
 f308 := Tryz.func145.trans (congrArg some (by kernel_rfl))
 f309 := Tryz.func146.trans (congrArg some (by kernel_rfl))
 f310 := Tryz.func147.trans (congrArg some (by kernel_rfl))
 f329 := Tryz.func156.trans (congrArg some (by kernel_rfl))
 f330 := Tryz.func157.trans (congrArg some (by kernel_rfl))
 f333 := Tryz.func155.trans (congrArg some (by kernel_rfl))
 f334 := Tryz.func158.trans (congrArg some (by kernel_rfl))
 f335 := Tryz.func159.trans (congrArg some (by kernel_rfl))
 f336 := Tryz.func160.trans (congrArg some (by kernel_rfl))
 f344 := Tryz.func163.trans (congrArg some (by kernel_rfl))
 t0 := Tryz.underlying0
 a0 := Tryz.isAgg0
 z0 := Tryz.sizeOf0
 v0 := Tryz.zeroValue0
 t3 := Tryz.underlying3
 a3 := Tryz.isAgg3
 z3 := Tryz.sizeOf3
 v3 := Tryz.zeroValue3
 t4 := Tryz.underlying4
 a4 := Tryz.isAgg4
 z4 := Tryz.sizeOf4
 v4 := Tryz.zeroValue4
 t5 := Tryz.underlying5
 a5 := Tryz.isAgg5
 z5 := Tryz.sizeOf5
 v5 := Tryz.zeroValue5
 t9 := Tryz.underlying9
 a9 := Tryz.isAgg9
 z9 := Tryz.sizeOf9
 v9 := Tryz.zeroValue9
 t31 := Tryz.underlying99
 a31 := Tryz.isAgg99
 z31 := Tryz.sizeOf99
 v31 := Tryz.zeroValue99
 t46 := Tryz.underlying154
 a46 := Tryz.isAgg154
 z46 := Tryz.sizeOf154
 v46 := Tryz.zeroValue154
 t51 := Tryz.underlying181
 a51 := Tryz.isAgg181
 z51 := Tryz.sizeOf181
 v51 := Tryz.zeroValue181
 t53 := Tryz.underlying29
 a53 := Tryz.isAgg29
 z53 := Tryz.sizeOf29
 v53 := Tryz.zeroValue29
 t131 := Tryz.underlying136
 a131 := Tryz.isAgg136
 z131 := Tryz.sizeOf136
 v131 := Tryz.zeroValue136
 t182 := Tryz.underlying190
 a182 := Tryz.isAgg190
 z182 := Tryz.sizeOf190
 v182 := Tryz.zeroValue190
 t183 := Tryz.underlying191
 a183 := Tryz.isAgg191
 z183 := Tryz.sizeOf191
 v183 := Tryz.zeroValue191
 t218 := Tryz.underlying214
 a218 := Tryz.isAgg214
 z218 := Tryz.sizeOf214
 v218 := Tryz.zeroValue214
 t222 := Tryz.underlying218
 a222 := Tryz.isAgg218
 z222 := Tryz.sizeOf218
 v222 := Tryz.zeroValue218
 t228 := Tryz.underlying226
 a228 := Tryz.isAgg226
 z228 := Tryz.sizeOf226
 v228 := Tryz.zeroValue226
 t229 := Tryz.underlying227
 a229 := Tryz.isAgg227
 z229 := Tryz.sizeOf227
 v229 := Tryz.zeroValue227 }
open Go.Sort Go.RowKit in
theorem Tryz.slices_Sort_string (blk off cap : Nat) (ss : List (List UInt8)) (w : World) (hH : Holds encStr w blk off ss.toArray) (hblk : blk < w.heap.size) (hsz : ss.length < 4611686018427387904) :
 Calls Tryz.prog 102 #[.slice (some ⟨blk, off, none⟩) ss.length cap] w fun e w' =>
  e = .returned (.tuple #[]) ∧ ∃ n os, w' = grow (putRow encStr (Sort.ahead w n) blk off (ss.mergeSort fun x y => decide (x ≤ y)).toArray) os := Any.slices_Sort_string Tryz.lays190 blk off cap ss w hH hblk hsz
def Tryz.lRev_ren : Go.Shelf.Ren := ⟨fun | 35 => 93 | n => n, fun | 22 => 68 | 23 => 45 | 3 => 3 | 4 => 4 | 0 => 0 | n => n, fun | n => n⟩
theorem Tryz.lRev : Go.Proofs.SlLaysE.n35 Tryz.prog Tryz.lRev_ren := {
 mixed := by kernel_rfl
 f35 := ⟨Tryz.f93.name, by decide, Tryz.func93.trans (congrArg some (by kernel_rfl))⟩
 t0 := Tryz.underlying0
 a0 := Tryz.isAgg0
 z0 := Tryz.sizeOf0
 v0 := Tryz.zeroValue0
 t3 := Tryz.underlying3
 a3 := Tryz.isAgg3
 z3 := Tryz.sizeOf3
 v3 := Tryz.zeroValue3
 t4 := Tryz.underlying4
 a4 := Tryz.isAgg4
 z4 := Tryz.sizeOf4
 v4 := Tryz.zeroValue4
 t22 := Tryz.underlying68
 a22 := Tryz.isAgg68
 z22 := Tryz.sizeOf68
 v22 := Tryz.zeroValue68
 a23 := Tryz.isAgg45
 z23 := Tryz.sizeOf45 }
def Tryz.lCmp_ren : Go.Shelf.Ren := ⟨fun | 43 => 103 | n => n, fun | 22 => 99 | 23 => 9 | 3 => 3 | 4 => 4 | 0 => 0 | n => n, fun | n => n⟩
theorem Tryz.lCmp : Go.Proofs.SlLaysE.n43 Tryz.prog Tryz.lCmp_ren := {
 mixed := by kernel_rfl
 f43 := ⟨Tryz.f103.name, by decide, Tryz.func103.trans (congrArg some (by kernel_rfl))⟩
 t0 := Tryz.underlying0
 a0 := Tryz.isAgg0
 z0 := Tryz.sizeOf0
 v0 := Tryz.zeroValue0
 t3 := Tryz.underlying3
 a3 := Tryz.isAgg3
 z3 := Tryz.sizeOf3
 v3 := Tryz.zeroValue3
 t4 := Tryz.underlying4
 a4 := Tryz.isAgg4
 z4 := Tryz.sizeOf4
 v4 := Tryz.zeroValue4
 t22 := Tryz.underlying99
 a22 := Tryz.isAgg99
 z22 := Tryz.sizeOf99
 v22 := Tryz.zeroValue99
 a23 := Tryz.isAgg9
 z23 := Tryz.sizeOf9 }
end Go.Proofs
