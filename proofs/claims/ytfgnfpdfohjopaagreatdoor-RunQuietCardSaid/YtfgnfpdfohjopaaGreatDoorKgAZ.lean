/-
  A part of the proof.
-/
import Derived.Shelf.SlicesE.Reverse
import Derived.Shelf.SlicesE.Compact
import Derived.Shelf.Sort.Plain
import Derived.Sort.OwnSorted
import Derived.Test.YtfgnfpdfohjopaaGreatDoorProg
set_option linter.all false
namespace Go.Proofs
open Go.Shelf
def Tryz.QI:Go.Shelf.Ren:=⟨fun|190=>139|125=>169|258=>168|128=>197|129=>198|302=>188|303=>189|304=>190|305=>191|306=>192|307=>193|308=>194|309=>195|310=>196|333=>210|329=>211|330=>212|334=>213|335=>214|336=>215|344=>223|n=>n,fun|31=>87|9=>9|3=>3|46=>203|0=>0|51=>231|53=>44|4=>4|183=>225|182=>224|131=>176|5=>5|218=>249|222=>253|228=>271|229=>272|n=>n,fun|n=>n⟩
theorem Tryz.Xg:Go.Proofs.Lays.n190 Tryz.prog Tryz.QI:={
 mixed:=by kernel_rfl
 f125:=Tryz.func169.trans (congrArg some (by kernel_rfl))
 f128:=Tryz.func197.trans (congrArg some (by kernel_rfl))
 f129:=Tryz.func198.trans (congrArg some (by kernel_rfl))
 f190:=Tryz.func139.trans (congrArg some (by kernel_rfl))
 f258:=Tryz.func168.trans (congrArg some (by kernel_rfl))
 f302:=Tryz.func188.trans (congrArg some (by kernel_rfl))
 f303:=Tryz.func189.trans (congrArg some (by kernel_rfl))
 f304:=Tryz.func190.trans (congrArg some (by kernel_rfl))
 f305:=Tryz.func191.trans (congrArg some (by kernel_rfl))
 f306:=Tryz.func192.trans (congrArg some (by kernel_rfl))
 f307:=Tryz.func193.trans (congrArg some (by kernel_rfl))
 f308:=Tryz.func194.trans (congrArg some (by kernel_rfl))
 f309:=Tryz.func195.trans (congrArg some (by kernel_rfl))
 f310:=Tryz.func196.trans (congrArg some (by kernel_rfl))
 f329:=Tryz.func211.trans (congrArg some (by kernel_rfl))
 f330:=Tryz.func212.trans (congrArg some (by kernel_rfl))
 f333:=Tryz.func210.trans (congrArg some (by kernel_rfl))
 f334:=Tryz.func213.trans (congrArg some (by kernel_rfl))
 f335:=Tryz.func214.trans (congrArg some (by kernel_rfl))
 f336:=Tryz.func215.trans (congrArg some (by kernel_rfl))
 f344:=Tryz.func223.trans (congrArg some (by kernel_rfl))
 t0:=Tryz.underlying0
 a0:=Tryz.isAgg0
 z0:=Tryz.sizeOf0
 v0:=Tryz.zeroValue0
 t3:=Tryz.underlying3
 a3:=Tryz.isAgg3
 z3:=Tryz.sizeOf3
 v3:=Tryz.zeroValue3
 t4:=Tryz.underlying4
 a4:=Tryz.isAgg4
 z4:=Tryz.sizeOf4
 v4:=Tryz.zeroValue4
 t5:=Tryz.underlying5
 a5:=Tryz.isAgg5
 z5:=Tryz.sizeOf5
 v5:=Tryz.zeroValue5
 t9:=Tryz.underlying9
 a9:=Tryz.isAgg9
 z9:=Tryz.sizeOf9
 v9:=Tryz.zeroValue9
 t31:=Tryz.underlying87
 a31:=Tryz.isAgg87
 z31:=Tryz.sizeOf87
 v31:=Tryz.zeroValue87
 t46:=Tryz.underlying203
 a46:=Tryz.isAgg203
 z46:=Tryz.sizeOf203
 v46:=Tryz.zeroValue203
 t51:=Tryz.underlying231
 a51:=Tryz.isAgg231
 z51:=Tryz.sizeOf231
 v51:=Tryz.zeroValue231
 t53:=Tryz.underlying44
 a53:=Tryz.isAgg44
 z53:=Tryz.sizeOf44
 v53:=Tryz.zeroValue44
 t131:=Tryz.underlying176
 a131:=Tryz.isAgg176
 z131:=Tryz.sizeOf176
 v131:=Tryz.zeroValue176
 t182:=Tryz.underlying224
 a182:=Tryz.isAgg224
 z182:=Tryz.sizeOf224
 v182:=Tryz.zeroValue224
 t183:=Tryz.underlying225
 a183:=Tryz.isAgg225
 z183:=Tryz.sizeOf225
 v183:=Tryz.zeroValue225
 t218:=Tryz.underlying249
 a218:=Tryz.isAgg249
 z218:=Tryz.sizeOf249
 v218:=Tryz.zeroValue249
 t222:=Tryz.underlying253
 a222:=Tryz.isAgg253
 z222:=Tryz.sizeOf253
 v222:=Tryz.zeroValue253
 t228:=Tryz.underlying271
 a228:=Tryz.isAgg271
 z228:=Tryz.sizeOf271
 v228:=Tryz.zeroValue271
 t229:=Tryz.underlying272
 a229:=Tryz.isAgg272
 z229:=Tryz.sizeOf272
 v229:=Tryz.zeroValue272}
open Go.Sort Go.RowKit in
theorem Tryz.slices_Sort_string(blk off cap:Nat)(ss:List (List UInt8))(w:World)(hH:Holds encStr w blk off ss.toArray)(hblk:blk < w.heap.size)(hsz:ss.length < 4611686018427387904):
 Calls Tryz.prog 139 #[.slice (some ⟨blk,off,none⟩) ss.length cap] w fun e w'=>
  e= .returned (.tuple #[])∧∃n os,w'=grow (putRow encStr (Sort.ahead w n) blk off (ss.mergeSort fun x y=>decide (x≤y)).toArray) os:=Any.slices_Sort_string Tryz.Xg blk off cap ss w hH hblk hsz
def Tryz.V9:Go.Shelf.Ren:=⟨fun|35=>130|n=>n,fun|22=>46|23=>45|3=>3|4=>4|0=>0|n=>n,fun|n=>n⟩
theorem Tryz.lRev:Go.Proofs.SlLaysE.n35 Tryz.prog Tryz.V9:={
 mixed:=by kernel_rfl
 f35:=⟨Tryz.f130.name,by decide,Tryz.func130.trans (congrArg some (by kernel_rfl))⟩
 t0:=Tryz.underlying0
 a0:=Tryz.isAgg0
 z0:=Tryz.sizeOf0
 v0:=Tryz.zeroValue0
 t3:=Tryz.underlying3
 a3:=Tryz.isAgg3
 z3:=Tryz.sizeOf3
 v3:=Tryz.zeroValue3
 t4:=Tryz.underlying4
 a4:=Tryz.isAgg4
 z4:=Tryz.sizeOf4
 v4:=Tryz.zeroValue4
 t22:=Tryz.underlying46
 a22:=Tryz.isAgg46
 z22:=Tryz.sizeOf46
 v22:=Tryz.zeroValue46
 a23:=Tryz.isAgg45
 z23:=Tryz.sizeOf45}
def Tryz.WA:Go.Shelf.Ren:=⟨fun|43=>140|n=>n,fun|22=>87|23=>9|3=>3|4=>4|0=>0|n=>n,fun|n=>n⟩
theorem Tryz.lCmp:Go.Proofs.SlLaysE.n43 Tryz.prog Tryz.WA:={
 mixed:=by kernel_rfl
 f43:=⟨Tryz.f140.name,by decide,Tryz.func140.trans (congrArg some (by kernel_rfl))⟩
 t0:=Tryz.underlying0
 a0:=Tryz.isAgg0
 z0:=Tryz.sizeOf0
 v0:=Tryz.zeroValue0
 t3:=Tryz.underlying3
 a3:=Tryz.isAgg3
 z3:=Tryz.sizeOf3
 v3:=Tryz.zeroValue3
 t4:=Tryz.underlying4
 a4:=Tryz.isAgg4
 z4:=Tryz.sizeOf4
 v4:=Tryz.zeroValue4
 t22:=Tryz.underlying87
 a22:=Tryz.isAgg87
 z22:=Tryz.sizeOf87
 v22:=Tryz.zeroValue87
 a23:=Tryz.isAgg9
 z23:=Tryz.sizeOf9}
end Go.Proofs
