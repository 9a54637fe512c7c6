/-
  A part of the proof.
-/
import Derived.Shelf.SlicesE.Reverse
import Derived.Shelf.SlicesE.Compact
import Derived.Shelf.Sort.Plain
import Derived.Sort.OwnSorted
import Derived.Test.YthihjcannjhonaaGreatDoorProg
set_option linter.all false
namespace Go.Proofs
open Go.Shelf
def Tryz.Qx:Go.Shelf.Ren:=⟨fun|190=>145|125=>176|258=>175|128=>205|129=>206|302=>196|303=>197|304=>198|305=>199|306=>200|307=>201|308=>202|309=>203|310=>204|333=>218|329=>219|330=>220|334=>221|335=>222|336=>223|344=>231|n=>n,fun|31=>93|9=>9|3=>3|46=>211|0=>0|51=>240|53=>50|4=>4|183=>234|182=>233|131=>182|5=>5|218=>256|222=>260|228=>277|229=>278|n=>n,fun|n=>n⟩
theorem Tryz.YP:Go.Proofs.Lays.n190 Tryz.prog Tryz.Qx:={
 mixed:=by kernel_rfl
 f125:=Tryz.func176.trans (congrArg some (by kernel_rfl))
 f128:=Tryz.func205.trans (congrArg some (by kernel_rfl))
 f129:=Tryz.func206.trans (congrArg some (by kernel_rfl))
 f190:=Tryz.func145.trans (congrArg some (by kernel_rfl))
 f258:=Tryz.func175.trans (congrArg some (by kernel_rfl))
 f302:=Tryz.func196.trans (congrArg some (by kernel_rfl))
 f303:=Tryz.func197.trans (congrArg some (by kernel_rfl))
 f304:=Tryz.func198.trans (congrArg some (by kernel_rfl))
 f305:=Tryz.func199.trans (congrArg some (by kernel_rfl))
 f306:=Tryz.func200.trans (congrArg some (by kernel_rfl))
 f307:=Tryz.func201.trans (congrArg some (by kernel_rfl))
 f308:=Tryz.func202.trans (congrArg some (by kernel_rfl))
 f309:=Tryz.func203.trans (congrArg some (by kernel_rfl))
 f310:=Tryz.func204.trans (congrArg some (by kernel_rfl))
 f329:=Tryz.func219.trans (congrArg some (by kernel_rfl))
 f330:=Tryz.func220.trans (congrArg some (by kernel_rfl))
 f333:=Tryz.func218.trans (congrArg some (by kernel_rfl))
 f334:=Tryz.func221.trans (congrArg some (by kernel_rfl))
 f335:=Tryz.func222.trans (congrArg some (by kernel_rfl))
 f336:=Tryz.func223.trans (congrArg some (by kernel_rfl))
 f344:=Tryz.func231.trans (congrArg some (by kernel_rfl))
 t0:=Tryz.underlying0
 a0:=Tryz.isAgg0
 z0:=Tryz.sizeOf0
 v0:=Tryz.zeroValue0
 t3:=Tryz.underlying3
 a3:=Tryz.isAgg3
 z3:=Tryz.sizeOf3
 v3:=Tryz.zeroValue3
 t4:=Tryz.underlying4
 a4:=Tryz.isAgg4
 z4:=Tryz.sizeOf4
 v4:=Tryz.zeroValue4
 t5:=Tryz.underlying5
 a5:=Tryz.isAgg5
 z5:=Tryz.sizeOf5
 v5:=Tryz.zeroValue5
 t9:=Tryz.underlying9
 a9:=Tryz.isAgg9
 z9:=Tryz.sizeOf9
 v9:=Tryz.zeroValue9
 t31:=Tryz.underlying93
 a31:=Tryz.isAgg93
 z31:=Tryz.sizeOf93
 v31:=Tryz.zeroValue93
 t46:=Tryz.underlying211
 a46:=Tryz.isAgg211
 z46:=Tryz.sizeOf211
 v46:=Tryz.zeroValue211
 t51:=Tryz.underlying240
 a51:=Tryz.isAgg240
 z51:=Tryz.sizeOf240
 v51:=Tryz.zeroValue240
 t53:=Tryz.underlying50
 a53:=Tryz.isAgg50
 z53:=Tryz.sizeOf50
 v53:=Tryz.zeroValue50
 t131:=Tryz.underlying182
 a131:=Tryz.isAgg182
 z131:=Tryz.sizeOf182
 v131:=Tryz.zeroValue182
 t182:=Tryz.underlying233
 a182:=Tryz.isAgg233
 z182:=Tryz.sizeOf233
 v182:=Tryz.zeroValue233
 t183:=Tryz.underlying234
 a183:=Tryz.isAgg234
 z183:=Tryz.sizeOf234
 v183:=Tryz.zeroValue234
 t218:=Tryz.underlying256
 a218:=Tryz.isAgg256
 z218:=Tryz.sizeOf256
 v218:=Tryz.zeroValue256
 t222:=Tryz.underlying260
 a222:=Tryz.isAgg260
 z222:=Tryz.sizeOf260
 v222:=Tryz.zeroValue260
 t228:=Tryz.underlying277
 a228:=Tryz.isAgg277
 z228:=Tryz.sizeOf277
 v228:=Tryz.zeroValue277
 t229:=Tryz.underlying278
 a229:=Tryz.isAgg278
 z229:=Tryz.sizeOf278
 v229:=Tryz.zeroValue278}
open Go.Sort Go.RowKit in
theorem Tryz.slices_Sort_string(blk off cap:Nat)(ss:List (List UInt8))(w:World)(hH:Holds encStr w blk off ss.toArray)(hblk:blk < w.heap.size)(hsz:ss.length < 4611686018427387904):
 Calls Tryz.prog 145 #[.slice (some ⟨blk,off,none⟩) ss.length cap] w fun e w'=>
  e= .returned (.tuple #[])∧∃n os,w'=grow (putRow encStr (Sort.ahead w n) blk off (ss.mergeSort fun x y=>decide (x≤y)).toArray) os:=Any.slices_Sort_string Tryz.YP blk off cap ss w hH hblk hsz
def Tryz.Wp:Go.Shelf.Ren:=⟨fun|35=>136|n=>n,fun|22=>52|23=>51|3=>3|4=>4|0=>0|n=>n,fun|n=>n⟩
theorem Tryz.lRev:Go.Proofs.SlLaysE.n35 Tryz.prog Tryz.Wp:={
 mixed:=by kernel_rfl
 f35:=⟨Tryz.f136.name,by decide,Tryz.func136.trans (congrArg some (by kernel_rfl))⟩
 t0:=Tryz.underlying0
 a0:=Tryz.isAgg0
 z0:=Tryz.sizeOf0
 v0:=Tryz.zeroValue0
 t3:=Tryz.underlying3
 a3:=Tryz.isAgg3
 z3:=Tryz.sizeOf3
 v3:=Tryz.zeroValue3
 t4:=Tryz.underlying4
 a4:=Tryz.isAgg4
 z4:=Tryz.sizeOf4
 v4:=Tryz.zeroValue4
 t22:=Tryz.underlying52
 a22:=Tryz.isAgg52
 z22:=Tryz.sizeOf52
 v22:=Tryz.zeroValue52
 a23:=Tryz.isAgg51
 z23:=Tryz.sizeOf51}
def Tryz.Wq:Go.Shelf.Ren:=⟨fun|43=>146|n=>n,fun|22=>93|23=>9|3=>3|4=>4|0=>0|n=>n,fun|n=>n⟩
theorem Tryz.lCmp:Go.Proofs.SlLaysE.n43 Tryz.prog Tryz.Wq:={
 mixed:=by kernel_rfl
 f43:=⟨Tryz.f146.name,by decide,Tryz.func146.trans (congrArg some (by kernel_rfl))⟩
 t0:=Tryz.underlying0
 a0:=Tryz.isAgg0
 z0:=Tryz.sizeOf0
 v0:=Tryz.zeroValue0
 t3:=Tryz.underlying3
 a3:=Tryz.isAgg3
 z3:=Tryz.sizeOf3
 v3:=Tryz.zeroValue3
 t4:=Tryz.underlying4
 a4:=Tryz.isAgg4
 z4:=Tryz.sizeOf4
 v4:=Tryz.zeroValue4
 t22:=Tryz.underlying93
 a22:=Tryz.isAgg93
 z22:=Tryz.sizeOf93
 v22:=Tryz.zeroValue93
 a23:=Tryz.isAgg9
 z23:=Tryz.sizeOf9}
end Go.Proofs
