/-
  Part of the proof of CheckLists.
-/
import Derived.Shelf.SlicesE.Reverse
import Derived.Shelf.SlicesE.Compact
import Derived.Shelf.Sort.Plain
import Derived.Shelf.Lays
import Derived.Shelf.SlLaysE
import Derived.Sort.OwnSorted
import Derived.Test.YtljmibnfmilfbaaGreatDoorProg
set_option linter.all false
namespace Go.Proofs
open Go.Shelf
def Tryz.QN:Go.Shelf.Ren:=⟨fun|190=>120|125=>149|258=>148|128=>178|129=>179|302=>169|303=>170|304=>171|305=>172|306=>173|307=>174|308=>175|309=>176|310=>177|333=>191|329=>192|330=>193|334=>194|335=>195|336=>196|344=>202|n=>n,fun|31=>41|9=>9|3=>3|46=>180|0=>0|51=>208|53=>29|4=>4|183=>202|182=>201|131=>159|5=>5|218=>224|222=>228|228=>245|229=>246|n=>n,fun|n=>n⟩
theorem Tryz.Xm:Go.Proofs.Lays.n190 Tryz.prog Tryz.QN:={
 mixed:=by kernel_rfl
 f125:=Tryz.func149.trans (congrArg some (by kernel_rfl))
 f128:=Tryz.func178.trans (congrArg some (by kernel_rfl))
 f129:=Tryz.func179.trans (congrArg some (by kernel_rfl))
 f190:=Tryz.func120.trans (congrArg some (by kernel_rfl))
 f258:=Tryz.func148.trans (congrArg some (by kernel_rfl))
 f302:=Tryz.func169.trans (congrArg some (by kernel_rfl))
 f303:=Tryz.func170.trans (congrArg some (by kernel_rfl))
 f304:=Tryz.func171.trans (congrArg some (by kernel_rfl))
 f305:=Tryz.func172.trans (congrArg some (by kernel_rfl))
 f306:=Tryz.func173.trans (congrArg some (by kernel_rfl))
 f307:=Tryz.func174.trans (congrArg some (by kernel_rfl))
 f308:=Tryz.func175.trans (congrArg some (by kernel_rfl))
 f309:=Tryz.func176.trans (congrArg some (by kernel_rfl))
 f310:=Tryz.func177.trans (congrArg some (by kernel_rfl))
 f329:=Tryz.func192.trans (congrArg some (by kernel_rfl))
 f330:=Tryz.func193.trans (congrArg some (by kernel_rfl))
 f333:=Tryz.func191.trans (congrArg some (by kernel_rfl))
 f334:=Tryz.func194.trans (congrArg some (by kernel_rfl))
 f335:=Tryz.func195.trans (congrArg some (by kernel_rfl))
 f336:=Tryz.func196.trans (congrArg some (by kernel_rfl))
 f344:=Tryz.func202.trans (congrArg some (by kernel_rfl))
 t0:=Tryz.underlying0
 a0:=Tryz.isAgg0
 z0:=Tryz.sizeOf0
 v0:=Tryz.zeroValue0
 t3:=Tryz.underlying3
 a3:=Tryz.isAgg3
 z3:=Tryz.sizeOf3
 v3:=Tryz.zeroValue3
 t4:=Tryz.underlying4
 a4:=Tryz.isAgg4
 z4:=Tryz.sizeOf4
 v4:=Tryz.zeroValue4
 t5:=Tryz.underlying5
 a5:=Tryz.isAgg5
 z5:=Tryz.sizeOf5
 v5:=Tryz.zeroValue5
 t9:=Tryz.underlying9
 a9:=Tryz.isAgg9
 z9:=Tryz.sizeOf9
 v9:=Tryz.zeroValue9
 t31:=Tryz.underlying41
 a31:=Tryz.isAgg41
 z31:=Tryz.sizeOf41
 v31:=Tryz.zeroValue41
 t46:=Tryz.underlying180
 a46:=Tryz.isAgg180
 z46:=Tryz.sizeOf180
 v46:=Tryz.zeroValue180
 t51:=Tryz.underlying208
 a51:=Tryz.isAgg208
 z51:=Tryz.sizeOf208
 v51:=Tryz.zeroValue208
 t53:=Tryz.underlying29
 a53:=Tryz.isAgg29
 z53:=Tryz.sizeOf29
 v53:=Tryz.zeroValue29
 t131:=Tryz.underlying159
 a131:=Tryz.isAgg159
 z131:=Tryz.sizeOf159
 v131:=Tryz.zeroValue159
 t182:=Tryz.underlying201
 a182:=Tryz.isAgg201
 z182:=Tryz.sizeOf201
 v182:=Tryz.zeroValue201
 t183:=Tryz.underlying202
 a183:=Tryz.isAgg202
 z183:=Tryz.sizeOf202
 v183:=Tryz.zeroValue202
 t218:=Tryz.underlying224
 a218:=Tryz.isAgg224
 z218:=Tryz.sizeOf224
 v218:=Tryz.zeroValue224
 t222:=Tryz.underlying228
 a222:=Tryz.isAgg228
 z222:=Tryz.sizeOf228
 v222:=Tryz.zeroValue228
 t228:=Tryz.underlying245
 a228:=Tryz.isAgg245
 z228:=Tryz.sizeOf245
 v228:=Tryz.zeroValue245
 t229:=Tryz.underlying246
 a229:=Tryz.isAgg246
 z229:=Tryz.sizeOf246
 v229:=Tryz.zeroValue246}
open Go.Sort Go.RowKit in
theorem Tryz.slices_Sort_string(blk off cap:Nat)(ss:List (List UInt8))(w:World)(hH:Holds encStr w blk off ss.toArray)(hblk:blk < w.heap.size)(hsz:ss.length < 4611686018427387904):
 Calls Tryz.prog 120 #[.slice (some ⟨blk,off,none⟩) ss.length cap] w fun e w'=>
  e= .returned (.tuple #[])∧∃n os,w'=grow (putRow encStr (Sort.ahead w n) blk off (ss.mergeSort fun x y=>decide (x≤y)).toArray) os:=Any.slices_Sort_string Tryz.Xm blk off cap ss w hH hblk hsz
def Tryz.WN:Go.Shelf.Ren:=⟨fun|35=>52|n=>n,fun|22=>31|23=>30|3=>3|4=>4|0=>0|n=>n,fun|n=>n⟩
theorem Tryz.lRev:Go.Proofs.SlLaysE.n35 Tryz.prog Tryz.WN:={
 mixed:=by kernel_rfl
 f35:=⟨Tryz.f52.name,by decide,Tryz.func52.trans (congrArg some (by kernel_rfl))⟩
 t0:=Tryz.underlying0
 a0:=Tryz.isAgg0
 z0:=Tryz.sizeOf0
 v0:=Tryz.zeroValue0
 t3:=Tryz.underlying3
 a3:=Tryz.isAgg3
 z3:=Tryz.sizeOf3
 v3:=Tryz.zeroValue3
 t4:=Tryz.underlying4
 a4:=Tryz.isAgg4
 z4:=Tryz.sizeOf4
 v4:=Tryz.zeroValue4
 t22:=Tryz.underlying31
 a22:=Tryz.isAgg31
 z22:=Tryz.sizeOf31
 v22:=Tryz.zeroValue31
 a23:=Tryz.isAgg30
 z23:=Tryz.sizeOf30}
def Tryz.WO:Go.Shelf.Ren:=⟨fun|43=>121|n=>n,fun|22=>41|23=>9|3=>3|4=>4|0=>0|n=>n,fun|n=>n⟩
theorem Tryz.lCmp:Go.Proofs.SlLaysE.n43 Tryz.prog Tryz.WO:={
 mixed:=by kernel_rfl
 f43:=⟨Tryz.f121.name,by decide,Tryz.func121.trans (congrArg some (by kernel_rfl))⟩
 t0:=Tryz.underlying0
 a0:=Tryz.isAgg0
 z0:=Tryz.sizeOf0
 v0:=Tryz.zeroValue0
 t3:=Tryz.underlying3
 a3:=Tryz.isAgg3
 z3:=Tryz.sizeOf3
 v3:=Tryz.zeroValue3
 t4:=Tryz.underlying4
 a4:=Tryz.isAgg4
 z4:=Tryz.sizeOf4
 v4:=Tryz.zeroValue4
 t22:=Tryz.underlying41
 a22:=Tryz.isAgg41
 z22:=Tryz.sizeOf41
 v22:=Tryz.zeroValue41
 a23:=Tryz.isAgg9
 z23:=Tryz.sizeOf9}
end Go.Proofs
