/-
  A part of the proof.
-/
import Derived.Shelf.SlicesE.Reverse
import Derived.Shelf.SlicesE.Compact
import Derived.Shelf.Sort.Plain
import Derived.Sort.OwnSorted
import Derived.Test.YtijhlanclfajiaaGreatDoorProg
set_option linter.all false
namespace Go.Proofs
open Go.Shelf
def Tryz.Qq:Go.Shelf.Ren:=⟨fun|190=>106|125=>145|258=>144|128=>177|129=>178|302=>168|303=>169|304=>170|305=>171|306=>172|307=>173|308=>174|309=>175|310=>176|333=>194|329=>195|330=>196|334=>197|335=>198|336=>199|344=>210|n=>n,fun|31=>87|9=>9|3=>3|46=>186|0=>0|51=>206|53=>36|4=>4|183=>200|182=>199|131=>154|5=>5|218=>223|222=>227|228=>244|229=>245|n=>n,fun|n=>n⟩
theorem Tryz.YQ:Go.Proofs.Lays.n190 Tryz.prog Tryz.Qq:={
 mixed:=by kernel_rfl
 f125:=Tryz.func145.trans (congrArg some (by kernel_rfl))
 f128:=Tryz.func177.trans (congrArg some (by kernel_rfl))
 f129:=Tryz.func178.trans (congrArg some (by kernel_rfl))
 f190:=Tryz.func106.trans (congrArg some (by kernel_rfl))
 f258:=Tryz.func144.trans (congrArg some (by kernel_rfl))
 f302:=Tryz.func168.trans (congrArg some (by kernel_rfl))
 f303:=Tryz.func169.trans (congrArg some (by kernel_rfl))
 f304:=Tryz.func170.trans (congrArg some (by kernel_rfl))
 f305:=Tryz.func171.trans (congrArg some (by kernel_rfl))
 f306:=Tryz.func172.trans (congrArg some (by kernel_rfl))
 f307:=Tryz.func173.trans (congrArg some (by kernel_rfl))
 f308:=Tryz.func174.trans (congrArg some (by kernel_rfl))
 f309:=Tryz.func175.trans (congrArg some (by kernel_rfl))
 f310:=Tryz.func176.trans (congrArg some (by kernel_rfl))
 f329:=Tryz.func195.trans (congrArg some (by kernel_rfl))
 f330:=Tryz.func196.trans (congrArg some (by kernel_rfl))
 f333:=Tryz.func194.trans (congrArg some (by kernel_rfl))
 f334:=Tryz.func197.trans (congrArg some (by kernel_rfl))
 f335:=Tryz.func198.trans (congrArg some (by kernel_rfl))
 f336:=Tryz.func199.trans (congrArg some (by kernel_rfl))
 f344:=Tryz.func210.trans (congrArg some (by kernel_rfl))
 t0:=Tryz.underlying0
 a0:=Tryz.isAgg0
 z0:=Tryz.sizeOf0
 v0:=Tryz.zeroValue0
 t3:=Tryz.underlying3
 a3:=Tryz.isAgg3
 z3:=Tryz.sizeOf3
 v3:=Tryz.zeroValue3
 t4:=Tryz.underlying4
 a4:=Tryz.isAgg4
 z4:=Tryz.sizeOf4
 v4:=Tryz.zeroValue4
 t5:=Tryz.underlying5
 a5:=Tryz.isAgg5
 z5:=Tryz.sizeOf5
 v5:=Tryz.zeroValue5
 t9:=Tryz.underlying9
 a9:=Tryz.isAgg9
 z9:=Tryz.sizeOf9
 v9:=Tryz.zeroValue9
 t31:=Tryz.underlying87
 a31:=Tryz.isAgg87
 z31:=Tryz.sizeOf87
 v31:=Tryz.zeroValue87
 t46:=Tryz.underlying186
 a46:=Tryz.isAgg186
 z46:=Tryz.sizeOf186
 v46:=Tryz.zeroValue186
 t51:=Tryz.underlying206
 a51:=Tryz.isAgg206
 z51:=Tryz.sizeOf206
 v51:=Tryz.zeroValue206
 t53:=Tryz.underlying36
 a53:=Tryz.isAgg36
 z53:=Tryz.sizeOf36
 v53:=Tryz.zeroValue36
 t131:=Tryz.underlying154
 a131:=Tryz.isAgg154
 z131:=Tryz.sizeOf154
 v131:=Tryz.zeroValue154
 t182:=Tryz.underlying199
 a182:=Tryz.isAgg199
 z182:=Tryz.sizeOf199
 v182:=Tryz.zeroValue199
 t183:=Tryz.underlying200
 a183:=Tryz.isAgg200
 z183:=Tryz.sizeOf200
 v183:=Tryz.zeroValue200
 t218:=Tryz.underlying223
 a218:=Tryz.isAgg223
 z218:=Tryz.sizeOf223
 v218:=Tryz.zeroValue223
 t222:=Tryz.underlying227
 a222:=Tryz.isAgg227
 z222:=Tryz.sizeOf227
 v222:=Tryz.zeroValue227
 t228:=Tryz.underlying244
 a228:=Tryz.isAgg244
 z228:=Tryz.sizeOf244
 v228:=Tryz.zeroValue244
 t229:=Tryz.underlying245
 a229:=Tryz.isAgg245
 z229:=Tryz.sizeOf245
 v229:=Tryz.zeroValue245}
open Go.Sort Go.RowKit in
theorem Tryz.slices_Sort_string(blk off cap:Nat)(ss:List (List UInt8))(w:World)(hH:Holds encStr w blk off ss.toArray)(hblk:blk < w.heap.size)(hsz:ss.length < 4611686018427387904):
 Calls Tryz.prog 106 #[.slice (some ⟨blk,off,none⟩) ss.length cap] w fun e w'=>
  e= .returned (.tuple #[])∧∃n os,w'=grow (putRow encStr (Sort.ahead w n) blk off (ss.mergeSort fun x y=>decide (x≤y)).toArray) os:=Any.slices_Sort_string Tryz.YQ blk off cap ss w hH hblk hsz
def Tryz.Wn:Go.Shelf.Ren:=⟨fun|35=>39|n=>n,fun|22=>42|23=>37|3=>3|4=>4|0=>0|n=>n,fun|n=>n⟩
theorem Tryz.lRev:Go.Proofs.SlLaysE.n35 Tryz.prog Tryz.Wn:={
 mixed:=by kernel_rfl
 f35:=⟨Tryz.f39.name,by decide,Tryz.func39.trans (congrArg some (by kernel_rfl))⟩
 t0:=Tryz.underlying0
 a0:=Tryz.isAgg0
 z0:=Tryz.sizeOf0
 v0:=Tryz.zeroValue0
 t3:=Tryz.underlying3
 a3:=Tryz.isAgg3
 z3:=Tryz.sizeOf3
 v3:=Tryz.zeroValue3
 t4:=Tryz.underlying4
 a4:=Tryz.isAgg4
 z4:=Tryz.sizeOf4
 v4:=Tryz.zeroValue4
 t22:=Tryz.underlying42
 a22:=Tryz.isAgg42
 z22:=Tryz.sizeOf42
 v22:=Tryz.zeroValue42
 a23:=Tryz.isAgg37
 z23:=Tryz.sizeOf37}
def Tryz.Wo:Go.Shelf.Ren:=⟨fun|43=>107|n=>n,fun|22=>87|23=>9|3=>3|4=>4|0=>0|n=>n,fun|n=>n⟩
theorem Tryz.lCmp:Go.Proofs.SlLaysE.n43 Tryz.prog Tryz.Wo:={
 mixed:=by kernel_rfl
 f43:=⟨Tryz.f107.name,by decide,Tryz.func107.trans (congrArg some (by kernel_rfl))⟩
 t0:=Tryz.underlying0
 a0:=Tryz.isAgg0
 z0:=Tryz.sizeOf0
 v0:=Tryz.zeroValue0
 t3:=Tryz.underlying3
 a3:=Tryz.isAgg3
 z3:=Tryz.sizeOf3
 v3:=Tryz.zeroValue3
 t4:=Tryz.underlying4
 a4:=Tryz.isAgg4
 z4:=Tryz.sizeOf4
 v4:=Tryz.zeroValue4
 t22:=Tryz.underlying87
 a22:=Tryz.isAgg87
 z22:=Tryz.sizeOf87
 v22:=Tryz.zeroValue87
 a23:=Tryz.isAgg9
 z23:=Tryz.sizeOf9}
end Go.Proofs
