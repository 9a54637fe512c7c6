/-
  A part of the proof.
-/
import Derived.Test.YtijhlanclfajiaaGreatDoorKiBI
import Derived.Test.YtijhlanclfajiaaGreatDoorKiAV
set_option linter.all false
set_option maxHeartbeats 32000000
set_option maxRecDepth 100000
namespace Go.Proofs.YtijhlanclfajiaaGreatDoor
open Go.RowKit
open Hg (Bend Dy IM KB rowM Tg)
theorem MB(s:List UInt8)(bv:Value)(bs:List Bend)(w:World)(hs:s.length≤1000000000000000)(hT:DX w)(hb:Hy w bv bs)(hbs:∀b∈bs,Nr b)(hbl:bs.length≤1000000000000000):
 Calls Tryz.prog 3 #[.string ⟨s.toArray⟩,bv] w fun e w'=>e= .returned (.bool true)∧Below w.heap.size w w':=by
 have TA:=zz (RQ w hT);have TG:=zz (Hg.Un s bs);have TP:=fun W (h:Below w.heap.size w W)=>Nu s bv bs W hs (hb.below h) hbs hbl;generalize IM s bs=x at TG TP;have HTP:=zz TP;have HT:=zz hT;have hxl:=TG.out.len;obtain⟨abv,cbv,rfl,_⟩:=hb;clear TP hT hbs;go_enter Tryz.func3,Tryz.ntmps3;go_wp2_with fail;refine TA.out.mono ?_;rintro e w1 ⟨rfl,hb1⟩;have HB1:=zz hb1;clear TA hb1;go_wp2_with fail;refine(HTP.out w1 HB1.out).mono ?_;rintro e w2 ⟨v,rfl,hx2,hb2⟩;obtain⟨ax,cx,rfl⟩:=hx2.form;have HB2:=zz (HB1.out.trans (hb2.mono HB1.out.size));have HX2:=zz hx2;have TL:=zz (VB _ x w2 hx2 (Tg.ids TG.out) (fun e=>by have:=TG.out.pos;rw[e] at this;cases this) hxl (fun k r hr=>by have:=TG.out.tr.kids r (List.mem_of_getElem? hr);omega));clear HTP hb2 hx2 HB1 hxl;go_wp2_with fail;refine TL.out.mono ?_;rintro e w3 ⟨ab,mb,c,rfl,hA3,hb3⟩;have HA3:=zz (show ArAt w3 ab mb c (rowM x) from hA3);have HB3:=zz (HB2.out.trans (hb3.mono HB2.out.size));have HX3:=zz ((HX2.out.below hb3 AA).more hb3.size);have TC:=zz (XN ab mb c (rowM x) w3 hA3);clear TL hA3 hb3 HB2 HX2;go_wp2_with fail;refine TC.out.mono ?_;rintro e w4 ⟨ab2,rfl,h4,hb4⟩;have HW4:=zz h4;have HB4:=zz (HB3.out.trans (hb4.mono HB3.out.size));have HX4:=zz ((HX3.out.below hb4 AA).more hb4.size);have HA4:=zz (show ArOk w4 ab (rowM x) from(show ArOk w3 ab (rowM x) from⟨⟨mb,c,HA3.out⟩,TG.out.kb⟩).below hb4);obtain⟨r,hr⟩:=Hg.Gw x;have TX:=zz (Jc TG.out hr ab w4 HA4.out (HT.out.block (HB4.out.block _ HT.out.lt)));have HR:=zz hr;clear TC h4 hb4 HB3 HX3 HA3 HA4 hr;go_wp2_with fail;refine TX.out.mono ?_;rintro e w5 ⟨rfl,hb5⟩;have HB5:=zz (HB4.out.trans (hb5.mono HB4.out.size));have HW5:=zz (HW4.out.below hb5);obtain⟨r2,hr2,TR⟩:=QR TG.out w5.heap.size _ w5 AA ((HX4.out.below hb5 AA).more hb5.size);obtain rfl:=Option.some.inj (HR.out.symm.trans hr2);have TR:=zz TR;clear TX hb5 hr2 HX4 HW4;go_wp2_with fail;refine TR.out.mono ?_;rintro e w6 ⟨rfl,hb6⟩;have HB6:=zz (HB5.out.trans (hb6.mono HB5.out.size));have TS:=zz (Uj ab ab2 (rowM x) w6 (HW5.out.below hb6));clear TR hb6;go_wp2_with fail;refine TS.out.mono ?_;rintro e w7 ⟨rfl,hb7⟩;have HB7:=zz (HB6.out.trans (hb7.mono HB6.out.size));clear TS hb7;go_wp2;go_ret;exact⟨rfl,HB7.out⟩
end Go.Proofs.YtijhlanclfajiaaGreatDoor
