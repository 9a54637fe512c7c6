/-
  Part of the proof of CheckLists.
-/
import Derived.Test.YtljmibnfmilfbaaGreatDoorKeAT
import Derived.Test.YtljmibnfmilfbaaGreatDoorKeAQ
import Derived.Test.YtljmibnfmilfbaaGreatDoorKeBH
import Derived.Test.YtljmibnfmilfbaaGreatDoorKeBN
import Derived.Test.YtljmibnfmilfbaaGreatDoorKeAS
set_option linter.all false
set_option maxHeartbeats 32000000
set_option maxRecDepth 100000
namespace Go.Proofs.YtljmibnfmilfbaaGreatDoor
open Go.RowKit
open Hg (Bend Ct Hd KB rowM H5 AV)
theorem X4{N:Nat}{x:List Hg.Row}(h:Ct N x)(hN:N≤20000):KB (rowM x):=by
 intro i nd hm k hk;unfold rowM at hm;cases hf:x.find? (fun r=>r.id==i) with
 |none=>rw[hf] at hm;cases hm
 |some r=>
   rw[hf] at hm;injection hm with hm;subst hm;have:=h.kids r (List.mem_of_find?_eq_some hf) k hk;omega
theorem XA{N:Nat}{x:List Hg.Row}(h:Ct N x)(hN:N≤20000):Rok x:=by
 have h1:=h.len;have h2:=h.sum;refine⟨by omega,by omega,fun j r hr=> ?_,fun j r hr=> ?_,fun j r hr=> ?_,fun j r hr=>h.num r (List.mem_of_getElem? hr)⟩
 ·have:=Lg (List.mem_of_getElem? hr);omega
 ·have:=h.kind r (List.mem_of_getElem? hr);omega
 ·have:=h.name r (List.mem_of_getElem? hr);omega
theorem Kh{x:List Hg.Row}{id:Nat}:(AV x id).kids.length≤Hg.BA x∧∀N,Ct N x→∀c∈(AV x id).kids,c≤N:=by
 rw[Hg.Dt];unfold Hg.ndAt rowM;cases hf:x.find? (fun r=>r.id==id) with
 |none=>exact⟨Nat.zero_le _,fun N _ c hc=>by cases hc⟩
 |some r=>
   have hm:=List.mem_of_find?_eq_some hf;exact⟨Lg hm,fun N h c hc=>h.kids r hm c hc⟩
theorem M9(s:List UInt8)(bv:Value)(bs:List Bend)(w:World)(hs:s.length≤1000000000000000)(hT:Bl w)(hb:H9 w bv bs)(hbs:∀b∈bs,NH b)(hbl:bs.length≤1000000000000000):
 Calls Tryz.prog 3 #[.string ⟨s.toArray⟩,bv] w fun e w'=>e= .returned (.bool true)∧Below w.heap.size w w':=by
 have TA:=zz (SB w hT);obtain⟨N,hN,hok⟩:=Hg.UU s bs;obtain⟨b,hsh⟩:=Hg.Pg (Hd s bs);have TP:=fun W (h:Below w.heap.size w W)=>NJ s bv bs W hs (hb.below h) hbs hbl;generalize Hd s bs=x at hok hsh TP;have HTP:=zz TP;have HOK:=zz hok;have hrok:=XA hok hN;have HROK:=zz hrok;have hxl:x.length≤20000:=by have:=hok.len;omega
 have hxs:=hok.sum;have HSH:=zz hsh;obtain⟨abv,cbv,rfl,_⟩:=hb;clear TP hok hrok hsh hT hbs;go_enter Tryz.func3,Tryz.ntmps3;go_wp2_with fail;refine TA.out.mono ?_;rintro e w1 ⟨rfl,hb1⟩;have HB1:=zz hb1;clear TA hb1;go_wp2_with fail;refine(HTP.out w1 HB1.out).mono ?_;rintro e w2 ⟨v,rfl,hx2,hb2⟩;obtain⟨ax,cx,rfl⟩:=hx2.form;have HB2:=zz (HB1.out.trans (hb2.mono HB1.out.size));have HX2:=zz hx2;have TS:=zz (L9 w2.heap.size _ x w2 (Nat.le_refl _) hx2 HROK.out b HSH.out);clear HTP hb2 hx2 HB1;go_wp2_with fail;refine TS.out.mono ?_;rintro e w3 ⟨rfl,hb3⟩;have HB3:=zz (HB2.out.trans (hb3.mono HB2.out.size));have HX3:=zz ((HX2.out.below hb3 (Nat.le_refl _)).more hb3.size);clear TS hb3 HB2 HX2;cases b with
 |false=>
   go_wp2;go_ret;exact⟨rfl,HB3.out⟩
 |true=>
 have HL:=zz (Hg.RY HSH.out);have TL:=zz (Ul _ x w3 HX3.out HOK.out.ids (Hg.UL HSH.out) hxl (fun k r hr=>by have:=Lg (List.mem_of_getElem? hr);omega));go_wp2_with fail;refine TL.out.mono ?_;rintro e w4 ⟨ab,mb,c,rfl,hA4,hb4⟩;have HA4:=zz (show ArOk w4 ab (rowM x) from⟨⟨mb,c,hA4⟩,X4 HOK.out hN⟩);have HB4:=zz (HB3.out.trans (hb4.mono HB3.out.size));have HX4:=zz ((HX3.out.below hb4 (Nat.le_refl _)).more hb4.size);clear TL hA4 hb4 HB3 HX3;go_wp2_with fail;refine(HA4.out.getN (id:=1) (by decide)).mono ?_;rintro e w5 ⟨ka,kc,rfl,ho5,hb5⟩;rw[←Hg.Dt] at ho5⊢;have hkids:=Kh (x:=x) (id:=1);have hmods:=Hg.LH HL.out;have hmem:=fun m (h:m∈(AV x 1).kids)=>Hg.KE HL.out h;generalize AV x 1=R at ho5 hkids hmods hmem⊢;have hrl:=hkids.1;have HKN:=zz (hkids.2 N HOK.out);have HA5:=zz (HA4.out.below hb5);have HB5:=zz (HB4.out.trans (hb5.mono HB4.out.size));have HX5:=zz ((HX4.out.below hb5 (Nat.le_refl _)).more hb5.size);have HK5:=zz (Sl.AX ho5);have HMODS:=zz hmods;have HMEM:=zz hmem;have HSUCH:=zz (Hg.Rk HL.out [110,111]);clear ho5 hb5 HA4 HB4 HX4 hkids hmods hmem;go_wp2_with fail;have hn6:=heap_alloc_new w5 (.cells (AA R ka kc) 33);have hb6:Below w5.heap.size w5 (w5.alloc (.cells (AA R ka kc) 33)):=(Below.refl _ _).alloc (Nat.le_refl _) _;have hz6:(w5.alloc (.cells (AA R ka kc) 33)).heap.size=w5.heap.size+1:=by simp
 generalize hW6:World.alloc w5 _=W6 at hn6 hb6 hz6⊢;clear hW6;have hc6:=cell_of_row W6 w5.heap.size 5 _ _ (0,0) hn6;simp at hc6;have hHeld:(fun w':World=>w'.cell? ⟨w5.heap.size,5,none⟩=some (.slice ka R.kids.length kc)) W6.drew:=hc6;have hd6:Below w5.heap.size w5 W6.drew:=hb6.drew;have hl6:w5.heap.size < W6.drew.heap.size:=by show w5.heap.size < W6.heap.size;omega
 have TM:=IZ ab (rowM x) W6.drew (HA5.out.below hd6);rw[HMODS.out] at TM;have HTM:=zz TM;have HD6:=zz hd6;clear TM hc6 hn6 hb6 hd6;refine AR (fun w':World=>w'.cell? ⟨w5.heap.size,5,none⟩=some (.slice ka R.kids.length kc)) 10 (by kernel_rfl) ?_;refine tz 0 _ _ _ ?_;refine tz 2 _ _ _ ?_;refine tz 3 _ _ _ ?_;refine AB (i:=1) rfl (by kernel_rfl) (fun K hK=> ?_);go_simp;refine HTM.out.mono ?_;rintro e w7 ⟨⟨vm,rfl,hom⟩,hb7⟩;have hs7:=Sl.AX hom;obtain⟨am,cm,rfl⟩:=hs7.form;have HS7:=zz hs7;have HB7:=zz (HD6.out.trans (hb7.mono HD6.out.size));have HL7:=zz (show w5.heap.size < w7.heap.size from Nat.lt_of_lt_of_le hl6 hb7.size);clear HTM hom hs7;refine hK.out _ _ ((hb7.cell (p:=⟨w5.heap.size,5,none⟩) hl6).trans hHeld) (fun hHeld=> ?_);clear hK K
 try simp only[Act.put,sA,sB,sC,sD,sE,sF]
 refine AB (i:=4) rfl (by kernel_rfl) (fun K hK=> ?_);go_simp;refine(OG _ _ R.kids w7 (by omega) HS7.out ((HK5.out.below HB7.out (Nat.le_refl _)).more HB7.out.size)).mono ?_;rintro e w8 ⟨rfl,hb8⟩;have HB8:=zz (HB7.out.trans (hb8.mono HB7.out.size));have HL8:=zz (show w5.heap.size < w8.heap.size from Nat.lt_of_lt_of_le HL7.out hb8.size);have TF:=Mq ab (rowM x) [110,111] [115,117,99,104,32,111,110,101] w8 (HA5.out.below HB8.out);rw[HSUCH.out] at TF;have HTF:=zz TF;clear TF HS7 HB7;refine hK.out _ _ ((hb8.cell (p:=⟨w5.heap.size,5,none⟩) (by have:=HL7.out;omega)).trans hHeld) (fun hHeld=> ?_);clear hK K
 try simp only[Act.put,sA,sB,sC,sD,sE,sF]
 refine tz 5 _ _ _ ?_;refine tz 6 _ _ _ ?_;refine tz 7 _ _ _ ?_;refine AB (i:=8) rfl (by kernel_rfl) (fun K hK=> ?_);go_simp;refine HTF.out.mono ?_;rintro e w9 ⟨rfl,hb9⟩;have HB9:=zz (HB8.out.trans (hb9.mono HB8.out.size));have HL9:=zz (show w5.heap.size < w9.heap.size from Nat.lt_of_lt_of_le HL8.out hb9.size);clear HTF HB8;refine hK.out _ _ ((hb9.cell (p:=⟨w5.heap.size,5,none⟩) (by have:=HL8.out;omega)).trans hHeld) (fun hHeld=> ?_);clear hK K
 try simp only[Act.put,sA,sB,sC,sD,sE,sF]
 refine tz 9 _ _ _ ?_;refine AL (by kernel_rfl) ?_;simp only[List.drop_succ_cons,List.drop_zero];have hc9:w9.cell? ⟨w5.heap.size,5,none⟩=some (.slice ka R.kids.length kc):=hHeld;have hl9:w5.heap.size < w9.heap.size:=HL9.out;clear hHeld hl6;go_wp2
 go_loopw [46] (fun i wr=>∃j:Nat,i= .int .i64 (j:Int)∧j≤R.kids.length∧Below w5.heap.size w5 wr) (fun i wr=>R.kids.length-(intOf i).toNat)
 case atStart=>exact⟨0,rfl,Nat.zero_le _,HB9.out⟩
 case round=>
  obtain⟨j,rfl,hj,hbr⟩:=hrel;have HBR:=zz hbr;by_cases hlt:j < R.kids.length
  ·obtain⟨bk,ok,rfl,hbk,ek⟩:=(HK5.out.below hbr (Nat.le_refl _)).idAt hlt
   have hmm:R.kids[j]∈R.kids:=List.getElem_mem hlt;generalize R.kids[j]=m at ek hmm;have hmi:m < Ae:=by have:=HKN.out m hmm;unfold Ae;omega
   have TG:=zz ((HA5.out.below hbr).getN hmi);have HMF:=zz (HMEM.out m (by first|exact hmm|(rw[HR.out];exact hmm)));clear hbr hmm;go_wp2_with fail;refine TG.out.mono ?_;rintro e w10 ⟨ka2,kc2,rfl,ho10,hb10⟩;rw[←Hg.Dt] at ho10⊢;have hkids:=Kh (x:=x) (id:=m);have hmf:=HMF.out;generalize AV x m=M1 at ho10 hkids hmf⊢;have HM1:=zz (hkids.2 N HOK.out);have hml:=hkids.1;have HB10:=zz (HBR.out.trans (hb10.mono HBR.out.size));have HK10:=zz (Sl.AX ho10);have HMF1:=zz hmf;clear ho10 hb10 hkids hmf TG;go_wp2_with fail;have hn11:=heap_alloc_new w10 (.cells (AA M1 ka2 kc2) 33);have hb11:Below w10.heap.size w10 (w10.alloc (.cells (AA M1 ka2 kc2) 33)):=(Below.refl _ _).alloc (Nat.le_refl _) _;have hz11:(w10.alloc (.cells (AA M1 ka2 kc2) 33)).heap.size=w10.heap.size+1:=by simp
   generalize hW11:World.alloc w10 _=W11 at hn11 hb11 hz11⊢;clear hW11;have hc5:=cell_of_row W11 w10.heap.size 5 _ _ (0,0) hn11;have hc1:=cell_of_row W11 w10.heap.size 1 _ _ (0,0) hn11;simp at hc5 hc1;have hHeld:(fun w':World=>w'.cell? ⟨w10.heap.size,5,none⟩=some (.slice ka2 M1.kids.length kc2)) W11.drew:=hc5;have hd11:Below w10.heap.size w10 W11.drew:=hb11.drew;have hl11:w10.heap.size < W11.drew.heap.size:=by show w10.heap.size < W11.heap.size;omega
   have hd511:Below w5.heap.size w5 W11.drew:=HB10.out.trans (hd11.mono HB10.out.size);have TF:=Kv ab (rowM x) m W11.drew (HA5.out.below hd511) hmi;rw[HMF1.out] at TF;have HTF:=zz TF;have HD11:=zz hd11;have HC1:=zz (show W11.drew.cell? ⟨w10.heap.size,1,none⟩=some (strV M1.name) from hc1);clear TF hc5 hc1 hn11 hb11 hd11 hd511;refine AR (fun w':World=>w'.cell? ⟨w10.heap.size,5,none⟩=some (.slice ka2 M1.kids.length kc2)) 6 (by kernel_rfl) ?_;refine tz 0 _ _ _ ?_;refine tz 1 _ _ _ ?_;refine tz 3 _ _ _ ?_;refine tz 4 _ _ _ ?_;refine AB (i:=2) rfl (by kernel_rfl) (fun K hK=> ?_);go_simp;refine HTF.out.mono ?_;rintro e w12 ⟨⟨vm,rfl,hom⟩,hb12⟩;have hs12:=Sl.AX hom;obtain⟨am2,cm2,rfl⟩:=hs12.form;have HS12:=zz hs12;have HB12:=zz (HD11.out.trans (hb12.mono HD11.out.size));have HC12:=zz ((hb12.cell (p:=⟨w10.heap.size,1,none⟩) hl11).trans HC1.out);have HL12:=zz (show w10.heap.size < w12.heap.size from Nat.lt_of_lt_of_le hl11 hb12.size);clear HTF hom hs12;refine hK.out _ _ ((hb12.cell (p:=⟨w10.heap.size,5,none⟩) hl11).trans hHeld) (fun hHeld=> ?_);clear hK K
   try simp only[Act.put,sA,sB,sC,sD,sE,sF]
   refine AB (i:=5) rfl (by kernel_rfl) (fun K hK=> ?_);go_simp;refine(OG _ _ M1.kids w12 (by omega) HS12.out ((HK10.out.below HB12.out (Nat.le_refl _)).more HB12.out.size)).mono ?_;rintro e w13 ⟨rfl,hb13⟩;have HB13:=zz (HB12.out.trans (hb13.mono HB12.out.size));have HC13:=zz ((hb13.cell (p:=⟨w10.heap.size,1,none⟩) HL12.out).trans HC12.out);have HL13:=zz (show w10.heap.size < w13.heap.size from Nat.lt_of_lt_of_le HL12.out hb13.size);refine hK.out _ _ ((hb13.cell (p:=⟨w10.heap.size,5,none⟩) HL12.out).trans hHeld) (fun hHeld=> ?_);clear hK K
   try simp only[Act.put,sA,sB,sC,sD,sE,sF]
   refine AL (by kernel_rfl) ?_;simp only[List.drop_succ_cons,List.drop_zero];have hc13:w13.cell? ⟨w10.heap.size,5,none⟩=some (.slice ka2 M1.kids.length kc2):=hHeld;have HB513:=zz (HB10.out.trans (HB13.out.mono HB10.out.size));have HK13:=zz (HK10.out.below HB13.out (Nat.le_refl _));have hl13:w10.heap.size < w13.heap.size:=HL13.out;clear hHeld hl11 HS12 HB12 HC12 HL12 HC1 HD11 HMF HMF1;go_wp2
   go_loopw [66] (fun i wr=>∃j:Nat,i= .int .i64 (j:Int)∧j≤M1.kids.length∧Below w13.heap.size w13 wr) (fun i wr=>M1.kids.length-(intOf i).toNat)
   case atStart=>exact⟨0,rfl,Nat.zero_le _,Below.refl _ _⟩
   case round=>
    obtain⟨j2,rfl,hj2,hbr2⟩:=hrel;have HBR2:=zz hbr2;have HB5r:=zz (HB513.out.trans (hbr2.mono HB513.out.size));by_cases hlt2:j2 < M1.kids.length
    ·obtain⟨bk2,ok2,rfl,hbk2,ek2⟩:=(HK13.out.below hbr2 (by have:=HB13.out.size;omega)).idAt hlt2
     have hmm2:M1.kids[j2]∈M1.kids:=List.getElem_mem hlt2;generalize M1.kids[j2]=f at ek2 hmm2;have hfi:f < Ae:=by have:=HM1.out f hmm2;unfold Ae;omega
     have TG2:=zz ((HA5.out.below HB5r.out).getN hfi);clear hbr2 hmm2;go_wp2_with fail;refine TG2.out.mono ?_;rintro e w14 ⟨ka3,kc3,rfl,ho14,hb14⟩;generalize Hg.ndAt (rowM x) f=F1 at ho14⊢;have HB14:=zz (HBR2.out.trans (hb14.mono HBR2.out.size));clear ho14 hb14 TG2;go_wp2_with fail;have hn15:=heap_alloc_new w14 (.cells (AA F1 ka3 kc3) 33);have hb15:Below w14.heap.size w14 (w14.alloc (.cells (AA F1 ka3 kc3) 33)):=(Below.refl _ _).alloc (Nat.le_refl _) _;have hz15:(w14.alloc (.cells (AA F1 ka3 kc3) 33)).heap.size=w14.heap.size+1:=by simp
     generalize hW15:World.alloc w14 _=W15 at hn15 hb15 hz15⊢;clear hW15;have q2:=cell_of_row W15 w14.heap.size 1 _ _ (0,0) hn15;simp at q2;have H1014:=zz (show w10.heap.size < w14.heap.size by have:=HB14.out.size;omega);have q1:W15.drew.cell? ⟨w10.heap.size,1,none⟩=some (strV M1.name):=((HB14.out.trans (hb15.drew.mono HB14.out.size)).cell (p:=⟨w10.heap.size,1,none⟩) hl13).trans HC13.out;have hHeld:(fun w':World=>w'.cell? ⟨w10.heap.size,1,none⟩=some (strV M1.name)∧w'.cell? ⟨w14.heap.size,1,none⟩=some (strV F1.name)) W15.drew:=⟨q1,q2⟩;have HB15:=zz (show Below w13.heap.size w13 W15.drew from HB14.out.trans (hb15.drew.mono HB14.out.size));have HL15:=zz (show w14.heap.size < W15.drew.heap.size by show w14.heap.size < W15.heap.size;omega);obtain⟨xs,hxs,hnames⟩:=Hg.Ov x f;have hF:Hg.BA x+2≤1000000:=by omega
     have TN:=MX ab (rowM x) f (Hg.BA x+2) xs W15.drew (HA5.out.below (HB513.out.trans (HB15.out.mono HB513.out.size))) hfi hxs hF;have hnl:(Hg.Em x f).length≤1000000:=by
      rw[←hnames];have h1:=Ja xs;have h2:=KV (rowM x) _ _ _ _ hxs;omega
     rw[hnames] at TN;have TNR:=fun W (h:Below w5.heap.size w5 W)=>QG W.heap.size (.slice ax x.length cx) x f W (Nat.le_refl _) ((HX5.out.below h (Nat.le_refl _)).more h.size) (by omega) (by omega);have TFK:=fun W (h:Below w5.heap.size w5 W)=>Mq ab (rowM x) M1.name F1.name W (HA5.out.below h);rw[Hg.LM HL.out] at TFK;have TFR:=fun W (h:Below w5.heap.size w5 W)=>Rl W.heap.size (.slice ax x.length cx) x M1.name F1.name W (Nat.le_refl _) ((HX5.out.below h (Nat.le_refl _)).more h.size) (by omega) (fun y=>by have:=(Kh (x:=x) (id:=y)).1;omega);generalize Hg.Em x f=nms at TN TNR hnl;generalize Hg.funcOf x M1.name F1.name _=fo at TFK TFR;have HTN:=zz TN;have HTNR:=zz TNR;have HTFK:=zz TFK;have HTFR:=zz TFR;clear TN TNR TFK TFR hxs hnames q1 q2 hn15 hb15;refine AR (fun w':World=>w'.cell? ⟨w10.heap.size,1,none⟩=some (strV M1.name)∧w'.cell? ⟨w14.heap.size,1,none⟩=some (strV F1.name)) 22 (by kernel_rfl) ?_;refine tz 0 _ _ _ ?_;refine tz 1 _ _ _ ?_;refine tz 3 _ _ _ ?_;refine tz 4 _ _ _ ?_;refine AB (i:=2) rfl (by kernel_rfl) (fun K hK=> ?_);go_simp;refine HTN.out.mono ?_;rintro e w16 ⟨⟨vn,rfl,hon⟩,hb16⟩;have hs16:=Sl.AX hon;obtain⟨an,cn,rfl⟩:=hs16.form;have HS16:=zz hs16;have HB16:=zz (HB15.out.trans (hb16.mono HB15.out.size));have HL16:=zz (show w14.heap.size < w16.heap.size from Nat.lt_of_lt_of_le HL15.out hb16.size);clear HTN hon hs16;refine hK.out _ _ (⟨(hb16.cell (p:=⟨w10.heap.size,1,none⟩) (Nat.lt_trans H1014.out HL15.out)).trans hHeld.1,(hb16.cell (p:=⟨w14.heap.size,1,none⟩) HL15.out).trans hHeld.2⟩) (fun hHeld=> ?_);clear hK K
     try simp only[Act.put,sA,sB,sC,sD,sE,sF]
     refine AB (i:=5) rfl (by kernel_rfl) (fun K hK=> ?_);go_simp;refine(HTNR.out w16 (HB513.out.trans (HB16.out.mono HB513.out.size))).mono ?_;rintro e w17 ⟨⟨an2,cn2,rfl,hs17⟩,hb17⟩;have HS17:=zz hs17;have HS16b:=zz ((HS16.out.below hb17 (Nat.le_refl _)).more hb17.size);have HB17:=zz (HB16.out.trans (hb17.mono HB16.out.size));have HL17:=zz (show w14.heap.size < w17.heap.size from Nat.lt_of_lt_of_le HL16.out hb17.size);clear hs17;refine hK.out _ _ (⟨(hb17.cell (p:=⟨w10.heap.size,1,none⟩) (Nat.lt_trans H1014.out HL16.out)).trans hHeld.1,(hb17.cell (p:=⟨w14.heap.size,1,none⟩) HL16.out).trans hHeld.2⟩) (fun hHeld=> ?_);clear hK K
     try simp only[Act.put,sA,sB,sC,sD,sE,sF]
     refine AB (i:=6) rfl (by kernel_rfl) (fun K hK=> ?_);go_simp;refine(Rt _ _ nms w17 hnl HS16b.out HS17.out).mono ?_;rintro e w18 ⟨rfl,hb18⟩;have HB18:=zz (HB17.out.trans (hb18.mono HB17.out.size));have HL18:=zz (show w14.heap.size < w18.heap.size from Nat.lt_of_lt_of_le HL17.out hb18.size);refine hK.out _ _ (⟨(hb18.cell (p:=⟨w10.heap.size,1,none⟩) (Nat.lt_trans H1014.out HL17.out)).trans hHeld.1,(hb18.cell (p:=⟨w14.heap.size,1,none⟩) HL17.out).trans hHeld.2⟩) (fun hHeld=> ?_);clear hK K
     try simp only[Act.put,sA,sB,sC,sD,sE,sF]
     refine tz 7 _ _ _ ?_;refine tz 8 _ _ _ ?_;refine tz 9 _ _ _ ?_;refine tz 10 _ _ _ ?_;refine tz 11 _ _ _ ?_;refine tz 12 _ _ _ ?_;refine tz 13 _ _ _ ?_;refine tz 15 _ _ _ ?_;refine tz 16 _ _ _ ?_;refine tz 17 _ _ _ ?_;refine tz 18 _ _ _ ?_;refine tz 19 _ _ _ ?_;refine AB (i:=14) rfl (by kernel_rfl) (fun K hK=> ?_);go_simp;refine(HTFK.out w18 (HB513.out.trans (HB18.out.mono HB513.out.size))).mono ?_;rintro e w19 ⟨rfl,hb19⟩;have HB19:=zz (HB18.out.trans (hb19.mono HB18.out.size));have HL19:=zz (show w14.heap.size < w19.heap.size from Nat.lt_of_lt_of_le HL18.out hb19.size);refine hK.out _ _ (⟨(hb19.cell (p:=⟨w10.heap.size,1,none⟩) (Nat.lt_trans H1014.out HL18.out)).trans hHeld.1,(hb19.cell (p:=⟨w14.heap.size,1,none⟩) HL18.out).trans hHeld.2⟩) (fun hHeld=> ?_);clear hK K
     try simp only[Act.put,sA,sB,sC,sD,sE,sF]
     refine AB (i:=20) rfl (by kernel_rfl) (fun K hK=> ?_);go_simp;refine(HTFR.out w19 (HB513.out.trans (HB19.out.mono HB513.out.size))).mono ?_;rintro e w20 ⟨rfl,hb20⟩;have HB20:=zz (HB19.out.trans (hb20.mono HB19.out.size));have HL20:=zz (show w14.heap.size < w20.heap.size from Nat.lt_of_lt_of_le HL19.out hb20.size);refine hK.out _ _ (⟨(hb20.cell (p:=⟨w10.heap.size,1,none⟩) (Nat.lt_trans H1014.out HL19.out)).trans hHeld.1,(hb20.cell (p:=⟨w14.heap.size,1,none⟩) HL19.out).trans hHeld.2⟩) (fun hHeld=> ?_);clear hK K
     try simp only[Act.put,sA,sB,sC,sD,sE,sF]
     refine tz 21 _ _ _ ?_;refine AL (by kernel_rfl) ?_;simp only[List.drop_succ_cons,List.drop_zero];clear hHeld;go_wp2;go_roundw
     case rel=>exact⟨j2+1,by go_num,by omega,HB20.out⟩
     case measure=>simp[intOf];omega
    ·obtain rfl:j2=M1.kids.length:=by omega
     clear hbr2;go_wp2;go_roundw
     case rel=>exact⟨j+1,by go_num,by omega,HB5r.out⟩
     case measure=>simp[intOf];omega
  ·obtain rfl:j=R.kids.length:=by omega
   clear hbr;go_wp2;go_ret;exact⟨rfl,HB5.out.trans (HBR.out.mono HB5.out.size)⟩
end Go.Proofs.YtljmibnfmilfbaaGreatDoor
