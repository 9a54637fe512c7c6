/-
  A part of the proof.
-/
import Derived.Test.YthihjcannjhonaaGreatDoorKhBE
import Derived.Test.YthihjcannjhonaaGreatDoorKhAU
set_option linter.all false
set_option maxHeartbeats 32000000
set_option maxRecDepth 100000
namespace Hg
open Go.Proofs.YthihjcannjhonaaGreatDoor (DL)
section
variable {l:List Row} (hT:Tr l) (hl:l.length≤20000) (h0:0 < l.length)
include hT hl h0
theorem SX(i:Nat):kSum l i≤20000:=by
 have hM:=hT.trM hl h0;refine AO (Gf l.length _ ?_ fun x hx=> ?_) hl
 ·refine List.pairwise_flatMap.2 ⟨fun q _=> ?_, ?_⟩
  ·cases hq:rowM l q with
   |none=>unfold kd ndAt;rw[hq];exact List.Pairwise.nil
   |some b=>unfold kd;rw[Aq hq];exact hM.nodup q b hq
  ·refine List.Pairwise.imp ?_ (List.nodup_range (n:=i))
   intro p q hpq x hx y hy e;subst e;obtain⟨a,ha,hxa⟩:=Da.2 hx;obtain⟨b,hb,hxb⟩:=Da.2 hy;exact hpq (hM.par p q a b x ha hb hxa hxb)
 ·obtain⟨q,_,hk⟩:=List.mem_flatMap.1 hx
  obtain⟨b,hb,hkb⟩:=Da.2 hk;have:=hM.kid q b hb x hkb;have:=(hM.dom q).1 (by rw[hb];rfl);omega
theorem WQ{id:Nat}{a:Node}(ha:rowM l (parR l id).1=some a):(parR l id).1 < id:=by
 have hR:=hT.rows hl;rcases DL hR id with⟨h1,_,_⟩|⟨h1,_,⟨b,hb,he,h5⟩,_⟩
 ·rw[h1,Dg hR] at ha;cases ha
 ·exact((hT.trM hl h0).kid _ b hb id ((DY _ _).1 (by rw[he];exact h5))).1
theorem Mt:∀(f id:Nat) (seen out:List Nat),id < f→(∀s∈seen,id < s)→∃R,EC (rowM l) (parR l) f id seen out=some R∧R.length≤out.length+kSum l id
 |0,_,_,_,h,_=>by omega
 |f+1,id,seen,out,h,hs=>by
   unfold EC;rw[if_neg (fun hm=>by have:=hs id hm;omega)];cases ha:rowM l (parR l id).1 with
   |none=>exact⟨out,rfl,by omega⟩
   |some a=>
     have hlt:=WQ hT hl h0 ha;obtain⟨R,hR,hlen⟩:=Mt f (parR l id).1 (id::seen) (Eo (rowM l) a (parR l id).2.toNat++out) (by omega) (fun s hm=>by
      rcases List.mem_cons.1 hm with e|e
      ·omega
      ·have:=hs s e;omega)
     refine⟨R,hR, ?_⟩;have h1:(Eo (rowM l) a (parR l id).2.toNat).length≤a.kids.length:=by
      unfold Eo;exact AO (List.length_filter_le _ _) (by rw[List.length_take];omega)
     have h2:kSum l ((parR l id).1+1)=kSum l (parR l id).1+a.kids.length:=by
      rw[LP];unfold kd;rw[Aq ha]
     have h3:=UD l (show(parR l id).1+1≤id from hlt);rw[List.length_append] at hlen;omega
end
end Hg
namespace Go.Proofs.YthihjcannjhonaaGreatDoor
open Go.RowKit
open Hg (GT gl wk isK ndAt Bl Bq BI KB Cf CW Bo dupB FD Ns)
theorem PK(B:Nat)(v:Value)(l:List (List UInt8))(w:World)(hl:l.length≤1000000)(ho:w.ownsRow B 9 1 v l.length (l.map strV))(hB:B≤w.heap.size):
 Calls Tryz.prog 89 #[v] w fun e w'=>e= .returned (.bool (dupB l))∧Below B w w':=
 (Rw B v l w hl ho).mono fun _ _ h=>⟨h.1,(h.2.imp (fun q _ e=>(ho.lt q e).1)).below' hB⟩
theorem TU(ab:Nat)(M:Nat→Option Hg.Node)(nms:Nat→List Hg.Str)(w:World)(hA:ArOk w ab M)(hN:Ns M nms):
 Calls Tryz.prog 36 #[.pointer (some ⟨ab,0,none⟩)] w fun e w'=>e= .returned (.bool (FD M nms))∧Below w.heap.size w w':=by
 obtain⟨cb,hcb⟩:∃b,b=FD M nms:=⟨_,rfl⟩;rw[←hcb];unfold FD at hcb;have HCB:=zz hcb;have T1:=zz (fun W (h:ArOk W ab M)=>Lr ab M W h);have HA:=zz hA;have HN:=zz hN;have hml:=hA.lenK 1 2;have hmm:=hA.2.kids 1 2;have HMM:=zz hmm;have TT:=zz PK;change (Bq M).length≤1000000 at hml;clear hA hN hmm hcb;go_enter Tryz.func36,Tryz.ntmps36;go_wp2_with fail;refine(T1.out w HA.out).mono ?_;rintro e w1 ⟨⟨v,rfl,ho1⟩,hb1⟩;have TN:=zz (OZ ab M v (Bq M) w1 (HA.out.below hb1) (Sl.Aj ho1) HMM.out hml);have HB1:=zz hb1;clear hb1 ho1;go_wp2_with fail;refine TN.out.mono ?_;rintro e w2 ⟨⟨v2,rfl,ho2⟩,hb2⟩;have TW:=zz (TT.out w1.heap.size v2 ((Bq M).map (Cf M)) w2 (by rw[List.length_map];exact hml) (by rw[List.length_map];simpa using ho2) hb2.size);have HB2:=zz (HB1.out.trans (hb2.mono HB1.out.size));have hs2:=HB1.out.size;generalize dupB ((Bq M).map (Cf M))=d1 at TW HCB;clear hb2 ho2 TN;go_wp2_with fail;refine TW.out.mono ?_;rintro e w3 ⟨rfl,hb3⟩;have HB3:=zz (HB2.out.trans (hb3.mono hs2));have hs3:=HB3.out.size;have T2:=zz (T1.out w3 (HA.out.below HB3.out));clear TW hb3;cases d1
 case true=>
  go_wp2;go_ret;exact⟨AQ (HCB.out.trans rfl).symm,HB3.out⟩
 go_wp2_with fail;refine T2.out.mono ?_;rintro e w4 ⟨⟨vm,rfl,ho4⟩,hb4⟩;obtain⟨a,c,rfl⟩:=(Sl.Aj ho4).form;have HS:=zz (Sl.Aj ho4);have HB4:=zz (HB3.out.trans (hb4.mono hs3));have HA4:=zz (HA.out.below HB4.out);generalize hg:(fun m=>dupB ((BI M m).map (Cf M))||(BI M m).any fun f=>dupB (nms f))=g at HCB;have HG:=zz hg;have HC0:=zz (show cb=((Bq M).drop 0).any g from HCB.out.trans (by rw[Bool.false_or];rfl));clear ho4 hb4 T2 hg HCB;go_wp2
 go_loopw [15] (fun p wr=>∃i:Nat,p= .int .i64 (i:Int)∧i≤(Bq M).length∧Below w4.heap.size w4 wr∧cb=((Bq M).drop i).any g) (fun p wr=>(Bq M).length-(intOf p).toNat)
 case atStart=>exact⟨0,rfl,Nat.zero_le _,AP,HC0.out⟩
 case round=>
  obtain⟨i,rfl,hi,hb,hcb⟩:=hrel;have HB:=zz hb;clear hb HC0;by_cases hlt:i < (Bq M).length
  ·obtain⟨b,o,rfl,_,kc⟩:=(HS.out.below HB.out AA).mapAt hlt
   have hmem:=List.getElem_mem hlt;have hmi:=HMM.out _ hmem;rw[Aw hlt,List.any_cons] at hcb;generalize(Bq M)[i]=m at kc hmi hmem hcb;rw[←HG.out] at hcb;dsimp only at hcb;rw[HG.out] at hcb;have HCB:=zz hcb;have T2:=zz (fun W (h:ArOk W ab M)=>Ot ab M m W h hmi);have T2':=zz (T2.out wr (HA4.out.below HB.out));have hfl:=(HA4.out.below HB.out).lenK m 3;have HFM:=zz (HA.out.2.kids m 3);have HND3:=zz (HN.out m hmem);have hsr:=HB.out.size;change (BI M m).length≤1000000 at hfl;clear hmem hcb;go_wp2_with fail;refine T2'.out.mono ?_;rintro e w5 ⟨⟨v5,rfl,ho5⟩,hb5⟩;have TN:=zz (OZ ab M v5 (BI M m) w5 ((HA4.out.below HB.out).below hb5) (Sl.Aj ho5) HFM.out hfl);have HB5:=zz (HB.out.trans (hb5.mono hsr));clear hb5 ho5 T2';go_wp2_with fail;refine TN.out.mono ?_;rintro e w6 ⟨⟨v6,rfl,ho6⟩,hb6⟩;have TW:=zz (TT.out w5.heap.size v6 ((BI M m).map (Cf M)) w6 (by rw[List.length_map];exact hfl) (by rw[List.length_map];simpa using ho6) hb6.size);have hs5:=HB5.out.size;have HB6:=zz (HB5.out.trans (hb6.mono hs5));generalize dupB ((BI M m).map (Cf M))=d2 at TW HCB;clear hb6 ho6 TN;go_wp2_with fail;refine TW.out.mono ?_;rintro e w7 ⟨rfl,hb7⟩;have HB7:=zz (HB6.out.trans (hb7.mono hs5));have hs7:=HB7.out.size;have T3:=zz (T2.out w7 (HA4.out.below HB7.out));clear TW hb7;cases d2
   case true=>
    go_wp2;go_ret;exact⟨AQ (HCB.out.trans rfl).symm,HB4.out.trans (HB7.out.mono HB4.out.size)⟩
   go_wp2_with fail;refine T3.out.mono ?_;rintro e w8 ⟨⟨v8,rfl,ho8⟩,hb8⟩;obtain⟨a2,c2,rfl⟩:=(Sl.Aj ho8).form;have HS2:=zz (Sl.Aj ho8);have HB8:=zz (HB7.out.trans (hb8.mono hs7));have HA8:=zz (HA4.out.below HB8.out);have HC1:=zz (show cb=(((BI M m).drop 0).any (fun f=>dupB (nms f))||((Bq M).drop (i+1)).any g) from HCB.out.trans (by rw[Bool.false_or];rfl));clear ho8 hb8 T3 HCB;go_wp2
   go_loopw [29] (fun p wr=>∃j:Nat,p= .int .i64 (j:Int)∧j≤(BI M m).length∧Below w8.heap.size w8 wr∧cb=(((BI M m).drop j).any (fun f=>dupB (nms f))||((Bq M).drop (i+1)).any g)) (fun p wr=>(BI M m).length-(intOf p).toNat)
   case atStart=>exact⟨0,rfl,Nat.zero_le _,AP,HC1.out⟩
   case round=>
    obtain⟨j,rfl,hj,hb9,hcb⟩:=hrel;have HB9:=zz hb9;have hs9:=hb9.size;clear hb9 HC1;by_cases hltj:j < (BI M m).length
    ·obtain⟨b2,o2,rfl,_,kc2⟩:=(HS2.out.below HB9.out AA).mapAt hltj
     have hmj:=List.getElem_mem hltj;have hfj:=HFM.out _ hmj;rw[Aw hltj,List.any_cons,Bool.or_assoc] at hcb;generalize(BI M m)[j]=f at kc2 hfj hmj hcb;obtain⟨F,xs,hxs,hF,hnm⟩:=HND3.out f hmj;have TK:=zz (SV ab M f F xs wr (HA8.out.below HB9.out) hfj hxs hF);have hnl:(Bo xs).length≤1000000:=by
      have h1:=NI xs;have h2:=Ma M _ _ _ _ hxs;omega
     rw[hnm] at hcb;have HCB:=zz hcb;clear hmj hxs hF hnm hcb;go_wp2_with fail;refine TK.out.mono ?_;rintro e w10 ⟨⟨v10,rfl,ho10⟩,hb10⟩;have TW:=zz (TT.out wr.heap.size v10 (Bo xs) w10 hnl ho10 hb10.size);have HB10:=zz (HB9.out.trans (hb10.mono hs9));generalize dupB (Bo xs)=d3 at TW HCB;clear hb10 ho10 TK;go_wp2_with fail;refine TW.out.mono ?_;rintro e w11 ⟨rfl,hb11⟩;have HB11:=zz (HB10.out.trans (hb11.mono hs9));clear hb11 TW;cases d3
     ·have HC2:=zz (HCB.out.trans (Bool.false_or _))
      go_wp2;go_roundw
      case rel=>exact⟨j+1,by go_num,by omega,HB11.out,HC2.out⟩
      case measure=>simp[intOf];omega
     ·have HB12:=zz (HB4.out.trans ((HB8.out.trans (HB11.out.mono HB8.out.size)).mono HB4.out.size))
      go_wp2;go_ret;exact⟨AQ (HCB.out.trans rfl).symm,HB12.out⟩
    ·obtain rfl:j=(BI M m).length:=by omega
     rw[List.drop_length] at hcb;have HB12:=zz (HB8.out.trans (HB9.out.mono HB8.out.size));have HC2:=zz (hcb.trans (Bool.false_or _));clear hcb;go_wp2;go_roundw
     case rel=>exact⟨i+1,by go_num,by omega,HB12.out,HC2.out⟩
     case measure=>simp[intOf];omega
  ·obtain rfl:i=(Bq M).length:=by omega
   rw[List.drop_length] at hcb;have HC2:=zz hcb;clear hcb;go_wp2;go_ret;exact⟨AQ HC2.out.symm,HB4.out.trans (HB.out.mono HB4.out.size)⟩
end Go.Proofs.YthihjcannjhonaaGreatDoor
namespace Go.Proofs.YthihjcannjhonaaGreatDoor
open Go.RowKit
open Hg (GT gl wk isK ndAt Bl KB Cs Eo EC)
attribute [local go_sem] Oper.semAt_some
def hidK(sn:Nat→List Nat)(x:Nat×Hg.Node):Bool:=(decide (x.2.kind=15)||decide (x.2.kind=7)) && !decide (0≤idxI (sn x.1) x.2.ref)
def HidX(ok:Bool)(ab B:Nat)(c:Code)(S:Nat→Prop)(A:World):Prop:=c= .ret∧BoxI ab B S A∧A.heap[B+1]? =some (.cells #[.bool true] 4 (0,0))∧ok=true
def hieA(p1 p2 p3 p4:Value)(a:Act):Prop:=∃u0 u5 u6 u7 u8 u9 u10 u11 u12 u13 u14 u15 u16 u17 u18 u19 u20 u21 u22 u23 u24 u25 u26 u27:Value,a={tmps:= #[u0,p1,p2,p3,p4,u5,u6,u7,u8,u9,u10,u11,u12,u13,u14,u15,u16,u17,u18,u19,u20,u21,u22,u23,u24,u25,u26,u27],defers:=[]}
def HieR(ab B:Nat)(S:Nat→Prop)(x:Am)(a:Act)(A:World):Prop:=
 ∃S0 blk,BoxI ab B S0 A∧hieA (.pointer (some ⟨B,0,none⟩)) (.pointer (some ⟨B+1,0,none⟩)) (idV x.id) (.pointer (some ⟨blk,0,none⟩)) a∧A.heap[blk]? =some (.cells (Ae x.nd x.ka x.kc) 54 (0,0))∧(∀q,S q↔S0 q∨q=blk)∧¬S0 blk
theorem Q7(ab:Nat)(M:Nat→Option Hg.Node)(par:Nat→Nat×Int)(hp:MC M par)(F F2:Nat)(xs:List (Nat×Hg.Node))(w:World)(hA:ArOk w ab M)(hxs:wk M F [1] []=some xs)(hF:F≤1000000)(hF2:F2≤1000000)(hid:∀x∈xs,x.1 < Ai)
 (sn:Nat→List Nat) (hall:∀x∈xs,EC M par F2 x.1 [] []=some (sn x.1)∧(sn x.1).length≤1000000):
 Calls Tryz.prog 37 #[.pointer (some ⟨ab,0,none⟩)] w fun e w'=>e= .returned (.bool (xs.any (hidK sn)))∧Below w.heap.size w w':=by
 obtain⟨hb,hhb⟩:∃b,b=xs.any (hidK sn):=⟨_,rfl⟩;rw[←hhb];have HHB:=zz hhb;clear hhb;have HA:=zz hA;have HP:=zz hp;have HALL:=zz (And.intro hid hall);have TW:=zz (J2 ab 1);have TR:=zz (IP ab);clear hp hid hall;refine(callsIn_wide (n:=5)).1 (callsIn_of_wp_marks Tryz.func37 rfl trivial ?_ rfl);simp only[Tryz.ntmps37,List.size_toArray,List.length_cons,List.length_nil,Nat.reduceAdd,Nat.reduceSub,Array.replicate_succ,Array.replicate_zero,List.push_toArray,List.append_toArray,List.nil_append,List.cons_append];gi_wp2;refine wpIn_wide.2 (MF ?_);have hb0:Below w.heap.size w ((w.alloc (.cells #[.pointer (some ⟨ab,0,none⟩)] 25)).alloc (.cells #[.bool false] 4)):=((AP).alloc AA _).alloc (by simp) _;have h0:((w.alloc (.cells #[.pointer (some ⟨ab,0,none⟩)] 25)).alloc (.cells #[.bool false] 4)).heap[w.heap.size]? =some (.cells #[.pointer (some ⟨ab,0,none⟩)] 25 (0,0)):=(heap_alloc_old _ _ (by simp)).trans (Ac w _);have h1:((w.alloc (.cells #[.pointer (some ⟨ab,0,none⟩)] 25)).alloc (.cells #[.bool false] 4)).heap[w.heap.size+1]? =some (.cells #[.bool false] 4 (0,0)):=by
  have:=Ac (w.alloc (.cells #[.pointer (some ⟨ab,0,none⟩)] 25)) (.cells #[.bool false] 4);rw[show(w.alloc (.cells #[.pointer (some ⟨ab,0,none⟩)] 25)).heap.size=w.heap.size+1 by simp] at this;exact this
 have hz:((w.alloc (.cells #[.pointer (some ⟨ab,0,none⟩)] 25)).alloc (.cells #[.bool false] 4)).heap.size=w.heap.size+2:=by simp
 generalize World.alloc (World.alloc w _) _=W0 at hb0 h0 h1 hz⊢;have e0:=AJ W0 w.heap.size 0 _ _ (0,0) h0;simp at e0;have hHeld:(fun w'=>w'.cell? ⟨w.heap.size,0,none⟩=some (.pointer (some ⟨ab,0,none⟩))) W0.drew:=e0;refine Ao (fun w'=>w'.cell? ⟨w.heap.size,0,none⟩=some (.pointer (some ⟨ab,0,none⟩))) 3 (by kernel_rfl) ?_;refine tz 0 ?_;refine tz 1 ?_;refine AR (i:=2) rfl (by kernel_rfl) (fun K hK=> ?_);go_simp;refine(TR.out _).mono ?_;rintro e w1 ⟨rfl,rfl⟩;refine hK.out _ _ (hHeld) (fun hHeld=> ?_);clear hK K
 try simp only[Act.put,sA,sB,sC,sD,sE,sF]
 refine Af (by kernel_rfl) ?_;simp only[List.drop_succ_cons,List.drop_zero];go_wp2_with fail;refine(TW.out _).mono ?_;rintro e w1 ⟨rfl,rfl⟩;have hz':W0.drew.heap.size=w.heap.size+2:=hz;rw[hz'];have hbW:Below W0.heap.size W0 ((W0.drew.alloc (.cells #[.pointer (some ⟨ab,0,none⟩)] 25)).alloc (.cells #[idV 1] 51)):=(((AP).drew).alloc AA _).alloc (by simp) _;have k1:((W0.drew.alloc (.cells #[.pointer (some ⟨ab,0,none⟩)] 25)).alloc (.cells #[idV 1] 51)).heap[w.heap.size+2]? =some (.cells #[.pointer (some ⟨ab,0,none⟩)] 25 (0,0)):=by
  have:=Ac W0.drew (.cells #[.pointer (some ⟨ab,0,none⟩)] 25);rw[hz'] at this;exact(heap_alloc_old _ _ (by simp[hz'])).trans this
 have k2:((W0.drew.alloc (.cells #[.pointer (some ⟨ab,0,none⟩)] 25)).alloc (.cells #[idV 1] 51)).heap[w.heap.size+2+1]? =some (.cells #[idV 1] 51 (0,0)):=by
  have:=Ac (W0.drew.alloc (.cells #[.pointer (some ⟨ab,0,none⟩)] 25)) (.cells #[idV 1] 51);rw[show(W0.drew.alloc (.cells #[.pointer (some ⟨ab,0,none⟩)] 25)).heap.size=w.heap.size+2+1 by simp[hz']] at this;exact this
 have hzW:((W0.drew.alloc (.cells #[.pointer (some ⟨ab,0,none⟩)] 25)).alloc (.cells #[idV 1] 51)).heap.size=w.heap.size+4:=by simp[hz']
 generalize World.alloc (World.alloc W0.drew _) _=W1 at hbW k1 k2 hzW⊢;have g0:W1.heap[w.heap.size]? =some (.cells #[.pointer (some ⟨ab,0,none⟩)] 25 (0,0)):=(hbW.block _ (by omega)).trans h0;have g1:W1.heap[w.heap.size+1]? =some (.cells #[.bool false] 4 (0,0)):=(hbW.block _ (by omega)).trans h1;have hb1:Below w.heap.size w W1:=hb0.trans (hbW.mono (by omega));obtain⟨⟨mb,c,hAr⟩,hkb⟩:=HA.out;have hseq:=IG ab mb c M w.heap.size 1 (w.heap.size+2+1) (w.heap.size+2) F xs W1 (fun W' hf=>hAr.below (hb1.trans (hf.below' (by omega))) AA) (AJ W1 (w.heap.size+2+1) 0 _ _ (0,0) k2) (AJ W1 (w.heap.size+2) 0 _ _ (0,0) k1) ⟨by omega,by omega,by omega,by omega⟩ (by decide) hkb hxs hF;have HB1:=zz hb1;have HARW:=zz (show∀W',Fr (fun q=>w.heap.size≤q) W1 W'→ArOk W' ab M from fun W' hf=>HA.out.below (hb1.trans (hf.below' (by omega))));clear hA hAr hkb k1 k2 hHeld h0 h1 hb0 hbW e0 TW TR hb1;go_wp2;gi_wp2;refine GV (gf:=135) rfl (enters_of Tryz.func135 (by kernel_rfl) rfl) hseq (Fr.refl _ _) rfl (fun q h=>by rcases h with h|h <;>omega) (by omega)
  (fun S pre A=>BoxI ab w.heap.size S A∧(pre.map Am.strip).any (hidK sn)=false) (fun c S _ A=>HidX hb ab w.heap.size c S A) (fun S pre x a A=>HieR ab w.heap.size S x a A∧(pre.map Am.strip).any (hidK sn)=false) (fun S pre A A' h hf=>⟨h.1.fr hf,h.2⟩) (fun c S pre A A' h hf=>⟨h.1,h.2.1.fr hf,hf.at_ h.2.2.1 (fun k=>k ((h.2.1.2.2 _).2 (.inr rfl))),h.2.2.2⟩) ?hI1 (fun S pre A h q hq=>(h.1.lt q hq).2) ?hI1l
  (fun q=>q=w.heap.size∨q=w.heap.size+1) ⟨⟨g0,⟨_,g1⟩,fun q=>Iff.rfl⟩,rfl⟩ (fun q e=>by rcases e with e|e <;>subst e <;>exact⟨by omega,by omega,by omega⟩) ?assign ?body ?done ?stop
 case hI1=>
  rintro S pre x a A A' ⟨⟨S0,blk,hi,ha,hb,hS,hn⟩,hp⟩ hf;exact⟨⟨S0,blk,hi.fr (hf.imp (fun q _ h h'=>h (.inl ((hS q).2 (.inl h'))))),ha,hf.at_ hb (fun h=>h (.inl ((hS blk).2 (.inr rfl)))),hS,hn⟩,hp⟩
 case hI1l=>
  rintro S pre x a A ⟨⟨S0,blk,hi,ha,hb,hS,hn⟩,hp⟩ q hq;rcases(hS q).1 hq with h|h
  ·exact(hi.lt q h).2
  ·subst h;exact(AZ.1 hb).1
 case assign=>
  intro l m S pre x A K hi hpre hx hkb hf hK;gi_wp2;refine hK (fun q=>S q∨q=A.heap.size) _ _ ⟨⟨S,A.heap.size,hi.1.fr ((Fr.refl _ _).alloc _), ?_,Ac A _,fun q=>Iff.rfl,fun h=>by have:=(hi.1.lt _ h).2;omega⟩,hi.2⟩ ((Fr.refl _ _).alloc _) (fun q h=>h.imp (fun h=>h) (fun h=>by omega));exact⟨_,_,_,_,_,_,_,_,_,_,_,_,_,_,_,_,_,_,_,_,_,_,_,_,rfl⟩
 case body=>
  rintro l m S pre x a1 A ⟨⟨S0,blk,⟨hbx,⟨r0,hbr⟩,hSv⟩,ha,hbk,hS,hn⟩,hpo⟩ hpre hf;obtain⟨u0,u5,u6,u7,u8,u9,u10,u11,u12,u13,u14,u15,u16,u17,u18,u19,u20,u21,u22,u23,u24,u25,u26,u27,rfl⟩:=ha;have hxm:x.strip∈xs:=hpre.subset (by simp);have hf2:Fr (fun q=>w.heap.size≤q) W1 A:=hf.imp (fun q _ e=>by rcases e with(e|e)|e|e <;>omega);have HAA:=zz (HARW.out A hf2);obtain⟨xi,nd,ka,kc⟩:=x;have hxm:(xi,nd)∈xs:=hxm;have hxt:xi < Ai:=HALL.out.1 _ hxm;obtain⟨hR,hRl⟩:=HALL.out.2 _ hxm;dsimp only at hR hRl;have HBAD:=zz (show hidK sn (xi,nd)=true→hb=true from fun h=>HHB.out.trans (List.any_eq_true.2 ⟨_,hxm,h⟩));have HRET:=zz (show hb=true→∀W:World,Fr (fun _=>False) A W→∃S',HidX hb ab w.heap.size .ret S' (W.setCell ⟨w.heap.size+1,0,none⟩ (.bool true))∧Fr S A (W.setCell ⟨w.heap.size+1,0,none⟩ (.bool true))∧∀q,S' q→S q∨A.heap.size≤q from fun hno W hf=>by
   have h1:W.heap[w.heap.size]? =some (.cells #[.pointer (some ⟨ab,0,none⟩)] 25 (0,0)):=hf.at_ hbx (fun h=>h);have h2:W.heap[w.heap.size+1]? =some (.cells #[r0] 4 (0,0)):=hf.at_ hbr (fun h=>h);have h3:(W.setCell ⟨w.heap.size+1,0,none⟩ (.bool true)).heap[w.heap.size+1]? =some (.cells #[.bool true] 4 (0,0)):=heap_setCell_same h2 _;exact⟨S0,⟨rfl,⟨(Below.heap_setCell W ⟨w.heap.size+1,0,none⟩ (.bool true) w.heap.size (by show¬w.heap.size=w.heap.size+1;omega)).trans h1,⟨_,h3⟩,hSv⟩,h3,hno⟩,(hf.imp (fun q _ e=>e.elim)).set (p:=⟨w.heap.size+1,0,none⟩) (.inl ((hS _).2 (.inl ((hSv _).2 (.inr rfl))))) _,fun q h=> .inl ((hS q).2 (.inl h))⟩)
  have HGO:=zz (show hidK sn (xi,nd)=false→∀W:World,Fr (fun _=>False) A W→∃S',(BoxI ab w.heap.size S' W∧((pre++[(⟨xi,nd,ka,kc⟩:Am)]).map Am.strip).any (hidK sn)=false)∧Fr S A W∧∀q,S' q→S q∨A.heap.size≤q from fun hyes W hf=>
   ⟨S0,⟨⟨hf.at_ hbx (fun h=>h),⟨r0,hf.at_ hbr (fun h=>h)⟩,hSv⟩,by rw[List.map_append,List.any_append,hpo];simp[Am.strip,hyes]⟩,hf.imp (fun q _ e=>e.elim),fun q h=> .inl ((hS q).2 (.inl h))⟩)
  have HROW:=zz (show hidK sn (xi,nd)=((decide (nd.kind=15)||decide (nd.kind=7)) && !decide (0≤idxI (sn xi) nd.ref)) from rfl);have e0:=AJ A blk 0 _ _ (0,0) hbk;have e4:=AJ A blk 4 _ _ (0,0) hbk;have eB:=AJ A w.heap.size 0 _ _ (0,0) hbx;have hbl:=(AZ.1 hbk).1;have hBl:=(AZ.1 hbx).1;simp at e0 e4 eB;have hnr:¬(fun _:Nat=>False) (w.heap.size+1):=fun h=>h;generalize sn xi=R at hR hRl HROW;have TS:=zz (V8 ab M par HP.out xi F2 R A.drew (HAA.out.below (AP).drew) hxt hR hF2);have hHeld:(fun w'=>w'.cell? ⟨w.heap.size,0,none⟩=some (.pointer (some ⟨ab,0,none⟩))∧w'.cell? ⟨blk,0,none⟩=some (.int .u8 (nd.kind:Int))∧w'.cell? ⟨blk,4,none⟩=some (.int .u64 (nd.ref:Int))) A.drew:=⟨eB,e0,e4⟩;clear hpre hf hf2 hxm hpo hR hS hn;gi_wp2;by_cases hk:nd.kind=15∨nd.kind=7
  ·have HROW:=zz (HROW.out.trans (show _= !decide (0≤idxI R nd.ref) by rcases hk with h|h <;>simp[h]))
   generalize hdi:decide (0≤idxI R nd.ref)=dB at HROW;by_cases k15:nd.kind=15
   ·have q15:((nd.kind:Int)==15)=true:=by simp[k15]
    clear hk k15;cases dB
    ·have hyes:hidK sn (xi,nd)=true:=HROW.out
     refine BA (fun w'=>w'.cell? ⟨w.heap.size,0,none⟩=some (.pointer (some ⟨ab,0,none⟩))∧w'.cell? ⟨blk,0,none⟩=some (.int .u8 (nd.kind:Int))∧w'.cell? ⟨blk,4,none⟩=some (.int .u64 (nd.ref:Int))) 16 (by kernel_rfl) (by kernel_rfl) (by rintro⟨_,_,h⟩;exact h) ?_;refine tz 0 ?_;refine tz 1 ?_;refine tz 2 ?_;refine tz 3 ?_;refine AC (i:=4) rfl (by kernel_rfl) (fun _ _ _ h=>h) (by assumption) (Or.inr ⟨by rfl,rfl⟩) ?_
     try simp only[Act.put,sA,sB,sC,sD,sE,sF]
     refine AC (i:=5) rfl (by kernel_rfl) (fun _ _ _ h=>h) (by assumption) (Or.inr ⟨by rfl,rfl⟩) ?_
     try simp only[Act.put,sA,sB,sC,sD,sE,sF]
     refine AC (i:=6) rfl (by kernel_rfl) (fun _ _ _ h=>h) (by assumption) (Or.inr ⟨by rfl,rfl⟩) ?_
     try simp only[Act.put,sA,sB,sC,sD,sE,sF]
     refine tz 7 ?_;refine tz 8 ?_;refine tz 9 ?_;refine tz 10 ?_;refine tz 12 ?_;refine tz 13 ?_;refine AR (i:=11) rfl (by kernel_rfl) (fun K hK=> ?_);go_simp;refine TS.out.mono ?_;rintro e W5 ⟨⟨v5,rfl,ho5⟩,hb5⟩;have HO5:=zz ho5;have HB5:=zz hb5;clear ho5 TS;refine hK.out _ _ (⟨(hb5.cell (p:=⟨w.heap.size,0,none⟩) hBl).trans hHeld.1,(hb5.cell (p:=⟨blk,0,none⟩) hbl).trans hHeld.2.1,(hb5.cell (p:=⟨blk,4,none⟩) hbl).trans hHeld.2.2⟩) (fun hHeld=> ?_);clear hK K
     try simp only[Act.put,sA,sB,sC,sD,sE,sF]
     refine AR (i:=14) rfl (by kernel_rfl) (fun K hK=> ?_);go_simp;have TC:=FP W5.heap.size v5 R nd.ref W5 (Sl.Aj HO5.out) (by omega) hRl;rw[hdi] at TC;refine TC.mono ?_;rintro e W6 ⟨rfl,rfl⟩;refine hK.out _ _ (hHeld) (fun hHeld=> ?_);clear hK K
     try simp only[Act.put,sA,sB,sC,sD,sE,sF]
     refine tz 15 ?_;refine Af (by kernel_rfl) ?_;simp only[List.drop_succ_cons,List.drop_zero];have HFA:Fr (fun _=>False) A W5:=(Fr.refl _ A).drew.trans (Fr.of_below HB5.out);have HNO:=zz (show hb=true from HBAD.out hyes);have h2:=HFA.at_ hbr hnr;have f7:=DI h2;have d7:=AJ _ (w.heap.size+1) 0 _ _ (0,0) h2;simp at d7;have l7:=(AZ.1 h2).1;have HFIN:=zz (HRET.out HNO.out _ HFA);clear HFA h2;go_wp2;gi_wp2;exact HFIN.out
    ·have hno:hidK sn (xi,nd)=false:=HROW.out
     refine BA (fun w'=>w'.cell? ⟨w.heap.size,0,none⟩=some (.pointer (some ⟨ab,0,none⟩))∧w'.cell? ⟨blk,0,none⟩=some (.int .u8 (nd.kind:Int))∧w'.cell? ⟨blk,4,none⟩=some (.int .u64 (nd.ref:Int))) 16 (by kernel_rfl) (by kernel_rfl) (by rintro⟨_,_,h⟩;exact h) ?_;refine tz 0 ?_;refine tz 1 ?_;refine tz 2 ?_;refine tz 3 ?_;refine AC (i:=4) rfl (by kernel_rfl) (fun _ _ _ h=>h) (by assumption) (Or.inr ⟨by rfl,rfl⟩) ?_
     try simp only[Act.put,sA,sB,sC,sD,sE,sF]
     refine AC (i:=5) rfl (by kernel_rfl) (fun _ _ _ h=>h) (by assumption) (Or.inr ⟨by rfl,rfl⟩) ?_
     try simp only[Act.put,sA,sB,sC,sD,sE,sF]
     refine AC (i:=6) rfl (by kernel_rfl) (fun _ _ _ h=>h) (by assumption) (Or.inr ⟨by rfl,rfl⟩) ?_
     try simp only[Act.put,sA,sB,sC,sD,sE,sF]
     refine tz 7 ?_;refine tz 8 ?_;refine tz 9 ?_;refine tz 10 ?_;refine tz 12 ?_;refine tz 13 ?_;refine AR (i:=11) rfl (by kernel_rfl) (fun K hK=> ?_);go_simp;refine TS.out.mono ?_;rintro e W5 ⟨⟨v5,rfl,ho5⟩,hb5⟩;have HO5:=zz ho5;have HB5:=zz hb5;clear ho5 TS;refine hK.out _ _ (⟨(hb5.cell (p:=⟨w.heap.size,0,none⟩) hBl).trans hHeld.1,(hb5.cell (p:=⟨blk,0,none⟩) hbl).trans hHeld.2.1,(hb5.cell (p:=⟨blk,4,none⟩) hbl).trans hHeld.2.2⟩) (fun hHeld=> ?_);clear hK K
     try simp only[Act.put,sA,sB,sC,sD,sE,sF]
     refine AR (i:=14) rfl (by kernel_rfl) (fun K hK=> ?_);go_simp;have TC:=FP W5.heap.size v5 R nd.ref W5 (Sl.Aj HO5.out) (by omega) hRl;rw[hdi] at TC;refine TC.mono ?_;rintro e W6 ⟨rfl,rfl⟩;refine hK.out _ _ (hHeld) (fun hHeld=> ?_);clear hK K
     try simp only[Act.put,sA,sB,sC,sD,sE,sF]
     refine tz 15 ?_;refine Af (by kernel_rfl) ?_;simp only[List.drop_succ_cons,List.drop_zero];have HFA:Fr (fun _=>False) A W5:=(Fr.refl _ A).drew.trans (Fr.of_below HB5.out);have HFIN:=zz (HGO.out hno _ HFA);clear HFA;go_wp2;gi_wp2;exact HFIN.out
   ·have q15:((nd.kind:Int)==15)=false:=by simp;omega
    have q7:((nd.kind:Int)==7)=true:=by
     have:nd.kind=7:=by omega
     simp[this]
    clear hk k15;cases dB
    ·have hyes:hidK sn (xi,nd)=true:=HROW.out
     refine BA (fun w'=>w'.cell? ⟨w.heap.size,0,none⟩=some (.pointer (some ⟨ab,0,none⟩))∧w'.cell? ⟨blk,0,none⟩=some (.int .u8 (nd.kind:Int))∧w'.cell? ⟨blk,4,none⟩=some (.int .u64 (nd.ref:Int))) 16 (by kernel_rfl) (by kernel_rfl) (by rintro⟨_,_,h⟩;exact h) ?_;refine tz 0 ?_;refine tz 1 ?_;refine tz 2 ?_;refine tz 3 ?_;refine tz 4 ?_;refine tz 5 ?_;refine tz 6 ?_;refine tz 7 ?_;refine tz 8 ?_;refine tz 9 ?_;refine tz 10 ?_;refine tz 12 ?_;refine tz 13 ?_;refine AR (i:=11) rfl (by kernel_rfl) (fun K hK=> ?_);go_simp;refine TS.out.mono ?_;rintro e W5 ⟨⟨v5,rfl,ho5⟩,hb5⟩;have HO5:=zz ho5;have HB5:=zz hb5;clear ho5 TS;refine hK.out _ _ (⟨(hb5.cell (p:=⟨w.heap.size,0,none⟩) hBl).trans hHeld.1,(hb5.cell (p:=⟨blk,0,none⟩) hbl).trans hHeld.2.1,(hb5.cell (p:=⟨blk,4,none⟩) hbl).trans hHeld.2.2⟩) (fun hHeld=> ?_);clear hK K
     try simp only[Act.put,sA,sB,sC,sD,sE,sF]
     refine AR (i:=14) rfl (by kernel_rfl) (fun K hK=> ?_);go_simp;have TC:=FP W5.heap.size v5 R nd.ref W5 (Sl.Aj HO5.out) (by omega) hRl;rw[hdi] at TC;refine TC.mono ?_;rintro e W6 ⟨rfl,rfl⟩;refine hK.out _ _ (hHeld) (fun hHeld=> ?_);clear hK K
     try simp only[Act.put,sA,sB,sC,sD,sE,sF]
     refine tz 15 ?_;refine Af (by kernel_rfl) ?_;simp only[List.drop_succ_cons,List.drop_zero];have HFA:Fr (fun _=>False) A W5:=(Fr.refl _ A).drew.trans (Fr.of_below HB5.out);have HNO:=zz (show hb=true from HBAD.out hyes);have h2:=HFA.at_ hbr hnr;have f7:=DI h2;have d7:=AJ _ (w.heap.size+1) 0 _ _ (0,0) h2;simp at d7;have l7:=(AZ.1 h2).1;have HFIN:=zz (HRET.out HNO.out _ HFA);clear HFA h2;go_wp2;gi_wp2;exact HFIN.out
    ·have hno:hidK sn (xi,nd)=false:=HROW.out
     refine BA (fun w'=>w'.cell? ⟨w.heap.size,0,none⟩=some (.pointer (some ⟨ab,0,none⟩))∧w'.cell? ⟨blk,0,none⟩=some (.int .u8 (nd.kind:Int))∧w'.cell? ⟨blk,4,none⟩=some (.int .u64 (nd.ref:Int))) 16 (by kernel_rfl) (by kernel_rfl) (by rintro⟨_,_,h⟩;exact h) ?_;refine tz 0 ?_;refine tz 1 ?_;refine tz 2 ?_;refine tz 3 ?_;refine tz 4 ?_;refine tz 5 ?_;refine tz 6 ?_;refine tz 7 ?_;refine tz 8 ?_;refine tz 9 ?_;refine tz 10 ?_;refine tz 12 ?_;refine tz 13 ?_;refine AR (i:=11) rfl (by kernel_rfl) (fun K hK=> ?_);go_simp;refine TS.out.mono ?_;rintro e W5 ⟨⟨v5,rfl,ho5⟩,hb5⟩;have HO5:=zz ho5;have HB5:=zz hb5;clear ho5 TS;refine hK.out _ _ (⟨(hb5.cell (p:=⟨w.heap.size,0,none⟩) hBl).trans hHeld.1,(hb5.cell (p:=⟨blk,0,none⟩) hbl).trans hHeld.2.1,(hb5.cell (p:=⟨blk,4,none⟩) hbl).trans hHeld.2.2⟩) (fun hHeld=> ?_);clear hK K
     try simp only[Act.put,sA,sB,sC,sD,sE,sF]
     refine AR (i:=14) rfl (by kernel_rfl) (fun K hK=> ?_);go_simp;have TC:=FP W5.heap.size v5 R nd.ref W5 (Sl.Aj HO5.out) (by omega) hRl;rw[hdi] at TC;refine TC.mono ?_;rintro e W6 ⟨rfl,rfl⟩;refine hK.out _ _ (hHeld) (fun hHeld=> ?_);clear hK K
     try simp only[Act.put,sA,sB,sC,sD,sE,sF]
     refine tz 15 ?_;refine Af (by kernel_rfl) ?_;simp only[List.drop_succ_cons,List.drop_zero];have HFA:Fr (fun _=>False) A W5:=(Fr.refl _ A).drew.trans (Fr.of_below HB5.out);have HFIN:=zz (HGO.out hno _ HFA);clear HFA;go_wp2;gi_wp2;exact HFIN.out
  ·have q15:((nd.kind:Int)==15)=false:=by simp;omega
   have q7:((nd.kind:Int)==7)=false:=by simp;omega
   have hno:hidK sn (xi,nd)=false:=HROW.out.trans (by rw[decide_eq_false (fun h=>hk (.inl h)),decide_eq_false (fun h=>hk (.inr h))];rfl);clear hk;refine BA (fun w'=>w'.cell? ⟨w.heap.size,0,none⟩=some (.pointer (some ⟨ab,0,none⟩))∧w'.cell? ⟨blk,0,none⟩=some (.int .u8 (nd.kind:Int))∧w'.cell? ⟨blk,4,none⟩=some (.int .u64 (nd.ref:Int))) 16 (by kernel_rfl) (by kernel_rfl) (by rintro⟨_,_,h⟩;exact h) ?_;refine tz 0 ?_;refine tz 1 ?_;refine tz 2 ?_;refine tz 3 ?_;refine tz 4 ?_;refine tz 5 ?_;refine tz 6 ?_;refine tz 7 ?_;refine tz 8 ?_;refine AC (i:=9) rfl (by kernel_rfl) (fun _ _ _ h=>h) (by assumption) (Or.inr ⟨by rfl,rfl⟩) ?_
   try simp only[Act.put,sA,sB,sC,sD,sE,sF]
   refine AC (i:=10) rfl (by kernel_rfl) (fun _ _ _ h=>h) (by assumption) (Or.inr ⟨by rfl,rfl⟩) ?_
   try simp only[Act.put,sA,sB,sC,sD,sE,sF]
   refine AC (i:=11) rfl (by kernel_rfl) (fun _ _ _ h=>h) (by assumption) (Or.inr ⟨by rfl,rfl⟩) ?_
   try simp only[Act.put,sA,sB,sC,sD,sE,sF]
   refine AC (i:=12) rfl (by kernel_rfl) (fun _ _ _ h=>h) (by assumption) (Or.inr ⟨by rfl,rfl⟩) ?_
   try simp only[Act.put,sA,sB,sC,sD,sE,sF]
   refine AC (i:=13) rfl (by kernel_rfl) (fun _ _ _ h=>h) (by assumption) (Or.inr ⟨by rfl,rfl⟩) ?_
   try simp only[Act.put,sA,sB,sC,sD,sE,sF]
   refine AC (i:=14) rfl (by kernel_rfl) (fun _ _ _ h=>h) (by assumption) (Or.inr ⟨by rfl,rfl⟩) ?_
   try simp only[Act.put,sA,sB,sC,sD,sE,sF]
   refine AC (i:=15) rfl (by kernel_rfl) (fun _ _ _ h=>h) (by assumption) (Or.inr ⟨by rfl,rfl⟩) ?_
   try simp only[Act.put,sA,sB,sC,sD,sE,sF]
   refine Af (by kernel_rfl) ?_;simp only[List.drop_succ_cons,List.drop_zero];have HFA:Fr (fun _=>False) A A.drew:=(Fr.refl _ A).drew;have HFIN:=zz (HGO.out hno _ HFA);clear HFA;go_wp2;gi_wp2;exact HFIN.out
 case done=>
  rintro S ys W hys ⟨⟨hbx,⟨r0,hbr⟩,hSv⟩,hall⟩ hK hnS hf;rw[hys] at hall;have HNO:=zz (HHB.out.trans hall);clear hall;have eB:=AJ W (w.heap.size+1) 0 _ _ (0,0) hbr;simp at eB;have fB:W.frozen? ⟨w.heap.size+1,0,none⟩=false:=by simp[World.frozen?,hbr]
  have hl2:=(AZ.1 hbr).1;have hne:¬w.heap.size+1=W1.heap.size:=by omega
  have hK2:(W.setCell ⟨w.heap.size+1,0,none⟩ (.bool false)).heap[W1.heap.size]? =some (.deferred (some [])):=(Below.heap_setCell W ⟨w.heap.size+1,0,none⟩ (.bool false) W1.heap.size (fun e=>hne e.symm)).trans hK;have hfs:=hf.set (p:=⟨w.heap.size+1,0,none⟩) (.inl (.inl (.inr rfl))) (.bool false);have hbs:(W.setCell ⟨w.heap.size+1,0,none⟩ (.bool false)).heap[w.heap.size+1]? =some (.cells #[.bool false] 4 (0,0)):=heap_setCell_same hbr _;have hpf:=CY (W.setCell ⟨w.heap.size+1,0,none⟩ (.bool false)) W1.heap.size (.deferred none);have hcell:((W.setCell ⟨w.heap.size+1,0,none⟩ (.bool false)).putObj W1.heap.size (.deferred none)).cell? ⟨w.heap.size+1,0,none⟩=some (.bool false):=by
   have:=AJ _ (w.heap.size+1) 0 _ _ (0,0) (hpf.at_ hbs hne);simpa using this
  have HFIN:=zz (show Below w.heap.size w ((W.setCell ⟨w.heap.size+1,0,none⟩ (.bool false)).putObj W1.heap.size (.deferred none)) from by
   have h1:=HB1.out.trans ((hfs.imp (D':=fun q=>w.heap.size≤q) (fun q _ e=>by rcases e with(e|e)|e|e <;>omega)).below' (by omega));exact h1.trans ((hpf.imp (D':=fun q=>w.heap.size≤q) (fun q _ e=>by omega)).below' h1.size))
  clear hbx hbr hSv hf hfs hbs hpf;gi_wp2;refine⟨by simp,.inl ⟨_,_,rfl,run_takeDeferred hK2, ?_⟩⟩;refine⟨.bool false, ?_,AQ HNO.out.symm,HFIN.out⟩
  simp[results,Tryz.results37,go_sem,hcell]
 case stop=>
  rintro c S pre W hpre ⟨rfl,⟨hbx,-,hSv⟩,hbr,hno⟩ hK hnS hf;have HNO:=zz hno;have hne:¬w.heap.size+1=W1.heap.size:=by omega
  have hpf:=CY W W1.heap.size (.deferred none);have hcell:(W.putObj W1.heap.size (.deferred none)).cell? ⟨w.heap.size+1,0,none⟩=some (.bool true):=by
   have:=AJ _ (w.heap.size+1) 0 _ _ (0,0) (hpf.at_ hbr hne);simpa using this
  have HFIN:=zz (show Below w.heap.size w (W.putObj W1.heap.size (.deferred none)) from by
   have h1:=HB1.out.trans ((hf.imp (D':=fun q=>w.heap.size≤q) (fun q _ e=>by rcases e with(e|e)|e|e <;>omega)).below' (by omega));exact h1.trans ((hpf.imp (D':=fun q=>w.heap.size≤q) (fun q _ e=>by omega)).below' h1.size))
  clear hbx hbr hSv hf hpf hno;gi_wp2;refine⟨by simp,.inl ⟨_,_,rfl,run_takeDeferred hK, ?_⟩⟩;refine⟨.bool true, ?_,AQ HNO.out.symm,HFIN.out⟩
  simp[results,Tryz.results37,go_sem,hcell]
end Go.Proofs.YthihjcannjhonaaGreatDoor
namespace Hg
theorem BB.wants{M:Nat→Option Node}{n:Node}(hk:BB M n)(abv:Nat→Nat)(id:Nat)(h19:n.kind≠19):(Ct M abv id n).length≤n.kids.length:=by
 unfold BB at hk;unfold Ct JY;by_cases k6:n.kind=6
 ·rw[if_pos k6];simp;omega
 rw[if_neg k6];by_cases k7:n.kind=7
 ·rw[if_pos k7];simp;omega
 rw[if_neg k7];by_cases k8:n.kind=8∨n.kind=9∨n.kind=16
 ·rw[if_pos k8];simp;omega
 rw[if_neg k8];by_cases k17:n.kind=17
 ·rw[if_pos k17];simp;omega
 rw[if_neg k17];by_cases k10:n.kind=10
 ·rw[if_pos k10];simp;omega
 rw[if_neg k10];by_cases k18:n.kind=18
 ·rw[if_pos k18]
  split
  ·simp;omega
  ·split <;>(simp;omega)
 rw[if_neg k18,if_neg h19];simp
end Hg
namespace Go.Proofs.YthihjcannjhonaaGreatDoor
open Go.RowKit
open Hg (GT gl wk isK ndAt Bl KB EC Ct okT F8 RB dupB FD Ns BB)
structure Pq (M:Nat→Option Hg.Node) (par:Nat→Nat×Int) (dp:Bool) (abv:Nat→Nat) (F F2:Nat) (xs:List (Nat×Hg.Node)) (sn:Nat→List Nat) (nms:Nat→List Hg.Str):Prop where
 text:Xg M par dp F xs
 clash:Ns M nms
 f2:F2≤1000000
 seen:∀x∈xs,EC M par F2 x.1 [] []=some (sn x.1)∧(sn x.1).length≤1000000
 abo:Rj M abv
 rb:RB M
 id:∀x∈xs,x.1≤1000000
noncomputable def Ku(M:Nat→Option Hg.Node)(par:Nat→Nat×Int)(dp:Bool)(abv:Nat→Nat)(xs:List (Nat×Hg.Node))(sn:Nat→List Nat)(nms:Nat→List Hg.Str):Nat:=
 if shpB M par dp xs=false then 2 else if FD M nms=true then 10 else if xs.any (hidK sn)=true then 9 else if xs.all (okT M abv)=false then 11 else if F8 M=0 then 3 else 0
theorem QW{M:Nat→Option Hg.Node}{par:Nat→Nat×Int}{x:Nat×Hg.Node}(h:rowB M par x=true):BB M x.2:=by
 unfold rowB at h;simp only[Bool.and_eq_true] at h;exact FQ.1 h.2.2.1
theorem R6(ab:Nat)(M:Nat→Option Hg.Node)(par:Nat→Nat×Int)(dp:Bool)(abv:Nat→Nat)(F F2:Nat)(xs:List (Nat×Hg.Node))(sn:Nat→List Nat)(nms:Nat→List Hg.Str)(w:World)(hA:ArOk w ab M)(hT:DX w)(hR:Pq M par dp abv F F2 xs sn nms):
 Calls Tryz.prog 18 #[.pointer (some ⟨ab,0,none⟩)] w fun e w'=>e= .returned (.int .i64 (Ku M par dp abv xs sn nms:Int))∧Below w.heap.size w w':=by
 have T1:=zz (QQ ab M par dp F xs w hA hT hR.text);have T2:=zz (fun W (h:Below w.heap.size w W)=>TU ab M nms W (hA.below h) hR.clash);have T3:=zz (fun W (h:Below w.heap.size w W)=>Q7 ab M par hR.text.prs F F2 xs W (hA.below h) hR.text.walk hR.text.f hR.f2 hR.text.id sn hR.seen);have T4:=zz (fun(hs:shpB M par dp xs=true) W (h:Below w.heap.size w W)=>UY ab M abv hR.abo hR.rb F xs W (hA.below h) hR.text.walk hR.text.f hR.id (fun x hx h18=>by
  have hk:=QW (List.all_eq_true.1 (Ff.1 hs).2.1 x hx);unfold BB at hk;omega) (fun x hx h19=>(QW (List.all_eq_true.1 (Ff.1 hs).2.1 x hx)).wants abv x.1 h19))
 have T5:=zz (fun W (h:Below w.heap.size w W)=>NK ab M W (hA.below h));obtain⟨rv,hrv⟩:∃r,r=Ku M par dp abv xs sn nms:=⟨_,rfl⟩;rw[←hrv];unfold Ku at hrv;generalize shpB M par dp xs=b1 at hrv T1 T4;generalize FD M nms=b2 at hrv T2;generalize xs.any (hidK sn)=b3 at hrv T3;generalize xs.all (okT M abv)=b4 at hrv T4;generalize F8 M=mk at hrv T5;have HRV:=zz hrv;clear hA hT hR hrv;go_enter Tryz.func18,Tryz.ntmps18;go_wp2_with fail;refine T1.out.mono ?_;rintro e w1 ⟨rfl,hb1⟩;have HB1:=zz hb1;clear T1 hb1;cases b1 with
 |false=>
   have HF:=zz (show rv=2 from HRV.out);go_wp2;go_ret;exact⟨by rw[HF.out];rfl,HB1.out⟩
 |true=>
 have T6:=zz (T4.out rfl);clear T4;go_wp2_with fail;refine(T2.out _ HB1.out).mono ?_;rintro e w2 ⟨rfl,hb2⟩;have HB2:=zz (HB1.out.trans (hb2.mono HB1.out.size));clear T2 hb2;cases b2 with
 |true=>
   have HF:=zz (show rv=10 from HRV.out);go_wp2;go_ret;exact⟨by rw[HF.out];rfl,HB2.out⟩
 |false=>
 go_wp2_with fail;refine(T3.out _ HB2.out).mono ?_;rintro e w3 ⟨rfl,hb3⟩;have HB3:=zz (HB2.out.trans (hb3.mono HB2.out.size));clear T3 hb3;cases b3 with
 |true=>
   have HF:=zz (show rv=9 from HRV.out);go_wp2;go_ret;exact⟨by rw[HF.out];rfl,HB3.out⟩
 |false=>
 go_wp2_with fail;refine(T6.out _ HB3.out).mono ?_;rintro e w4 ⟨rfl,hb4⟩;have HB4:=zz (HB3.out.trans (hb4.mono HB3.out.size));clear T6 hb4;cases b4 with
 |false=>
   have HF:=zz (show rv=11 from HRV.out);go_wp2;go_ret;exact⟨by rw[HF.out];rfl,HB4.out⟩
 |true=>
 go_wp2_with fail;refine(T5.out _ HB4.out).mono ?_;rintro e w5 ⟨rfl,hb5⟩;have HB5:=zz (HB4.out.trans (hb5.mono HB4.out.size));clear T5 hb5;by_cases h0:mk=0
 ·subst h0
  have HF:=zz (show rv=3 from HRV.out);go_wp2;go_ret;exact⟨by rw[HF.out];rfl,HB5.out⟩
 ·have q0:((mk:Int)==0)=false:=by simp;omega
  have HF:=zz (show rv=0 from HRV.out.trans (by simp[h0]));clear h0;go_wp2;go_ret;exact⟨by rw[HF.out];rfl,HB5.out⟩
end Go.Proofs.YthihjcannjhonaaGreatDoor
namespace Hg
open Go.Proofs.YthihjcannjhonaaGreatDoor (DL He Hz DecR Pq Xg Ai)
def snL(l:List Row)(i:Nat):List Nat:=(EC (rowM l) (parR l) 20001 i [] []).getD []
def nmL(l:List Row)(f:Nat):List Str:=Bo ((wk (rowM l) (BO l+2) [f] []).getD [])
theorem KR:∀l:List Row,BO l=(l.flatMap fun r=>r.node.kids).length
 |[]=>rfl
 |r::l=>by rw[Dz,KR l];simp
theorem Us{l:List Row}(hT:Tr l)(hl:l.length≤20000)(h0:0 < l.length)(href:∀r∈l,r.node.ref < 18446744073709551616)(hnm:∀r∈l,r.node.name.length≤1000000)(hk:∀r∈l,r.node.kind≤255):
 ∃dp xs,(dp=true↔0 < CU l 200 1)∧wk (rowM l) (BO l+2) [1] []=some xs∧Pq (rowM l) (parR l) dp (abvR l) (BO l+2) 20001 xs (snL l) (nmL l):=by
 have hR:=hT.rows hl;have hM:=hT.trM hl h0;obtain⟨F,ot,htr,hdp⟩:=Vt hT hl h0 href;obtain⟨xs,hw,_⟩:=MH l 1;have hks:BO l+2≤1000000:=by
  have:=hT.perm.length_eq;rw[List.length_range'] at this;rw[KR];omega
 have hrow:∀x∈xs,∃r∈l,r.id=x.1∧r.node=x.2:=fun x hx=>(BZ hR).1 (EZ _ _ _ _ _ hw x hx);have hid:∀x∈xs,x.1≤20000:=fun x hx=>by
  have:=(hM.dom x.1).1 (by rw[EZ _ _ _ _ _ hw x hx];rfl);omega
 refine⟨ot.isSome,xs,hdp,hw,⟨⟨He hR,⟨F,ot,htr,rfl⟩,hw,hks,fun x hx=> ?_,fun x hx=> ?_,fun x hx=> ?_⟩,fun m _ f _=> ?_,by omega,fun x hx=> ?_,Hz hR (fun r hr=> ?_) hk,fun i nd hi=> ?_,fun x hx=> ?_⟩⟩
 ·have:=hid x hx;show x.1 < 18446744073709551616;omega
 ·obtain⟨r,hr,_,e⟩:=hrow x hx;rw[←e];exact href r hr
 ·obtain⟨r,hr,_,e⟩:=hrow x hx;rw[←e];exact hnm r hr
 ·obtain⟨ys,hy,_⟩:=MH l f
  exact⟨_,ys,hy,hks,by unfold nmL;rw[hy];rfl⟩
 ·obtain⟨R,hR1,hR2⟩:=Mt hT hl h0 20001 x.1 [] [] (by have:=hid x hx;omega) (fun s hs=>by cases hs)
  have hb:=SX hT hl h0 x.1;refine⟨by unfold snL;rw[hR1];rfl, ?_⟩;unfold snL;rw[hR1];simp only[List.length_nil] at hR2;show R.length≤1000000;omega
 ·rcases DL hR r.id with⟨h1,_,_⟩|⟨_,_,⟨b,hb,_,_⟩,_⟩
  ·exact .inr h1
  ·exact .inl (WQ hT hl h0 hb)
 ·exact htr.refs i nd hi
 ·have:=hid x hx;omega
end Hg
namespace Hg
structure Sh (l:List Row):Prop where
 tr:Tr l
 len:l.length≤20000
 name:∀r∈l,r.node.name.length≤1000000
 num:∀r∈l,r.node.num≤9223372036854775807
 shaped:shaped l=some true
section
variable {l:List Row} (h:Sh l)
include h
theorem Sh.pos:0 < l.length:=by
 have ht:=(Fg h.shaped).1;unfold tree at ht;cases l with
 |nil=>simp[atI] at ht
 |cons _ _=>simp
theorem Sh.trM:TrM (rowM l) l.length:=h.tr.trM h.len h.pos
theorem Sh.rows:F3 l:=h.tr.rows h.len
theorem Sh.row{i:Nat}{a:Node}(ha:rowM l i=some a):∃r∈l,r.id=i∧r.node=a∧UT l r:=by
 obtain⟨r,hr,h1,h2⟩:=(BZ h.rows).1 ha;exact⟨r,hr,h1,h2,Ji ((Fg h.shaped).2.1 r hr)⟩
theorem Sh.kids{i:Nat}{a:Node}(ha:rowM l i=some a):BB (rowM l) a:=by
 obtain⟨r,_,_,rfl,ho⟩:=h.row ha;exact Ik ho.fit ho.hi ho.lo
theorem Sh.kidK{i:Nat}{a:Node}(ha:rowM l i=some a){j k:Nat}(hj:a.kids[j]? =some k):
 (kindOf l k=6→a.kind=5)∧(kindOf l k=4→a.kind=3)∧(a.kind=1→kindOf l k=2)∧(a.kind=2→kindOf l k=3)∧(3≤a.kind→4≤kindOf l k):=by
 obtain⟨hlt,he⟩:=Ah.1 hj;have hk:kindOf l k=kk (rowM l) a j:=by rw[←LK];simp[List.getD,hj]
 rw[hk];obtain⟨r,_,_,rfl,ho⟩:=h.row ha;have hlo:=ho.lo;have hhi:=ho.hi;have hK:=h.kids ha;unfold BB at hK;rcases hK with⟨a1,a2⟩|⟨a1,a2⟩|⟨a1,a2,a3,a4⟩|⟨a1,a2⟩|⟨a1,a2,a3,a4⟩|⟨a1,a2,a3,a4,a5⟩|⟨a1,a2,a3,a4⟩|⟨a1,a2,a3⟩|⟨a1,a2,a3⟩|⟨a1,a2,a3,a4⟩|⟨a1,a2⟩|⟨a1,a2⟩
 ·have:=a2 j hlt;omega
 ·have:=a2 j hlt;omega
 ·by_cases e:j=r.node.kids.length-1
  ·rw[e,a4];omega
  ·have:=a3 j (by omega);omega
 ·omega
 ·by_cases e:j=r.node.kids.length-1
  ·rw[e];unfold stP at a4;omega
  ·have:=a3 j (by omega);unfold stP at this;omega
 ·unfold exP at a3
  match j,hlt with
  |0,_=>omega
  |1,_=>omega
  |2,_=>omega
  |n+3,hlt=>omega
 ·unfold exP at a3
  match j,hlt with
  |0,_=>omega
  |1,_=>omega
  |n+2,hlt=>omega
 ·obtain rfl:j=0:=by omega
  omega
 ·obtain rfl:j=0:=by omega
  unfold exP at a3;omega
 ·unfold exP at a3 a4
  match j,hlt with
  |0,_=>omega
  |1,_=>omega
  |n+2,hlt=>omega
 ·have:=a2 j hlt;unfold exP at this;omega
 ·omega
end
end Hg
namespace Hg
open Go.Proofs.YthihjcannjhonaaGreatDoor (idxI Du DL He Hz DecR UU Nr WI MW Ai)
theorem J5(l:List Row)(id:Nat):typeOf l id=CW (rowM l) id:=by
 unfold typeOf CW;simp only[AU];by_cases h1:(AL l id).kind=13∨(AL l id).kind=17∨(AL l id).kind=20
 ·rw[if_pos h1,if_pos h1]
 rw[if_neg h1,if_neg h1];by_cases h2:(AL l id).kind=14∨(AL l id).kind=16
 ·rw[if_pos h2,if_pos h2]
 rw[if_neg h2,if_neg h2];by_cases h3:(AL l id).kind=18
 ·rw[if_pos h3,if_pos h3]
  by_cases h4:5 < (AL l id).num
  ·rw[if_pos h4,if_neg (by omega)]
  ·rw[if_neg h4,if_pos (by omega)]
 rw[if_neg h3,if_neg h3]
theorem Dp{l:List Row}{n:Node}{i want:Nat}(h:Bj l n i want=false):CW (rowM l) (n.kids.getD i 0)=want:=by
 unfold Bj at h;rw[←J5];simpa using h
theorem Ll{l:List Row}{n:Node}:∀(p:List Nat) (i:Nat),Df l n i p=false→∀j t,p[j]? =some t→CW (rowM l) (n.kids.getD (i+j) 0)=t
 |[],i,_,j,t,ht=>by simp at ht
 |x::p,i,h,j,t,ht=>by
   unfold Df at h;simp only[Bool.or_eq_false_iff] at h;cases j with
   |zero=>simp at ht;subst ht;exact Dp h.1
   |succ j=>
     have:=Ll p (i+1) h.2 j t (by simpa using ht);rw[show i+(j+1)=i+1+j by omega];exact this
theorem ER(l:List Row)(id kind:Nat)(hk:kind≠0):Bl (rowM l) id kind=(AL l id).kids.filter fun k=>kindOf l k==kind:=by
 unfold Bl;rw[AU]
 congr 1
 funext k
 unfold isK kindOf;rw[←AU];unfold ndAt;cases rowM l k with
 |none=>simp[Node.zero,Ne.symm hk]
 |some a=>rfl
theorem Jj(l:List Row)(f:Nat):Bc l f=(Bl (rowM l) f 4).map fun p=>(ndAt (rowM l) p).type:=by
 unfold Bc;rw[ER l f 4 (by decide)];refine List.map_congr_left fun k _=> ?_;rw[AU]
section
variable {l:List Row} (h:Rt l)
include h
theorem Rt.okT{x:Nat}{a:Node}(ha:rowM l x=some a):okT (rowM l) (abvR l) (x,a)=true:=by
 rw[MK];dsimp only;obtain⟨r,hr,hid,hra,ho⟩:=h.row ha;have hlo:=ho.lo;have hhi:=ho.hi;rw[hra] at hlo hhi;by_cases h3:3≤a.kind
 ·obtain⟨m,S,fn,A,hV,_,_,_,hab⟩:=h.inFn x a ha h3
  have hn:=hV.node.2.1;rw[←AU,Aq ha] at hn;have habv:abvR l x=fn:=hab (x+1) (Nat.lt_succ_self _);unfold BC at hn;unfold Ct;have one:∀{t:Nat},CW (rowM l) (a.kids.getD 0 0)=t→∀(i u:Nat),([t]:List Nat)[i]? =some u→CW (rowM l) (a.kids.getD i 0)=u:=fun e i u hu=>by
   cases i with
   |zero=>simp at hu;rw[←hu];exact e
   |succ i=>simp at hu
  by_cases k6:a.kind=6
  ·rw[if_pos k6] at hn⊢;exact⟨fun e=>by omega,one (Dp hn)⟩
  rw[if_neg k6] at hn⊢;by_cases k7:a.kind=7
  ·rw[if_pos k7] at hn⊢;exact⟨fun e=>by omega,one (by rw[AU];exact Dp hn)⟩
  rw[if_neg k7] at hn⊢;by_cases k8:a.kind=8∨a.kind=9∨a.kind=16
  ·rw[if_pos k8] at hn⊢;exact⟨fun e=>by omega,one (Dp hn)⟩
  rw[if_neg k8] at hn⊢;by_cases k10:a.kind=10
  ·rw[if_pos k10] at hn;rw[if_neg (by omega),if_pos k10]
   exact⟨fun e=>by omega,one (by rw[habv,AU];exact Dp hn)⟩
  rw[if_neg k10] at hn;by_cases k17:a.kind=17
  ·rw[if_pos k17] at hn⊢;exact⟨fun e=>by omega,one (Dp hn)⟩
  rw[if_neg k17] at hn⊢;rw[if_neg k10];by_cases k18:a.kind=18
  ·rw[if_pos k18] at hn⊢
   refine⟨fun e=>by omega, ?_⟩;simp only[Bool.or_eq_false_iff] at hn;obtain⟨n0,n1⟩:=hn;have n0:=Dp n0;have n1:=Dp n1;unfold JY;have two:∀{t:Nat},CW (rowM l) (a.kids.getD 0 0)=t→CW (rowM l) (a.kids.getD 1 0)=t→∀(i u:Nat),([t,t]:List Nat)[i]? =some u→CW (rowM l) (a.kids.getD i 0)=u:=fun e e' i u hu=>by
    match i,hu with
    |0,hu=>simp at hu;rw[←hu];exact e
    |1,hu=>simp at hu;rw[←hu];exact e'
    |i+2,hu=>simp at hu
   by_cases c1:a.num≤9
   ·rw[if_pos c1]
    rw[if_neg (by omega),if_pos (by omega)] at n0 n1;exact two n0 n1
   ·rw[if_neg c1]
    by_cases c2:a.num≤11
    ·rw[if_pos c2]
     rw[if_pos (by omega)] at n0 n1;rw[J5] at n1;exact two rfl n1
    ·rw[if_neg c2]
     rw[if_neg (by omega),if_neg (by omega)] at n0 n1;exact two n0 n1
  rw[if_neg k18] at hn⊢;by_cases k19:a.kind=19
  ·rw[if_pos k19] at hn⊢
   rw[←Jj];by_cases hl:(Bc l a.ref).length≠a.kids.length
   ·simp only[if_pos hl] at hn;cases hn
   ·simp only[if_neg hl] at hn
    refine⟨fun _=>Classical.not_not.1 hl,fun i t ht=> ?_⟩;have:=Ll _ 0 hn i t ht
    rwa[Nat.zero_add] at this
  rw[if_neg k19];exact⟨fun e=>absurd e k19,fun i t ht=>by simp at ht⟩
 ·unfold Ct
  rw[if_neg (by omega),if_neg (by omega),if_neg (by omega),if_neg (by omega),if_neg (by omega),if_neg (by omega),if_neg (by omega)];exact⟨fun e=>by omega,fun i t ht=>by simp at ht⟩
theorem Rt.root:∃a,rowM l 1=some a∧a.kind=1:=by
 obtain⟨a,ha⟩:=Option.isSome_iff_exists.1 ((h.trM.dom 1).2 ⟨AA,h.pos⟩);obtain⟨r,_,h1,rfl,ho⟩:=h.row ha;exact⟨_,ha,ho.root.2 h1⟩
theorem Rt.mods:Bq (rowM l)=(AL l 1).kids:=by
 obtain⟨a,ha,hk⟩:=h.root;unfold Bq;rw[ER l 1 2 (by decide),List.filter_eq_self];intro k hkm;rw[←AU,Aq ha] at hkm;obtain⟨j,hj⟩:=List.getElem?_of_mem hkm;simpa using(h.kidK ha hj).2.2.1 hk
theorem Rt.modKind{m:Nat}(hm:m∈(AL l 1).kids):∃b,rowM l m=some b∧b.kind=2:=by
 obtain⟨a,ha,hk⟩:=h.root;rw[←AU,Aq ha] at hm;obtain⟨j,hj⟩:=List.getElem?_of_mem hm;have h2:=(h.kidK ha hj).2.2.1 hk;have:=h.trM.kid 1 a ha m hm;obtain⟨b,hb⟩:=Option.isSome_iff_exists.1 ((h.trM.dom m).2 (by omega));refine⟨b,hb, ?_⟩;unfold kindOf at h2
 rwa[←AU,Aq hb] at h2
theorem Rt.funcs{m:Nat}(hm:m∈(AL l 1).kids):BI (rowM l) m=(AL l m).kids:=by
 obtain⟨b,hb,hk⟩:=h.modKind hm;unfold BI;rw[ER l m 3 (by decide),List.filter_eq_self];intro k hkm;rw[←AU,Aq hb] at hkm;obtain⟨j,hj⟩:=List.getElem?_of_mem hkm;simpa using(h.kidK hb hj).2.2.2.1 hk
omit h in
theorem YN{l:List Row}{f:Nat}{xs:List (Nat×Node)}(hw:wk (rowM l) (BO l+2) [f] []=some xs)(hx:walk l f=xs.map Prod.fst):Bo xs=CZ l f:=by
 have hm:=EZ _ _ _ _ _ hw;unfold Bo CZ;rw[hx];clear hw hx
 induction xs with
 |nil=>rfl
 |cons x xs ih=>
   have e:AL l x.1=x.2:=by rw[←AU,Aq (hm x (by simp))]
   have ih:=ih fun y hy=>hm y (List.mem_cons_of_mem _ hy);rw[List.map_cons,List.filter_cons,List.filter_cons];unfold kindOf at ih⊢;rw[e];by_cases c:(x.2.kind==4||x.2.kind==6)=true
   ·rw[if_pos c,if_pos c,List.map_cons,List.map_cons,ih,e]
   ·rw[if_neg c,if_neg c,ih]
theorem Rt.dec:DecR l:=fun r hr=>by
 rcases DL h.rows r.id with⟨h1,_,_⟩|⟨h1,_,⟨b,hb,he,h5⟩,_⟩
 ·exact .inr h1
 ·exact .inl (h.trM.kid _ b hb r.id ((DY _ _).1 (by rw[he];exact h5))).1
theorem Rt.ref{i:Nat}{a:Node}(ha:rowM l i=some a):a.ref=0∨(1≤a.ref∧a.ref≤l.length):=by
 obtain⟨F,R,hK⟩:∃m,CO l l 0=some m∧True:=by
  have ht:=(Fg h.shaped).1;unfold tree at ht;cases h1:atI l 1 with
  |none=>rw[h1] at ht;cases ht
  |some k=>
    rw[h1] at ht;dsimp only at ht;by_cases hc:(rowAt l k).node.kind≠1∨(walk l 1).length≠l.length
    ·rw[if_pos hc] at ht;cases ht
    rw[if_neg hc] at ht;cases h2:CO l l 0 with
    |none=>rw[h2] at ht;cases ht
    |some m=>exact⟨m,rfl,trivial⟩
 obtain⟨r,hr,_,rfl,_⟩:=h.row ha;rcases J6 l l 0 F R r hr with e|e
 ·exact .inl e
 ·have:=(MU l r.node.ref).1 e
  rw[h.tr.ids,List.mem_range'_1] at this;exact .inr (by omega)
theorem Rt.parts{i:Nat}{a:Node}(ha:rowM l i=some a):MW (rowM l) a:=by
 have href:=h.ref ha;obtain⟨r,hr,hid,rfl,ho⟩:=h.row ha;have hlen:=h.len;have hnum:=h.num r hr;refine⟨by omega,h.name r hr, ?_⟩;have hlo:=ho.lo;have hhi:=ho.hi;have hno:isNamed r.node.kind=false→r.node.name=[]∧r.node.type=0:=fun e=>by
  have h1:=ho.named;rw[e] at h1;refine⟨by simpa using h1.symm,ho.notype (by rw[e];rfl)⟩
 have nn:r.node.kind≠2→r.node.kind≠3→r.node.kind≠4→r.node.kind≠6→isNamed r.node.kind=false:=fun a b c d=>by unfold isNamed;simp[a,b,c,d]
 have yes:isNamed r.node.kind=true→r.node.name≠[]∧Go.Proofs.YthihjcannjhonaaGreatDoor.Gg r.node.name=true:=fun e=>by
  have h1:=ho.named;rw[e] at h1;obtain⟨n1,n2⟩:=ho.name e;refine⟨by simpa using h1.symm, ?_⟩;unfold Go.Proofs.YthihjcannjhonaaGreatDoor.Gg;rw[n1,n2];rfl
 have kr:∀k,(ndAt (rowM l) k).kind=kindOf l k:=fun k=>by unfold kindOf;rw[AU]
 rw[kr];by_cases k2:r.node.kind=2
 ·have y:=yes (by rw[k2];rfl)
  exact .inl ⟨k2,y.1,y.2,ho.notype (by rw[k2];rfl),ho.num0 (by omega) (by omega) (by omega),ho.ref0 (by omega) (by omega) (by omega)⟩
 by_cases k3:r.node.kind=3∨r.node.kind=4∨r.node.kind=6
 ·have hn:isNamed r.node.kind=true:=by rcases k3 with e|e|e <;>rw[e] <;>rfl
  have y:=yes hn;have t:=ho.typed;rw[hn] at t
  simp[k2] at t
  exact .inr (.inl ⟨k3,y.1,y.2,t,ho.num0 (by omega) (by omega) (by omega),ho.ref0 (by omega) (by omega) (by omega)⟩)
 obtain⟨n1,n2⟩:=hno (nn k2 (by omega) (by omega) (by omega));by_cases k7:r.node.kind=7∨r.node.kind=15
 ·have hk:=ho.ref7 k7
  refine .inr (.inr (.inl ⟨k7,n1,n2,ho.num0 (by omega) (by omega) (by omega),fun e=> ?_,hk⟩));rw[e] at hk;have:kindOf l 0=0:=by rw[←kr];unfold ndAt;rw[Dg h.rows];rfl
  omega
 by_cases k19:r.node.kind=19
 ·have hk:=ho.ref19 k19
  refine .inr (.inr (.inr (.inl ⟨k19,n1,n2,ho.num0 (by omega) (by omega) (by omega),fun e=> ?_,hk⟩)));rw[e] at hk;have:kindOf l 0=0:=by rw[←kr];unfold ndAt;rw[Dg h.rows];rfl
  omega
 have h0:=ho.ref0 (by omega) (by omega) k19;by_cases k13:r.node.kind=13
 ·exact .inr (.inr (.inr (.inr (.inl ⟨k13,n1,n2,⟨ho.num13 k13,hnum⟩,h0⟩))))
 by_cases k14:r.node.kind=14
 ·exact .inr (.inr (.inr (.inr (.inr (.inl ⟨k14,n1,n2,ho.num14 k14,h0⟩)))))
 by_cases k18:r.node.kind=18
 ·exact .inr (.inr (.inr (.inr (.inr (.inr (.inl ⟨k18,n1,n2,ho.num18 k18,h0⟩))))))
 exact .inr (.inr (.inr (.inr (.inr (.inr (.inr ⟨by omega,n1,n2,ho.num0 k13 k14 k18,h0⟩))))))
omit h in
theorem Ii(l:List Row)(m:Nat)(mod fn:Str):∀fs:List Nat,GQ l m mod fn fs=Gj (rowM l) mod fn m fs
 |[]=>rfl
 |f::fs=>by
   unfold GQ Gj Cf;rw[List.find?_cons,AU,AU];by_cases c:(AL l m).name=mod∧(AL l f).name=fn
   ·rw[if_pos c,c.1,c.2];simp
   ·rw[if_neg c]
    have:((AL l m).name==mod && (AL l f).name==fn)=false:=by
     cases hb:((AL l m).name==mod && (AL l f).name==fn) with
     |false=>rfl
     |true=>simp at hb;exact absurd hb c
    rw[this];have ih:=Ii l m mod fn fs;unfold Gj Cf at ih;rw[ih,AU]
theorem Rt.MO(mod fn:Str):∀ms:List Nat,(∀m∈ms,m∈(AL l 1).kids)→funcOf l mod fn ms=(Ey (rowM l) mod fn ms).getD 0∧∀f,Ey (rowM l) mod fn ms=some f→∃m∈ms,f∈(AL l m).kids
 |[],_=>⟨rfl,fun f hf=>by cases hf⟩
 |m::ms,hm=>by
   obtain⟨ih1,ih2⟩:=Rt.MO mod fn ms fun x hx=>hm x (List.mem_cons_of_mem _ hx);unfold funcOf Ey;rw[Ii,h.funcs (hm m (by simp))];cases hf:Gj (rowM l) mod fn m (AL l m).kids with
   |none=>
     refine⟨ih1,fun f hf=> ?_⟩;obtain⟨x,hx,hx2⟩:=ih2 f hf;exact⟨x,List.mem_cons_of_mem _ hx,hx2⟩
   |some f=>exact⟨rfl,fun g hg=>by injection hg with hg;subst hg;exact⟨m,by simp,LV hf⟩⟩
end
end Hg
namespace Hg
section
variable {l:List Row} (h:Sh l)
include h
theorem Sh.root:∃a,rowM l 1=some a∧a.kind=1:=by
 obtain⟨a,ha⟩:=Option.isSome_iff_exists.1 ((h.trM.dom 1).2 ⟨AA,h.pos⟩);obtain⟨r,_,h1,rfl,ho⟩:=h.row ha;exact⟨_,ha,ho.root.2 h1⟩
theorem Sh.mods:Bq (rowM l)=(AL l 1).kids:=by
 obtain⟨a,ha,hk⟩:=h.root;unfold Bq;rw[ER l 1 2 (by decide),List.filter_eq_self];intro k hkm;rw[←AU,Aq ha] at hkm;obtain⟨j,hj⟩:=List.getElem?_of_mem hkm;simpa using(h.kidK ha hj).2.2.1 hk
theorem Sh.modKind{m:Nat}(hm:m∈(AL l 1).kids):∃b,rowM l m=some b∧b.kind=2:=by
 obtain⟨a,ha,hk⟩:=h.root;rw[←AU,Aq ha] at hm;obtain⟨j,hj⟩:=List.getElem?_of_mem hm;have h2:=(h.kidK ha hj).2.2.1 hk;have:=h.trM.kid 1 a ha m hm;obtain⟨b,hb⟩:=Option.isSome_iff_exists.1 ((h.trM.dom m).2 (by omega));refine⟨b,hb, ?_⟩;unfold kindOf at h2
 rwa[←AU,Aq hb] at h2
theorem Sh.funcs{m:Nat}(hm:m∈(AL l 1).kids):BI (rowM l) m=(AL l m).kids:=by
 obtain⟨b,hb,hk⟩:=h.modKind hm;unfold BI;rw[ER l m 3 (by decide),List.filter_eq_self];intro k hkm;rw[←AU,Aq hb] at hkm;obtain⟨j,hj⟩:=List.getElem?_of_mem hkm;simpa using(h.kidK hb hj).2.2.2.1 hk
theorem Sh.MO(mod fn:Str):∀ms:List Nat,(∀m∈ms,m∈(AL l 1).kids)→funcOf l mod fn ms=(Ey (rowM l) mod fn ms).getD 0∧∀f,Ey (rowM l) mod fn ms=some f→∃m∈ms,f∈(AL l m).kids
 |[],_=>⟨rfl,fun f hf=>by cases hf⟩
 |m::ms,hm=>by
   obtain⟨ih1,ih2⟩:=Sh.MO mod fn ms fun x hx=>hm x (List.mem_cons_of_mem _ hx);unfold funcOf Ey;rw[Ii,h.funcs (hm m (by simp))];cases hf:Gj (rowM l) mod fn m (AL l m).kids with
   |none=>
     refine⟨ih1,fun f hf=> ?_⟩;obtain⟨x,hx,hx2⟩:=ih2 f hf;exact⟨x,List.mem_cons_of_mem _ hx,hx2⟩
   |some f=>exact⟨rfl,fun g hg=>by injection hg with hg;subst hg;exact⟨m,by simp,LV hf⟩⟩
theorem Sh.main_eq:Ib l=F8 (rowM l):=by
 obtain⟨e1,_⟩:=h.MO Cj Cj (AL l 1).kids fun m hm=>hm;unfold Ib F8 Ih;rw[h.mods];dsimp only;rw[e1];generalize(Ey (rowM l) Cj Cj (AL l 1).kids).getD 0=f;cases hf:rowM l f with
 |none=>
   have hn:AL l f=Node.zero:=by rw[←AU];unfold ndAt;rw[hf];rfl
   rw[if_pos (.inr (.inl (by rw[hn];decide)))]
 |some a=>
   have hn:AL l f=a:=by rw[←AU,Aq hf]
   have hp:(Bc l f).length=(Bl (rowM l) f 4).length:=by rw[Jj,List.length_map]
   rw[hn,hp];dsimp only;have hf0:f≠0:=fun e=>by rw[e,Dg h.rows] at hf;cases hf
   by_cases hc:a.type=1∧(Bl (rowM l) f 4).length=0
   ·rw[if_pos hc,if_neg (by omega)]
   ·rw[if_neg hc,if_pos (by omega)]
end
end Hg
namespace Hg
open Go.Proofs.YthihjcannjhonaaGreatDoor (idxI Du DL)
inductive VR (l:List Row):Nat→List Nat→Nat→List Nat→Prop
 |here (i:Nat) (s:List Nat):VR l i s i s
 |kid {i:Nat} {s:List Nat} {j k x:Nat} {S:List Nat} (h:(AL l i).kids[j]? =some k) (h2:VR l k (s++((AL l i).kids.take j).filter (visible l)) x S):VR l i s x S
theorem VR.snoc{l:List Row}{i:Nat}{s:List Nat}{x:Nat}{S:List Nat}(h:VR l i s x S){j k:Nat}(hk:(AL l x).kids[j]? =some k):VR l i s k (S++((AL l x).kids.take j).filter (visible l)):=by
 induction h with
 |here i s=>exact .kid hk (.here _ _)
 |kid h1 _ ih=>exact .kid h1 (ih hk)
def hidP(l:List Row)(x:Nat)(S:List Nat):Bool:=(decide ((AL l x).kind=7)||decide ((AL l x).kind=15)) && !isIn S (AL l x).ref
def VIff(l:List Row)(fn:Nat)(V:Vis→Nat→List Nat→Option Vis):Prop:=∀v k s v',V v k s=some v'→
 (v'.hidden=true↔v.hidden=true∨∃x S,VR l k s x S∧hidP l x S=true)∧(v'.wrong=true↔v.wrong=true∨∃x S,VR l k s x S∧BC l (AL l x) fn=true)
theorem Lb{l:List Row}{fn:Nat}{V:Vis→Nat→List Nat→Option Vis}(hV:VIff l fn V):∀(ks s:List Nat) (v v':Vis),Dv l V ks s v=some v'→
 (v'.hidden=true↔v.hidden=true∨∃j k x S,ks[j]? =some k∧VR l k (s++(ks.take j).filter (visible l)) x S∧hidP l x S=true)∧(v'.wrong=true↔v.wrong=true∨∃j k x S,ks[j]? =some k∧VR l k (s++(ks.take j).filter (visible l)) x S∧BC l (AL l x) fn=true)
 |[],s,v,v',h=>by injection h with h;subst h;simp
 |q::ks,s,v,v',h=>by
   unfold Dv at h;cases h1:V v q s with
   |none=>rw[h1] at h;cases h
   |some w=>
     rw[h1] at h;obtain⟨a,b⟩:=Lb hV ks _ w v' h;obtain⟨c,d⟩:=hV _ _ _ _ h1;have hs:(if kindOf l q=6∨kindOf l q=4 then s++[q] else s)=s++[q].filter (visible l):=by
      by_cases hc:kindOf l q=6∨kindOf l q=4
      ·rw[if_pos hc,List.filter_cons,if_pos (by unfold visible;simpa using hc)];rfl
      ·rw[if_neg hc,List.filter_cons,if_neg (by unfold visible;simpa using hc)];simp
     have key:∀P:Nat→List Nat→Prop,(∃j k x S,(q::ks)[j]? =some k∧VR l k (s++((q::ks).take j).filter (visible l)) x S∧P x S)↔
      (∃x S,VR l q s x S∧P x S)∨∃j k x S,ks[j]? =some k∧VR l k ((s++[q].filter (visible l))++(ks.take j).filter (visible l)) x S∧P x S:=fun P=>by
      constructor
      ·rintro⟨j,k,x,S,e,hr,hp⟩
       cases j with
       |zero=>
         simp only[List.getElem?_cons_zero,Option.some.injEq] at e;subst e;refine .inl ⟨x,S, ?_,hp⟩;simpa using hr
       |succ j=>
         refine .inr ⟨j,k,x,S,by simpa using e, ?_,hp⟩;rw[List.append_assoc,←List.filter_append];simpa using hr
      ·rintro(⟨x,S,hr,hp⟩|⟨j,k,x,S,e,hr,hp⟩)
       ·exact⟨0,q,x,S,rfl,by simpa using hr,hp⟩
       ·refine⟨j+1,k,x,S,by simpa using e, ?_,hp⟩
        rw[List.append_assoc,←List.filter_append] at hr;simpa using hr
     rw[hs] at a b;refine⟨?_, ?_⟩
     ·rw[a,c,key fun x S=>hidP l x S=true,or_assoc]
     ·rw[b,d,key fun x S=>BC l (AL l x) fn=true,or_assoc]
theorem Xe{l:List Row}(i:Nat)(s:List Nat)(P:Nat→List Nat→Prop):(∃x S,VR l i s x S∧P x S)↔P i s∨∃j k x S,(AL l i).kids[j]? =some k∧VR l k (s++((AL l i).kids.take j).filter (visible l)) x S∧P x S:=by
 constructor
 ·rintro⟨x,S,hr,hp⟩
  cases hr with
  |here=>exact .inl hp
  |kid h1 h2=>exact .inr ⟨_,_,x,S,h1,h2,hp⟩
 ·rintro(hp|⟨j,k,x,S,h1,h2,hp⟩)
  ·exact⟨i,s,.here _ _,hp⟩
  ·exact⟨x,S,.kid h1 h2,hp⟩
theorem Mf(l:List Row)(fn:Nat):∀n,VIff l fn (C8 l fn n)
 |0,v,k,s,v',h=>by cases h
 |n+1,v,k,s,v',h=>by
   unfold C8 at h;obtain⟨a,b⟩:=Lb (Mf l fn n) _ _ _ _ h;refine⟨?_, ?_⟩
   ·rw[a,Xe k s fun x S=>hidP l x S=true,←or_assoc]
    refine or_congr ?_ Iff.rfl;show(_||_)=true↔_;rw[Bool.or_eq_true];exact Iff.rfl
   ·rw[b,Xe k s fun x S=>BC l (AL l x) fn=true,←or_assoc]
    refine or_congr ?_ Iff.rfl;show(_||_)=true↔_;rw[Bool.or_eq_true]
def AnyF(l:List Row)(P:Nat→Nat→List Nat→Prop):Prop:=∃m∈(AL l 1).kids,∃f∈(AL l m).kids,∃x S,VR l f [] x S∧P f x S
theorem Km{l:List Row}:∀(fs:List Nat) (fn:List Str) (a:Alls) (r:List Str×Alls),Cz l fs fn a=some r→
 r.1=fn++fs.map (fun f=>(AL l f).name)∧(r.2.clash=true↔a.clash=true∨∃f∈fs,twice (CZ l f)=true)∧
 (r.2.vis.hidden=true↔a.vis.hidden=true∨∃f∈fs,∃x S,VR l f [] x S∧hidP l x S=true)∧(r.2.vis.wrong=true↔a.vis.wrong=true∨∃f∈fs,∃x S,VR l f [] x S∧BC l (AL l x) f=true)
 |[],fn,a,r,h=>by
   injection h with h;subst h;simp
 |f::fs,fn,a,r,h=>by
   unfold Cz at h;cases hv:C8 l f 201 a.vis f [] with
   |none=>rw[hv] at h;cases h
   |some v=>
     rw[hv] at h;obtain⟨h1,h2,h3,h4⟩:=Km fs _ _ r h;obtain⟨v1,v2⟩:=Mf l f 201 _ _ _ _ hv;have ex:∀P:Nat→Prop,(∃g∈f::fs,P g)↔P f∨∃g∈fs,P g:=fun P=>by simp
     refine⟨by rw[h1];simp, ?_, ?_, ?_⟩
     ·rw[h2,ex,←or_assoc]
      refine or_congr ?_ Iff.rfl;show(_||_)=true↔_;rw[Bool.or_eq_true]
     ·rw[h3,ex,←or_assoc]
      exact or_congr v1 Iff.rfl
     ·rw[h4,ex,←or_assoc]
      exact or_congr v2 Iff.rfl
theorem L9{l:List Row}:∀(ms:List Nat) (mn:List Str) (a:Alls) (r:List Str×Alls),D6 l ms mn a=some r→
 r.1=mn++ms.map (fun m=>(AL l m).name)∧(r.2.clash=true↔a.clash=true∨∃m∈ms,twice ((AL l m).kids.map fun f=>(AL l f).name)=true∨∃f∈(AL l m).kids,twice (CZ l f)=true)∧
 (r.2.vis.hidden=true↔a.vis.hidden=true∨∃m∈ms,∃f∈(AL l m).kids,∃x S,VR l f [] x S∧hidP l x S=true)∧(r.2.vis.wrong=true↔a.vis.wrong=true∨∃m∈ms,∃f∈(AL l m).kids,∃x S,VR l f [] x S∧BC l (AL l x) f=true)
 |[],mn,a,r,h=>by
   injection h with h;subst h;simp
 |m::ms,mn,a,r,h=>by
   unfold D6 at h;cases hv:Cz l (AL l m).kids [] a with
   |none=>rw[hv] at h;cases h
   |some p=>
     obtain⟨fs,b⟩:=p;rw[hv] at h;obtain⟨h1,h2,h3,h4⟩:=L9 ms _ _ r h;obtain⟨k1,k2,k3,k4⟩:=Km _ _ _ _ hv;have ex:∀P:Nat→Prop,(∃g∈m::ms,P g)↔P m∨∃g∈ms,P g:=fun P=>by simp
     have k1:fs=(AL l m).kids.map fun f=>(AL l f).name:=by simpa using k1
     refine⟨by rw[h1];simp, ?_, ?_, ?_⟩
     ·rw[h2,ex,←or_assoc]
      refine or_congr ?_ Iff.rfl;show(b.clash||twice fs)=true↔_;rw[Bool.or_eq_true,k1];rw[show b.clash=true↔_ from k2,or_assoc];exact or_congr Iff.rfl (or_comm)
     ·rw[h3,ex,←or_assoc]
      exact or_congr k3 Iff.rfl
     ·rw[h4,ex,←or_assoc]
      exact or_congr k4 Iff.rfl
theorem Vg{l:List Row}{a:Alls}(h:IE l=some a):
 (a.clash=true↔(∃m∈(AL l 1).kids,twice ((AL l m).kids.map fun f=>(AL l f).name)=true∨∃f∈(AL l m).kids,twice (CZ l f)=true)∨twice ((AL l 1).kids.map fun m=>(AL l m).name)=true)∧
 (a.vis.hidden=true↔AnyF l fun _ x S=>hidP l x S=true)∧(a.vis.wrong=true↔AnyF l fun f x _=>BC l (AL l x) f=true):=by
 unfold IE at h;cases hm:D6 l (AL l 1).kids [] ⟨false,⟨false,false⟩⟩ with
 |none=>rw[hm] at h;cases h
 |some p=>
   obtain⟨mods,b⟩:=p;rw[hm] at h;injection h with h;subst h;obtain⟨h1,h2,h3,h4⟩:=L9 _ _ _ _ hm;have h1:mods=(AL l 1).kids.map fun m=>(AL l m).name:=by simpa using h1
   refine⟨?_, ?_, ?_⟩
   ·show(b.clash||twice mods)=true↔_
    rw[Bool.or_eq_true,h1,show b.clash=true↔_ from h2];simp
   ·refine(show b.vis.hidden=true↔_ from h3).trans ?_
    simp[AnyF]
   ·refine(show b.vis.wrong=true↔_ from h4).trans ?_
    simp[AnyF]
theorem F5{l:List Row}{n:Node}{i want:Nat}:Bj l n i want=false↔CW (rowM l) (n.kids.getD i 0)=want:=by
 unfold Bj;rw[←J5];simp
theorem KF{l:List Row}{n:Node}:∀(p:List Nat) (i:Nat),Df l n i p=false↔∀j t,p[j]? =some t→CW (rowM l) (n.kids.getD (i+j) 0)=t
 |[],i=>by simp[Df]
 |x::p,i=>by
   unfold Df;rw[Bool.or_eq_false_iff,F5,KF p (i+1)];constructor
   ·rintro⟨h1,h2⟩ j t ht
    cases j with
    |zero=>simp at ht;subst ht;exact h1
    |succ j=>
      have:=h2 j t (by simpa using ht);rw[show i+(j+1)=i+1+j by omega];exact this
   ·intro h
    refine⟨h 0 x rfl,fun j t ht=> ?_⟩;have:=h (j+1) t (by simpa using ht);rw[show i+1+j=i+(j+1) by omega];exact this
theorem YJ{l:List Row}{x fn:Nat}{a:Node}(habv:abvR l x=fn):okT (rowM l) (abvR l) (x,a)=true↔BC l a fn=false:=by
 rw[MK];dsimp only;unfold BC Ct;have one:∀{t:Nat},(a.kind=19→([t]:List Nat).length=a.kids.length)∧(∀i u:Nat,([t]:List Nat)[i]? =some u→CW (rowM l) (a.kids.getD i 0)=u)↔(a.kind=19→1=a.kids.length)∧CW (rowM l) (a.kids.getD 0 0)=t:=fun {t}=>by
  refine and_congr Iff.rfl ⟨fun h=>h 0 t rfl,fun e i u hu=> ?_⟩;cases i with
  |zero=>simp at hu;rw[←hu];exact e
  |succ i=>simp at hu
 have one':∀{t:Nat},a.kind≠19→((a.kind=19→([t]:List Nat).length=a.kids.length)∧(∀i u:Nat,([t]:List Nat)[i]? =some u→CW (rowM l) (a.kids.getD i 0)=u)↔Bj l a 0 t=false):=fun {t} hk=>by
  rw[one,F5];exact⟨fun h=>h.2,fun h=>⟨fun e=>absurd e hk,h⟩⟩
 by_cases k6:a.kind=6
 ·rw[if_pos k6,if_pos k6];exact one' (by omega)
 rw[if_neg k6,if_neg k6];by_cases k7:a.kind=7
 ·rw[if_pos k7,if_pos k7,AU];exact one' (by omega)
 rw[if_neg k7,if_neg k7];by_cases k8:a.kind=8∨a.kind=9∨a.kind=16
 ·rw[if_pos k8,if_pos k8];exact one' (by omega)
 rw[if_neg k8,if_neg k8];by_cases k17:a.kind=17
 ·rw[if_pos k17,if_neg (by omega:¬a.kind=10),if_pos k17];exact one' (by omega)
 rw[if_neg k17];by_cases k10:a.kind=10
 ·rw[if_pos k10,if_pos k10,habv,AU];exact one' (by omega)
 rw[if_neg k10,if_neg k10,if_neg k17];by_cases k18:a.kind=18
 ·rw[if_pos k18,if_pos k18]
  have two:∀{t:Nat},((a.kind=19→([t,t]:List Nat).length=a.kids.length)∧(∀i u:Nat,([t,t]:List Nat)[i]? =some u→CW (rowM l) (a.kids.getD i 0)=u)↔(Bj l a 0 t||Bj l a 1 t)=false):=fun {t}=>by
   rw[Bool.or_eq_false_iff,F5,F5];constructor
   ·exact fun h=>⟨h.2 0 t rfl,h.2 1 t rfl⟩
   ·rintro⟨e,e'⟩
    refine⟨fun e=>by omega,fun i u hu=> ?_⟩
    match i,hu with
    |0,hu=>simp at hu;rw[←hu];exact e
    |1,hu=>simp at hu;rw[←hu];exact e'
    |i+2,hu=>simp at hu
  unfold JY;rw[←J5];dsimp only;by_cases c1:a.num≤9
  ·rw[if_pos c1,if_neg (by omega),if_pos (by omega)];exact two
  ·rw[if_neg c1]
   by_cases c2:a.num≤11
   ·rw[if_pos c2,if_pos (by omega)];exact two
   ·rw[if_neg c2,if_neg (by omega),if_neg (by omega)];exact two
 rw[if_neg k18,if_neg k18];by_cases k19:a.kind=19
 ·rw[if_pos k19,if_pos k19,←Jj]
  dsimp only;by_cases hl:(Bc l a.ref).length≠a.kids.length
  ·rw[if_pos hl]
   exact⟨fun h=>absurd (h.1 k19) hl,fun h=>by cases h⟩
  ·rw[if_neg hl,KF]
   simp only[Nat.zero_add];exact⟨fun h=>h.2,fun h=>⟨fun _=>Classical.not_not.1 hl,h⟩⟩
 rw[if_neg k19,if_neg k19];exact⟨fun _=>rfl,fun _=>⟨fun e=>absurd e k19,fun i t ht=>by simp at ht⟩⟩
theorem YI{l:List Row}{x:Nat}{a:Node}(h:a.kind < 3):okT (rowM l) (abvR l) (x,a)=true:=by
 rw[MK];unfold Ct;dsimp only;rw[if_neg (by omega),if_neg (by omega),if_neg (by omega),if_neg (by omega),if_neg (by omega),if_neg (by omega),if_neg (by omega)];exact⟨fun e=>by omega,fun i t ht=>by simp at ht⟩
theorem OO{M:Nat→Option Node}{a:Node}(k:Nat)(h5:a.kind≠5)(h3:a.kind≠3):Eo M a k=[]:=by
 unfold Eo;rw[List.filter_eq_nil_iff];intro y _;unfold Cs
 simp[h5,h3]
def QF(l:List Row)(f x:Nat)(S:List Nat):Prop:=∃a A,rowM l x=some a∧3≤a.kind∧Jf l x A∧(∀y,y∈S↔y∈A)∧∀g,x < g→abvL l g x=f
section
variable {l:List Row} (h:Sh l)
include h
theorem Sh.Gm{p k:Nat}{a:Node}{A:List Nat}(ha:rowM l p=some a)(hk:k∈a.kids)(hA:Jf l p A):Jf l k (A++Eo (rowM l) a (idxI a.kids k).toNat):=by
 obtain⟨e1,e2⟩:=NA h.tr h.len h.pos ha hk;have hlt:=(h.trM.kid p a ha k hk).1;intro F seen out hF hs;cases F with
 |zero=>omega
 |succ F=>
   unfold EC;rw[if_neg (fun hm=>by have:=hs k hm;omega),e1,ha];dsimp only;rw[e2,hA F _ _ (by omega) (fun i hi=>by
    rcases List.mem_cons.1 hi with e|e
    ·omega
    ·have:=hs i e;omega)]
   rw[List.append_assoc]
theorem Sh.XZ:Jf l 1 []:=by
 intro F seen out hF hs;cases F with
 |zero=>omega
 |succ F=>
   unfold EC;rw[if_neg (fun hm=>by have:=hs 1 hm;omega)];rcases DL h.rows 1 with⟨h1,_,h3⟩|⟨h1,_,⟨b,hb,he,h5⟩,_⟩
   ·rw[h1,Dg h.rows];rfl
   ·have hk:1∈b.kids:=(DY _ _).1 (by rw[he];exact h5)
    have h6:=(h.trM.kid _ b hb 1 hk).1;have h7:=(h.trM.dom (parR l 1).1).1 (by rw[hb];rfl);omega
theorem Sh.Q0{p k:Nat}{a:Node}(ha:rowM l p=some a)(hk:k∈a.kids):∃c,rowM l k=some c∧kindOf l k=c.kind:=by
 have:=h.trM.kid p a ha k hk;obtain⟨c,hc⟩:=Option.isSome_iff_exists.1 ((h.trM.dom k).2 (by omega));exact⟨c,hc,by unfold kindOf;rw[←AU,Aq hc]⟩
theorem Sh.YY{m f:Nat}(hm:m∈(AL l 1).kids)(hf:f∈(AL l m).kids):∃c,rowM l f=some c∧c.kind=3∧Jf l f []:=by
 obtain⟨r,hr,hrk⟩:=h.root;obtain⟨b,hb,hbk⟩:=h.modKind hm;have e1:AL l 1=r:=by rw[←AU,Aq hr]
 have e2:AL l m=b:=by rw[←AU,Aq hb]
 rw[e1] at hm;rw[e2] at hf;have a1:=h.Gm hr hm h.XZ;rw[OO _ (by omega) (by omega)] at a1;have a2:=h.Gm hb hf a1;rw[OO _ (by omega) (by omega)] at a2;obtain⟨c,hc,ek⟩:=h.Q0 hb hf;obtain⟨j,hj⟩:=List.getElem?_of_mem hf;exact⟨c,hc,by rw[←ek];exact(h.kidK hb hj).2.2.2.1 hbk,a2⟩
theorem Sh.PP{m f:Nat}(hm:m∈(AL l 1).kids)(hf:f∈(AL l m).kids):QF l f f []:=by
 obtain⟨c,hc,ek,hA⟩:=h.YY hm hf;refine⟨c,[],hc,by omega,hA,fun y=>Iff.rfl,fun g hg=> ?_⟩;have hp:=(h.trM.dom f).1 (by rw[hc];rfl);cases g with
 |zero=>omega
 |succ g=>
   unfold abvL;rw[if_neg (by omega),hc];dsimp only;rw[if_pos ek]
theorem Sh.Y6{f x j k:Nat}{S:List Nat}(hq:QF l f x S)(hk:(AL l x).kids[j]? =some k):QF l f k (S++((AL l x).kids.take j).filter (visible l)):=by
 obtain⟨b,A,hb,hb3,hA,hSA,hab⟩:=hq;have eb:AL l x=b:=by rw[←AU,Aq hb]
 rw[eb] at hk⊢;have hM:=h.trM;have hkm:=List.mem_of_getElem? hk;obtain⟨a,ha,ek⟩:=h.Q0 hb hkm;have hlt:=(hM.kid x b hb k hkm).1;have k5:=(h.kidK hb hk).2.2.2.2 hb3;have hij:(idxI b.kids k).toNat=j:=by
  have hnd:=hM.nodup x b hb;unfold idxI;cases hfi:b.kids.findIdx? (· ==k) with
  |none=>
    simp only[List.findIdx?_eq_none_iff] at hfi;have:=hfi k hkm;simp at this
  |some i=>
    obtain⟨hi,he,_⟩:=List.findIdx?_eq_some_iff_getElem.1 hfi;obtain⟨hjl,hje⟩:=Ah.1 hk;have:b.kids[i]=b.kids[j]:=by rw[hje];simpa using he
    show i=j;rcases Nat.lt_trichotomy i j with e|e|e
    ·exact absurd this (List.pairwise_iff_getElem.1 hnd i j hi hjl e)
    ·exact e
    ·exact absurd this.symm (List.pairwise_iff_getElem.1 hnd j i hjl hi e)
 have hA2:=h.Gm hb hkm hA;rw[hij] at hA2;refine⟨a,_,ha,by omega,hA2,fun y=> ?_,fun g hg=> ?_⟩
 ·rw[List.mem_append,List.mem_append,hSA]
  refine or_congr Iff.rfl ?_;unfold Eo;rw[List.mem_filter,List.mem_filter];refine and_congr_right fun hy=> ?_;obtain⟨i,hi⟩:=List.getElem?_of_mem (List.mem_of_mem_take hy);obtain⟨y6,y4,_,_,_⟩:=h.kidK hb hi;unfold visible Cs;rw[AU];unfold kindOf at y6 y4⊢;simp only[Bool.or_eq_true,beq_iff_eq,Bool.and_eq_true,decide_eq_true_eq];constructor
  ·rintro(e|e)
   ·exact .inl ⟨y6 e,e⟩
   ·exact .inr ⟨y4 e,e⟩
  ·rintro(e|e)
   ·exact .inl e.2
   ·exact .inr e.2
 ·cases g with
  |zero=>omega
  |succ g=>
    unfold abvL;rw[if_neg (by omega),ha];dsimp only;rw[if_neg (by omega),(NA h.tr h.len h.pos hb hkm).1];exact hab g (by omega)
theorem Sh.Tp{f i x:Nat}{s S:List Nat}(hr:VR l i s x S)(hq:QF l f i s):QF l f x S:=by
 induction hr with
 |here=>exact hq
 |kid h1 _ ih=>exact ih (h.Y6 hq h1)
theorem Sh.reach:∀x a,rowM l x=some a→3≤a.kind→∃m∈(AL l 1).kids,∃f∈(AL l m).kids,∃S,VR l f [] x S:=by
 intro x
 induction x using Nat.strongRecOn with
 |_ x ih=>
 intro a ha h3;have hM:=h.trM;have hx:=(hM.dom x).1 (by rw[ha];rfl);have no1:∀b,rowM l 1=some b→b.kind=1:=fun b hb=>by
  obtain⟨r,hr,hk⟩:=h.root;rw[hr] at hb;rw[←Option.some.inj hb];exact hk
 have hx2:2≤x:=by
  rcases Nat.lt_or_ge 1 x with e|e
  ·exact e
  ·exfalso
   obtain rfl:x=1:=by omega
   have:=no1 a ha;omega
 obtain⟨p,b,hb,hk⟩:=hM.has x hx2 hx.2;have hlt:=(hM.kid p b hb x hk).1;obtain⟨j,hj⟩:=List.getElem?_of_mem hk;have hkx:kindOf l x=a.kind:=by unfold kindOf;rw[←AU,Aq ha]
 obtain⟨k6,k4,k1,k2,k5⟩:=h.kidK hb hj;rw[hkx] at k6 k4 k1 k2 k5;have hp1:=(hM.dom p).1 (by rw[hb];rfl);have hb1:1≤b.kind:=by obtain⟨r,_,_,rfl,ho⟩:=h.row hb;exact ho.lo
 have eb:AL l p=b:=by rw[←AU,Aq hb]
 rcases Nat.lt_or_ge b.kind 3 with hb3|hb3
 ·have hb2:b.kind=2:=by
   rcases Nat.lt_or_ge b.kind 2 with e|e
   ·have:=k1 (by omega);omega
   ·omega
  have hp2:2≤p:=by
   rcases Nat.lt_or_ge 1 p with e|e
   ·exact e
   ·exfalso
    obtain rfl:p=1:=by omega
    have:=no1 b hb;omega
  obtain⟨q,c,hc,hkp⟩:=hM.has p hp2 hp1.2;obtain⟨i,hi⟩:=List.getElem?_of_mem hkp;have hkp':kindOf l p=b.kind:=by unfold kindOf;rw[←AU,Aq hb]
  obtain⟨c6,c4,c1,c2,c5⟩:=h.kidK hc hi;rw[hkp',hb2] at c6 c4 c1 c2 c5;have hc1:c.kind=1:=by
   have:1≤c.kind:=by obtain⟨r,_,_,rfl,ho⟩:=h.row hc;exact ho.lo
   rcases Nat.lt_or_ge c.kind 3 with e|e
   ·rcases Nat.lt_or_ge c.kind 2 with e2|e2
    ·omega
    ·have:=c2 (by omega);omega
   ·have:=c5 e;omega
  have hq1:q=1:=by obtain⟨r,_,h1,rfl,ho⟩:=h.row hc;rw[←h1];exact ho.root.1 hc1
  subst hq1;have hm:p∈(AL l 1).kids:=by rw[←AU,Aq hc];exact hkp
  exact⟨p,hm,x,by rw[eb];exact hk,[],.here _ _⟩
 ·obtain⟨m,hm,f,hf,S,hr⟩:=ih p hlt b hb hb3
  exact⟨m,hm,f,hf,_,hr.snoc (by rw[eb];exact hj)⟩
end
end Hg
namespace Hg
open Go.Proofs.YthihjcannjhonaaGreatDoor (idxI hidK Ku Pq shpB)
section
variable {l:List Row} (h:Sh l)
include h
theorem Sh.ZV{x:Nat}{a:Node}{A:List Nat}(ha:rowM l x=some a)(hA:Jf l x A):snL l x=A:=by
 have:=(h.trM.dom x).1 (by rw[ha];rfl);have hl:=h.len;unfold snL;rw[hA 20001 [] [] (by omega) (fun i hi=>by cases hi)];simp
theorem Sh.ZG{f:Nat}{xs:List (Nat×Node)}(hw:wk (rowM l) f [1] []=some xs):xs.any (hidK (snL l))=true↔AnyF l fun _ x S=>hidP l x S=true:=by
 have key:∀x a g S,rowM l x=some a→QF l g x S→(hidK (snL l) (x,a)=hidP l x S):=fun x a g S ha hq=>by
  obtain⟨a',A,ha',_,hA,hS,_⟩:=hq;have en:AL l x=a:=by rw[←AU,Aq ha]
  unfold hidK hidP;dsimp only;rw[h.ZV ha hA,en,Bool.or_comm]
  congr 2
  rw[Bool.eq_iff_iff,decide_eq_true_eq,DY,←hS];unfold isIn;simp
 rw[List.any_eq_true];constructor
 ·rintro⟨⟨x,a⟩,hx,hp⟩
  have ha:=EZ _ _ _ _ _ hw _ hx;have h3:3≤a.kind:=by
   unfold hidK at hp;simp only[Bool.and_eq_true,Bool.or_eq_true,decide_eq_true_eq] at hp;omega
  obtain⟨m,hm,g,hg,S,hr⟩:=h.reach x a ha h3;refine⟨m,hm,g,hg,x,S,hr, ?_⟩;show hidP l x S=true;rw[←key x a g S ha (h.Tp hr (h.PP hm hg))];exact hp
 ·rintro⟨m,hm,g,hg,x,S,hr,hp⟩
  have hq:=h.Tp hr (h.PP hm hg);obtain⟨a,A,ha,_⟩:=id hq;refine⟨(x,a),PD h.trM h.pos hw x a ha, ?_⟩;rw[key x a g S ha hq];exact hp
theorem Sh.Yr{f:Nat}{xs:List (Nat×Node)}(hw:wk (rowM l) f [1] []=some xs):xs.all (okT (rowM l) (abvR l))=false↔AnyF l fun g x _=>BC l (AL l x) g=true:=by
 have key:∀x a g S,rowM l x=some a→QF l g x S→(okT (rowM l) (abvR l) (x,a)=false↔BC l (AL l x) g=true):=fun x a g S ha hq=>by
  obtain⟨a',A,ha',_,hA,hS,hab⟩:=hq;have en:AL l x=a:=by rw[←AU,Aq ha]
  have:=YJ (a:=a) (show abvR l x=g from hab (x+1) (Nat.lt_succ_self _));rw[en];rw[←Bool.not_eq_true,this,Bool.not_eq_false]
 rw[List.all_eq_false];constructor
 ·rintro⟨⟨x,a⟩,hx,hp⟩
  have ha:=EZ _ _ _ _ _ hw _ hx;have h3:3≤a.kind:=by
   rcases Nat.lt_or_ge a.kind 3 with e|e
   ·exact absurd (YI e) hp
   ·exact e
  obtain⟨m,hm,g,hg,S,hr⟩:=h.reach x a ha h3;refine⟨m,hm,g,hg,x,S,hr, ?_⟩;exact(key x a g S ha (h.Tp hr (h.PP hm hg))).1 (by simpa using hp)
 ·rintro⟨m,hm,g,hg,x,S,hr,hp⟩
  have hq:=h.Tp hr (h.PP hm hg);obtain⟨a,A,ha,_⟩:=id hq;refine⟨(x,a),PD h.trM h.pos hw x a ha, ?_⟩;rw[(key x a g S ha hq).2 hp]
  decide
theorem Sh.XR:FD (rowM l) (nmL l)=true↔(∃m∈(AL l 1).kids,twice ((AL l m).kids.map fun f=>(AL l f).name)=true∨∃f∈(AL l m).kids,twice (CZ l f)=true)∨twice ((AL l 1).kids.map fun m=>(AL l m).name)=true:=by
 have nm:∀ks:List Nat,ks.map (Cf (rowM l))=ks.map fun k=>(AL l k).name:=fun ks=>List.map_congr_left fun k _=>by unfold Cf;rw[AU]
 have nf:∀f,nmL l f=CZ l f:=fun f=>by
  obtain⟨xs,hw,hx⟩:=MH l f;unfold nmL;rw[hw];exact YN hw hx
 unfold FD;rw[Bool.or_eq_true,h.mods,nm,←Mh,or_comm];refine or_congr ?_ Iff.rfl;rw[List.any_eq_true];refine exists_congr fun m=>and_congr_right fun hm=> ?_;rw[h.funcs hm,Bool.or_eq_true,nm,←Mh];refine or_congr Iff.rfl ?_;rw[List.any_eq_true];refine exists_congr fun f=>and_congr_right fun hf=> ?_;rw[←Mh,nf]
end
theorem right_eq{l:List Row}(hT:Tr l)(hl:l.length≤20000)(h0:0 < l.length)(hnm:∀r∈l,r.node.name.length≤1000000)(hn:∀r∈l,r.node.num≤9223372036854775807){dp:Bool}(hdp:dp=true↔0 < CU l 200 1){f:Nat}{xs:List (Nat×Node)}(hw:wk (rowM l) f [1] []=some xs):
 Dw l=some (Ku (rowM l) (parR l) dp (abvR l) xs (snL l) (nmL l)):=by
 have hs:=Un hT hl h0 hn hdp hw;obtain⟨r,hr⟩:=KE l;unfold Dw at hr⊢;unfold Ku;rw[hs] at hr⊢;cases hb:shpB (rowM l) (parR l) dp xs with
 |false=>rfl
 |true=>
   rw[hb] at hs hr;dsimp only at hr⊢;have h:Sh l:=⟨hT,hl,hnm,hn,hs⟩;cases ha:IE l with
   |none=>rw[ha] at hr;cases hr
   |some a=>
     obtain⟨c1,c2,c3⟩:=Vg ha;rw[←h.XR] at c1;rw[←h.ZG hw] at c2;rw[←h.Yr hw] at c3;dsimp only;rw[h.main_eq,if_neg (show¬(true=false) by decide)]
     congr 1
     have e1:a.clash=FD (rowM l) (nmL l):=Bool.eq_iff_iff.2 c1;have e2:a.vis.hidden=xs.any (hidK (snL l)):=Bool.eq_iff_iff.2 c2;rw[e1,e2];by_cases k1:FD (rowM l) (nmL l)=true
     ·rw[if_pos k1,if_pos k1]
     rw[if_neg k1,if_neg k1];by_cases k2:xs.any (hidK (snL l))=true
     ·rw[if_pos k2,if_pos k2]
     rw[if_neg k2,if_neg k2];by_cases k3:a.vis.wrong=true
     ·rw[if_pos k3,if_pos (c3.1 k3)]
     ·rw[if_neg k3,if_neg fun e=>k3 (c3.2 e)]
end Hg
namespace Go.Proofs.YthihjcannjhonaaGreatDoor
open Go.RowKit
open Hg (Tg rowM)
theorem Tg.ok{x:List Hg.Row}(h:Tg x){w:World}{ab mb c:Nat}(hA:ArAt w ab mb c (Ef x x.length)):ArOk w ab (rowM x):=by
 have h0:x≠[]:=fun e=>by have:=h.pos;rw[e] at this;cases this
 rw[Td (Tg.ids h) h0] at hA;refine⟨⟨mb,c,hA⟩,fun i nd hm k hk=> ?_⟩;have:=((h.tr.trM h.len h.pos).kid i nd hm k hk).2;have:=h.len;omega
theorem M4{l:List Hg.Row}(h:Tg l){r:Nat}(hr:Hg.Dw l=some r)(ab:Nat)(w:World)(hA:ArOk w ab (rowM l))(hT:DX w):Calls Tryz.prog 18 #[.pointer (some ⟨ab,0,none⟩)] w fun e w'=>e= .returned (.int .i64 (r:Int))∧Below w.heap.size w w':=by
 obtain⟨dp,xs,hdp,hw,hS⟩:=Hg.Us h.tr h.len h.pos (fun r hm=>by have:=h.rf r hm;omega) (fun r hm=>by have:=(h.nk r hm).2.2;omega) (fun r hm=>by have:=(h.nk r hm).1;omega);have he:=Hg.right_eq h.tr h.len h.pos (fun r hm=>by have:=(h.nk r hm).2.2;omega) (fun r hm=>(h.nk r hm).2.1) hdp hw;rw[hr] at he;have:=R6 ab (rowM l) _ dp _ _ _ xs _ _ w hA hT hS;rw[←Option.some.inj he] at this;exact this
end Go.Proofs.YthihjcannjhonaaGreatDoor
namespace Hg
@[reducible] def awT:Str:=[109,111,100,117,108,101,32,109,97,105,110,32,123,32,102,117,110,99,32,109,97,105,110,40,41,32,105,110,116,32,123,32,112,114,105,110,116,32,49,59,32,114,101,116,117,114,110,32,50,59,32,125,32,125]
def Jy:List Row:=[⟨1,⟨1,[],0,0,0,[2]⟩⟩,⟨2,⟨2,[109,97,105,110],0,0,0,[3]⟩⟩,⟨3,⟨3,[109,97,105,110],0,1,0,[4]⟩⟩,⟨4,⟨5,[],0,0,0,[5,7]⟩⟩,⟨5,⟨11,[],0,0,0,[6]⟩⟩,⟨6,⟨13,[],1,0,0,[]⟩⟩,⟨7,⟨10,[],0,0,0,[8]⟩⟩,⟨8,⟨13,[],2,0,0,[]⟩⟩]
end Hg
namespace Go.Proofs.YthihjcannjhonaaGreatDoor.Ev
open Go Go.RowKit
open Hg (Row rowM KB)
def arE(h:T AB)(ab:Nat):Option (List Row):=match h.get ab with
 |some (.cells [.map mb] ty true)=>match h.get mb with
   |some (.map es)=>match Ng h es with
     |some r=>if ty==98 && nodupB (r.map Row.id) && decide (es.length≤1000000) then some r else none
     |none=>none
   |_=>none
 |_=>none
theorem ZK{w0 w:World}{E:En}{n:Nat}{h:T AB}(hW:WR Tryz.prog w0 E n h w){ab:Nat}{r:List Row}(e:arE h ab=some r):ab < n∧∃mb c,ArAt w (E.r ab) mb c (rowM r):=by
 unfold arE at e
 split at e
 ·rename_i mb ty hab
  split at e
  ·rename_i es hmb
   split at e
   ·rename_i r' hrows
    split at e
    ·rename_i hc
     cases e;simp only[Bool.and_eq_true,decide_eq_true_eq,beq_iff_eq] at hc;obtain⟨⟨rfl,hn⟩,hl⟩:=hc;refine⟨(hW.mem ab _ hab).1,E.r mb,es.length, ?_,XY hW.mem hmb hrows (OV hn) hl⟩;obtain⟨-,xs,rest,hw,hv,hrest,hx⟩:=hW.mem ab _ hab;cases hv with|cons a1 h1=>
     cases a1;cases h1;rw[hx rfl,Nat.zero_mul] at hrest;rw[hw,List.eq_nil_of_length_eq_zero hrest];rfl
    ·cases e
   ·cases e
  ·cases e
 ·cases e
def PY(rows:List Row)(v:Value):List AV→T AB→Nat→Option (AV×T AB×Nat×List Nat):=fun l h n=>match l with
 |[.ptr ab 0]=>match arE h ab with
   |some r=>if Mw r rows then some (.v v,h,n,[]) else none
   |none=>none
 |_=>none
def sumA(rows:List Row)(right mn:Int):SumF:=fun g=>if g=18 then some (PY rows (.int .i64 right)) else if g=20 then some (PY rows (.int .u64 mn)) else sumP g
theorem Oe{w0:World}(rows:List Row)(v:Value)(f:FuncId)(hf:∃fn,Tryz.prog.funcs[f]? =some fn∧fn.body.isSome=true∧(fn.name== "runtime.NumGoroutine")=false)
 (hC:∀ab w,(∃mb c,ArAt w ab mb c (rowM rows))→Below w0.heap.size w0 w→Calls Tryz.prog f #[.pointer (some ⟨ab,0,none⟩)] w fun e w'=>e= .returned v∧Below w.heap.size w w'):GU Tryz.prog w0 fun q l h n=>if q=f then PY rows v l h n else none:=by
 intro q args h n a h' n' ws e;dsimp only at e
 split at e
 ·rename_i hq
  subst hq;unfold PY at e
  split at e
  ·rename_i ab
   split at e
   ·rename_i r har
    split at e
    ·rename_i hs
     cases e;refine⟨hf,fun E w xs W hv=> ?_⟩;cases hv with|cons h1 h2=>
     cases h1;cases h2;obtain⟨-,h3⟩:=ZK W har;rw[QT hs] at h3;refine(hC _ w h3 W.bel).mono ?_;rintro e w' ⟨rfl,hb⟩;exact⟨E,_,rfl,.v _,Le.refl _ _,W.after hb,Kp.refl _ _ _⟩
    ·cases e
   ·cases e
  ·cases e
 ·cases e
theorem X0{w0:World}(hT:DX w0){rows:List Row}(hG:Hg.Tg rows){right:Nat}(hr:Hg.Dw rows=some right):UR Tryz.prog w0 (sumA rows (right:Int) (Hg.F8 (rowM rows):Int)):=by
 have hK:KB (rowM rows):=fun i nd hm k hk=>by
  have:=((hG.tr.trM hG.len hG.pos).kid i nd hm k hk).2;have:=hG.len;omega
 intro g f hf;unfold sumA at hf
 split at hf
 ·rename_i hg
  subst hg;cases hf;exact Oe rows _ _ ⟨_,Tryz.func18,rfl,by kernel_rfl⟩ fun ab w h hb=>M4 hG hr ab w ⟨h,hK⟩ (hT.block (hb.block _ hT.lt))
 ·split at hf
  ·rename_i hg
   subst hg;cases hf;exact Oe rows _ _ ⟨_,Tryz.func20,rfl,by kernel_rfl⟩ fun ab w h hb=>NK ab (rowM rows) w ⟨h,hK⟩
  ·exact Xz hT g f hf
open Hg (awT Jy)
noncomputable def XX:Bool:=match UO Tryz.prog (sumA Jy 0 3) (evC Tryz.prog (sumA Jy 0 3) 150) 5 [] .lf 0 with
 |some (.v (.bool true),_,_,_)=>true
 |_=>false
theorem awE:XX=true:=by decide+kernel
theorem awG:Hg.Tg Jy:=by
 have:Hg.FN awT=Jy:=by decide+kernel
 rw[←this];exact Hg.Jr _
theorem awR:Hg.Dw Jy=some 0:=by decide+kernel
theorem awM:Hg.F8 (rowM Jy)=3:=by decide+kernel
theorem Vb(w:World)(hT:DX w):Calls Tryz.prog 5 #[] w fun e w'=>e= .returned (.bool true)∧Below w.heap.size w w':=by
 have e:=awE;have hS:=X0 (w0:=w) hT awG awR;rw[awM] at hS;unfold XX at e
 split at e
 ·rename_i h n ws hr
  obtain⟨-,hcall⟩:=Rb Qs hS (Sv (by kernel_rfl) Qs hS 150) _ _ _ _ _ _ _ _ hr;refine(hcall ⟨fun b=>b,fun _=>0⟩ w [] ⟨fun b ab hb=>(by cases hb),fun b ab hb=>(by cases hb),fun b b' ab ab' hb=>(by cases hb),AP⟩ .nil).mono ?_;rintro e w' ⟨E',y,rfl,hy,-,hW,-⟩;cases hy;exact⟨rfl,hW.bel⟩
 ·cases e
end Go.Proofs.YthihjcannjhonaaGreatDoor.Ev
namespace Go.Proofs.YthihjcannjhonaaGreatDoor.Rn
open Go.RowKit
open Hg (rowM Tg)
theorem R9(a0 a1 a2 a3 a4:Value)(w:World):(Instr.field 31 (.agg #[a0,a1,a2,a3,a4]) 0).run Tryz.prog w= .ok a0 w:=by kernel_rfl
abbrev resO(e x:Int)(v:Value)(u rd:Int):Obj:= .cells #[.int .u8 e,i64V x,v,.int .i64 u,.int .i64 rd] 31 (0,0)
theorem Eb{w:World}{g:Nat}{e x u rd:Int}{v:Value}(h:w.heap[g]? =some (resO e x v u rd)):w.cell? ⟨g,0,none⟩=some (.int .u8 e)∧w.cell? ⟨g,1,none⟩=some (i64V x)∧w.cell? ⟨g,2,none⟩=some v∧w.cell? ⟨g,3,none⟩=some (.int .i64 u)∧w.cell? ⟨g,4,none⟩=some (.int .i64 rd)∧∀i,w.frozen? ⟨g,i,none⟩=false:=by
 have z:=fun i=>AJ w g i _ _ (0,0) h;have z0:=z 0;have z1:=z 1;have z2:=z 2;have z3:=z 3;have z4:=z 4;simp at z0 z1 z2 z3 z4;exact⟨z0,z1,z2,z3,z4,fun i=>by simp[World.frozen?,h]⟩
theorem QR{w:World}{g h k:Nat}{ea xa ua ra eb xb ub rb:Int}{va vb va' vb':Value}{o:Obj}(h1:w.heap[g]? =some (resO ea xa va ua ra))(h2:w.heap[h]? =some (resO eb xb vb ub rb))(h3:w.heap[k]? =some o)(e1:g≠h)(e2:k≠g)(e3:k≠h):
 ((w.setCell ⟨g,2,none⟩ va').setCell ⟨h,2,none⟩ vb').heap[g]? =some (resO ea xa va' ua ra)∧((w.setCell ⟨g,2,none⟩ va').setCell ⟨h,2,none⟩ vb').heap[h]? =some (resO eb xb vb' ub rb)∧((w.setCell ⟨g,2,none⟩ va').setCell ⟨h,2,none⟩ vb').heap[k]? =some o:=by
 have s1:=fun v=>Fr.set (Fr.refl (fun q=>q=g) w) (p:=⟨g,2,none⟩) (.inl rfl) v;have s2:=fun v=>Fr.set (Fr.refl (fun q=>q=h) (w.setCell ⟨g,2,none⟩ va')) (p:=⟨h,2,none⟩) (.inl rfl) v;have g1:=heap_setCell_same (i:=2) h1 va';have g2:=(s1 va').at_ h2 (fun e=>e1 e.symm);have g3:=(s1 va').at_ h3 e2;exact⟨(s2 vb').at_ g1 e1,heap_setCell_same (i:=2) g2 vb',(s2 vb').at_ g3 e3⟩
theorem QV(s:List UInt8)(F ea xa ua ra eb xb ub rb:Int)(va vb:Value)(la lb:List Int)(w:World)(hs:s.length≤1000000000000000)(hT:DX w)(hp:Ints w va la)(hq:Ints w vb lb)(hla:la.length≤1000000000000000)(hlb:lb.length≤1000000000000000):
 Calls Tryz.prog 4 #[.string ⟨s.toArray⟩,.int .i64 F,resW ea xa va ua ra,resW eb xb vb ub rb] w fun e w'=>e= .returned (.bool true)∧Below w.heap.size w w':=by
 have TA:=zz (fun W (hb:Below w.heap.size w W)=>Ev.Vb W (hT.block (hb.block _ hT.lt)));have HT:=zz hT;have HPQ:=zz (And.intro hp hq);have TI:=And.intro (fun W (hb:Below w.heap.size w W)=>Oi _ la W (hp.below hb) hla) (fun W (hb:Below w.heap.size w W)=>Oi _ lb W (hq.below hb) hlb);unfold Yo at TI;have hx1:(la.take 20).length≤20:=by rw[List.length_take];omega
 have hx2:(lb.take 20).length≤20:=by rw[List.length_take];omega
 generalize la.take 20=xs at TI hx1;generalize lb.take 20=ys at TI hx2;have TI:=zz TI;have HX:=zz (And.intro hx1 hx2);clear hx1 hx2;have TP:=zz (fun W=>Nw s W hs);have TG:=zz (Hg.Jr s);generalize Hg.FN s=x at TP TG;obtain⟨a1,c1,rfl,-⟩:=hp.2;obtain⟨a2,c2,rfl,-⟩:=hq.2;have hfld:=R9;clear hs hT hp hq hla hlb;go_enter Tryz.func4,Tryz.ntmps4;go_upto_region 1 with fail;generalize hW:World.alloc (World.alloc w _) _=w1;have hb:Below w.heap.size w w1:=by rw[←hW];exact((Below.refl w.heap.size w).alloc AA _).alloc (by simp) _
 have h1:w1.heap[w.heap.size]? =some (resO ea xa (.slice a1 la.length c1) ua ra)∧w1.heap[w.heap.size+1]? =some (resO eb xb (.slice a2 lb.length c2) ub rb):=by rw[←hW];exact⟨(JK w _ _).1,(JK w _ _).2.1⟩
 have HK:=zz h1;have HZ:=zz (show w.heap.size+2≤w1.heap.size from by have:=(AZ.1 h1.2).1;omega);have HB1:=zz hb;have TA:=zz (TA.out w1 hb);clear hb h1 hW;go_wp2_with fail;refine TA.out.mono ?_;rintro e w2 ⟨rfl,hb2⟩;have HB2:=zz hb2;clear TA hb2;go_wp2_with fail;refine(TP.out w2).mono ?_;rintro e w3 ⟨ab,mb,c,vx,rfl,hA3,hx3,hb3⟩;obtain⟨ax,cx,rfl⟩:=hx3.form;have HA3:=zz (Tg.ok TG.out hA3);have HB3:=zz (HB2.out.trans (hb3.mono HB2.out.size));obtain⟨r,hr,TR⟩:=QX TG.out w3.heap.size _ w3 AA hx3;have TR:=zz TR;have HR:=zz hr;clear TP hA3 hx3 hb3 hr;go_wp2_with fail;refine TR.out.mono ?_;rintro e w4 ⟨rfl,hb4⟩;have HB4:=zz (HB3.out.trans (hb4.mono HB3.out.size));have HA4:=zz (HA3.out.below hb4);have HBW:=zz (HB1.out.trans (HB4.out.mono HB1.out.size));have HT4:=zz (HT.out.block (HBW.out.block _ HT.out.lt));have TX:=zz (fun W hA hT=>M4 TG.out HR.out ab W hA hT);clear TR hb4;by_cases h0:r=0
 case' neg=>
  have q:((r:Int) !=0)=true:=by simp[h0]
  have TW:=zz (WC h0 F w4 (fun W hb=>TX.out W (HA4.out.below hb) (HT4.out.block (hb.block _ HT4.out.lt))));clear h0;go_wp2_with fail;refine TW.out.mono ?_;rintro e w5 ⟨rfl,hb5⟩;have HB5:=zz (HBW.out.trans (hb5.mono HBW.out.size));clear TW hb5;go_wp2;go_ret;exact⟨rfl,HB5.out⟩
 subst h0;have T0:=zz (fun G (hG:G≤0)=>WE (F:=G) hG HA4.out HT4.out TX.out);go_wp2_with fail;refine(T0.out _ (by omega)).mono ?_;rintro e w5 ⟨rfl,hb5⟩;have HB5:=zz (HB4.out.trans (hb5.mono HB4.out.size));clear T0 hb5;go_upto_region 7 with fail;have hb6:Below w5.heap.size w5 (w5.alloc (resO 2 0 (.slice none 0 0) 0 0)):=(AP).alloc AA _;have HO6:=zz (Ac w5 (resO 2 0 (.slice none 0 0) 0 0));have HB6:=zz (HB5.out.trans (hb6.mono HB5.out.size));have HL6:=zz HB5.out.size;clear hb6;generalize World.alloc w5 _=w6 at HO6 HB6⊢;generalize w5.heap.size=g3 at HO6 HL6⊢;have HK6:=zz (And.intro ((HB6.out.block w.heap.size (by have:=HZ.out;omega)).trans HK.out.1) ((HB6.out.block (w.heap.size+1) (by have:=HZ.out;omega)).trans HK.out.2));have HBW6:=zz (HB1.out.trans (HB6.out.mono HB1.out.size));have HD6:=zz (show Below w6.heap.size w6 w6.drew from(AP).drew);have HHE:=zz (fun W (hb:Below w6.heap.size w6 W)=>And.intro (Eb ((hb.block w.heap.size (AZ.1 HK6.out.1).1).trans HK6.out.1)).2.2.1 (Eb ((hb.block (w.heap.size+1) (AZ.1 HK6.out.2).1).trans HK6.out.2)).2.2.1);have hHeld:(fun w'=>w'.cell? ⟨w.heap.size,2,none⟩=some (.slice a1 la.length c1)∧w'.cell? ⟨w.heap.size+1,2,none⟩=some (.slice a2 lb.length c2)) w6.drew:=HHE.out _ HD6.out;clear HB2 HB3 HB5 HBW HA3 HA4 HT4 TX HR TG HK HPQ;refine Ao (fun w'=>w'.cell? ⟨w.heap.size,2,none⟩=some (.slice a1 la.length c1)∧w'.cell? ⟨w.heap.size+1,2,none⟩=some (.slice a2 lb.length c2)) 7 (by kernel_rfl) ?_;refine tz 0 ?_;refine tz 1 ?_;refine tz 3 ?_;refine tz 4 ?_;refine AR (i:=2) rfl (by kernel_rfl) (fun K hK=> ?_);go_simp;refine(TI.out.1 _ (HBW6.out.trans (HD6.out.mono HBW6.out.size))).mono ?_;rintro e w7 ⟨v7,rfl,ho7,hb7⟩;have HO7:=zz ho7;obtain⟨a7,c7,rfl,-⟩:=(Ints.Aj ho7).2;have HB7:=zz (HD6.out.trans (hb7.mono HD6.out.size));clear ho7 hb7;refine hK.out _ _ (HHE.out _ HB7.out) (fun hHeld=> ?_);clear hK K
 try simp only[Act.put,sA,sB,sC,sD,sE,sF]
 refine tz 6 ?_;refine AR (i:=5) rfl (by kernel_rfl) (fun K hK=> ?_);go_simp;refine(TI.out.2 _ (HBW6.out.trans (HB7.out.mono HBW6.out.size))).mono ?_;rintro e w8 ⟨v8,rfl,ho8,hb8⟩;have HO8:=zz ho8;obtain⟨a8,c8,rfl,-⟩:=(Ints.Aj ho8).2;have HO7:=zz (BK HO7.out hb8 AA);have HB8:=zz (HB7.out.trans (hb8.mono HB7.out.size));clear ho8 hb8;refine hK.out _ _ (HHE.out _ HB8.out) (fun hHeld=> ?_);clear hK K
 try simp only[Act.put,sA,sB,sC,sD,sE,sF]
 refine Af (by kernel_rfl) ?_;simp only[List.drop_succ_cons,List.drop_zero];have HK8:=zz (And.intro ((HB8.out.block w.heap.size (AZ.1 HK6.out.1).1).trans HK6.out.1) ((HB8.out.block (w.heap.size+1) (AZ.1 HK6.out.2).1).trans HK6.out.2));have HO8':=zz ((HB8.out.block g3 (AZ.1 HO6.out).1).trans HO6.out);have ff:=(Eb HK8.out.1).2.2.2.2.2;have gg:=(Eb HK8.out.2).2.2.2.2.2;obtain⟨k1,k2⟩:=hHeld;have hne:w.heap.size+1≠w.heap.size:=by omega
 go_upto_region 8 with fail;have hlt:w.heap.size+2≤w6.heap.size:=by have:=HZ.out;have:=HB6.out.size;omega
 have hg3:w.heap.size+2≤g3:=by have:=HZ.out;have:=HL6.out;omega
 have hS:=QR (va':= .slice a7 xs.length c7) (vb':= .slice a8 ys.length c8) HK8.out.1 HK8.out.2 HO8'.out (by omega) (by omega) (by omega);have h78:w6.heap.size≤w7.heap.size:=HB7.out.size;have ho7:=Bd (Bd HO7.out (p:=⟨w.heap.size,2,none⟩) (by show w.heap.size < w6.heap.size;omega) (.slice a7 xs.length c7)) (p:=⟨w.heap.size+1,2,none⟩) (by show w.heap.size+1 < w6.heap.size;omega) (.slice a8 ys.length c8);have ho8:=Bd (Bd HO8.out (p:=⟨w.heap.size,2,none⟩) (by show w.heap.size < w7.heap.size;omega) (.slice a7 xs.length c7)) (p:=⟨w.heap.size+1,2,none⟩) (by show w.heap.size+1 < w7.heap.size;omega) (.slice a8 ys.length c8);have hb9:=((HBW6.out.trans (HB8.out.mono HBW6.out.size)).setCell (p:=⟨w.heap.size,2,none⟩) AA (.slice a7 xs.length c7)).setCell (p:=⟨w.heap.size+1,2,none⟩) (Nat.le_succ _) (.slice a8 ys.length c8);generalize World.setCell (World.setCell w8 _ _) _ _=w9 at hS ho7 ho8 hb9⊢;have IA:=zz (Ints.Aj ho7);have IB:=zz (Ints.Aj ho8);have HS:=zz hS;have HB9:=zz hb9;have HC:=zz (fun W (hb:Below w9.heap.size w9 W)=>And.intro (Eb ((hb.block _ (AZ.1 HS.out.1).1).trans HS.out.1)) (And.intro (Eb ((hb.block _ (AZ.1 HS.out.2.1).1).trans HS.out.2.1)) (Eb ((hb.block _ (AZ.1 HS.out.2.2).1).trans HS.out.2.2))));have TS:=zz (OP _ (.inr rfl) _ _ xs ys w9 (by have:=HX.out.1;omega) (by have:=HX.out.2;omega) IA.out IB.out);have TM:=(fun W (hb:Below w9.heap.size w9 W)=>M3 ea xa ua ra eb xb ub rb _ _ xs ys W (by have:=HX.out.1;omega) (by have:=HX.out.2;omega) (IA.out.below hb) (IB.out.below hb));have TB:=(fun W (hb:Below w9.heap.size w9 W)=>M3 ea xa ua ra ea xa ua ra _ _ xs xs W (by have:=HX.out.1;omega) (by have:=HX.out.1;omega) (IA.out.below hb) (IA.out.below hb));rw[show(ea==ea && (xa==xa && decide (xs=xs)))=true by simp] at TB;have TB:=zz TB;generalize decide (xs=ys)=d at TS TM;obtain⟨⟨y0,y1,y2,y3,y4,y5⟩,⟨z0,z1,z2,z3,z4,z5⟩,-⟩:=HC.out w9 (AP);clear hS ho7 ho8 hb9 k1 k2 ff gg hne HK8 HO8' HHE HO7 HO8 HK6 HO6 HD6 TI HB7 HB8 h78 hlt hg3;cases q1:ea==eb
 case' false=>
  rw[q1] at TM;obtain⟨w10,hw⟩:∃W,W=w9:=⟨_,rfl⟩;have HB10:=zz (show Below w9.heap.size w9 w10 from hw ▸ AP);go_upto_region 9 with fail;rw[←hw];clear hw
 case' true=>
  cases q2:xa==xb
  case' false=>
   rw[q1,q2] at TM;obtain⟨w10,hw⟩:∃W,W=w9:=⟨_,rfl⟩;have HB10:=zz (show Below w9.heap.size w9 w10 from hw ▸ AP);go_upto_region 9 with fail;rw[←hw];clear hw
  case' true=>
   rw[q1,q2] at TM;go_wp2_with fail;refine TS.out.mono ?_;rintro e w10 ⟨rfl,n,rfl⟩;have HB10:=zz (below_drewN (Below.refl w9.heap.size w9) n);generalize World.drewN w9 n=w10 at HB10⊢;go_upto_region 9 with fail
 all_goals
  clear y0 y1 y2 y3 y4 y5 z0 z1 z2 z3 z4 z5 TS;simp only[Bool.false_and,Bool.true_and] at TM;have TM:=zz TM;obtain⟨⟨y0,y1,y2,y3,y4,y5⟩,⟨z0,z1,z2,z3,z4,z5⟩,x0,x1,x2,x3,x4,x5⟩:=HC.out w10 HB10.out;go_wp2_with fail;refine(TM.out w10 HB10.out).mono ?_;rintro e w11 ⟨rfl,hb11⟩;have HB11:=zz (HB10.out.trans (hb11.mono HB10.out.size));clear hb11 y0 y1 y2 y3 y4 y5 z0 z1 z2 z3 z4 z5 x0 x1 x2 x3 x4 x5;obtain⟨⟨y0,y1,y2,y3,y4,y5⟩,-⟩:=HC.out w11 HB11.out;go_wp2_with fail;refine(TB.out w11 HB11.out).mono ?_;rintro e w12 ⟨rfl,hb12⟩;have HB12:=zz (HB11.out.trans (hb12.mono HB11.out.size));clear hb12 y0 y1 y2 y3 y4 y5;go_wp2;go_ret;exact⟨by simp,HB9.out.trans (HB12.out.mono HB9.out.size)⟩
end Go.Proofs.YthihjcannjhonaaGreatDoor.Rn
