/-
  A part of the proof.
-/
import Derived.Test.YtijhlanclfajiaaGreatDoorKiBH
import Derived.Test.YtijhlanclfajiaaGreatDoorKiBA
import Derived.Test.YtijhlanclfajiaaGreatDoorKiBB
set_option linter.all false
set_option maxHeartbeats 32000000
set_option maxRecDepth 100000
namespace Hg
open Go.Proofs.YtijhlanclfajiaaGreatDoor (DK)
section
variable {l:List Row} (hT:Tr l) (hl:l.length≤20000) (h0:0 < l.length)
include hT hl h0
theorem SH(i:Nat):kSum l i≤20000:=by
 have hM:=hT.trM hl h0;refine AO (GY l.length _ ?_ fun x hx=> ?_) hl
 ·refine List.pairwise_flatMap.2 ⟨fun q _=> ?_, ?_⟩
  ·cases hq:rowM l q with
   |none=>unfold kd ndAt;rw[hq];exact List.Pairwise.nil
   |some b=>unfold kd;rw[Ar hq];exact hM.nodup q b hq
  ·refine List.Pairwise.imp ?_ (List.nodup_range (n:=i))
   intro p q hpq x hx y hy e;subst e;obtain⟨a,ha,hxa⟩:=Da.2 hx;obtain⟨b,hb,hxb⟩:=Da.2 hy;exact hpq (hM.par p q a b x ha hb hxa hxb)
 ·obtain⟨q,_,hk⟩:=List.mem_flatMap.1 hx
  obtain⟨b,hb,hkb⟩:=Da.2 hk;have:=hM.kid q b hb x hkb;have:=(hM.dom q).1 (by rw[hb];rfl);omega
theorem WM{id:Nat}{a:Node}(ha:rowM l (parR l id).1=some a):(parR l id).1 < id:=by
 have hR:=hT.rows hl;rcases DK hR id with⟨h1,_,_⟩|⟨h1,_,⟨b,hb,he,h5⟩,_⟩
 ·rw[h1,Dh hR] at ha;cases ha
 ·exact((hT.trM hl h0).kid _ b hb id ((DW _ _).1 (by rw[he];exact h5))).1
theorem Mq:∀(f id:Nat) (seen out:List Nat),id < f→(∀s∈seen,id < s)→∃R,ED (rowM l) (parR l) f id seen out=some R∧R.length≤out.length+kSum l id
 |0,_,_,_,h,_=>by omega
 |f+1,id,seen,out,h,hs=>by
   unfold ED;rw[if_neg (fun hm=>by have:=hs id hm;omega)];cases ha:rowM l (parR l id).1 with
   |none=>exact⟨out,rfl,by omega⟩
   |some a=>
     have hlt:=WM hT hl h0 ha;obtain⟨R,hR,hlen⟩:=Mq f (parR l id).1 (id::seen) (Em (rowM l) a (parR l id).2.toNat++out) (by omega) (fun s hm=>by
      rcases List.mem_cons.1 hm with e|e
      ·omega
      ·have:=hs s e;omega)
     refine⟨R,hR, ?_⟩;have h1:(Em (rowM l) a (parR l id).2.toNat).length≤a.kids.length:=by
      unfold Em;exact AO (List.length_filter_le _ _) (by rw[List.length_take];omega)
     have h2:kSum l ((parR l id).1+1)=kSum l (parR l id).1+a.kids.length:=by
      rw[LG];unfold kd;rw[Ar ha]
     have h3:=Tx l (show(parR l id).1+1≤id from hlt);rw[List.length_append] at hlen;omega
end
end Hg
namespace Go.Proofs.YtijhlanclfajiaaGreatDoor
open Go.RowKit
open Hg (GT gl wk isK ndAt Bf Bj BI KB Ce CS Bh dupB Ey Nq)
theorem PE(B:Nat)(v:Value)(l:List (List UInt8))(w:World)(hl:l.length≤1000000)(ho:w.ownsRow B 9 1 v l.length (l.map strV))(hB:B≤w.heap.size):
 Calls Tryz.prog 50 #[v] w fun e w'=>e= .returned (.bool (dupB l))∧Below B w w':=
 (Rl B v l w hl ho).mono fun _ _ h=>⟨h.1,(h.2.imp (fun q _ e=>(ho.lt q e).1)).below' hB⟩
theorem Sv(ab:Nat)(M:Nat→Option Hg.Node)(nms:Nat→List Hg.Str)(w:World)(hA:ArOk w ab M)(hN:Nq M nms):
 Calls Tryz.prog 20 #[.pointer (some ⟨ab,0,none⟩)] w fun e w'=>e= .returned (.bool (Ey M nms))∧Below w.heap.size w w':=by
 obtain⟨cb,hcb⟩:∃b,b=Ey M nms:=⟨_,rfl⟩;rw[←hcb];unfold Ey at hcb;have HCB:=zz hcb;have T1:=zz (fun W (h:ArOk W ab M)=>Ll ab M W h);have HA:=zz hA;have HN:=zz hN;have hml:=hA.lenK 1 2;have hmm:=hA.2.kids 1 2;have HMM:=zz hmm;have TT:=zz PE;change (Bj M).length≤1000000 at hml;clear hA hN hmm hcb;go_enter Tryz.func20,Tryz.ntmps20;go_wp2_with fail;refine(T1.out w HA.out).mono ?_;rintro e w1 ⟨⟨v,rfl,ho1⟩,hb1⟩;have TN:=zz (OV ab M v (Bj M) w1 (HA.out.below hb1) (Sl.Ai ho1) HMM.out hml);have HB1:=zz hb1;clear hb1 ho1;go_wp2_with fail;refine TN.out.mono ?_;rintro e w2 ⟨⟨v2,rfl,ho2⟩,hb2⟩;have TW:=zz (TT.out w1.heap.size v2 ((Bj M).map (Ce M)) w2 (by rw[List.length_map];exact hml) (by rw[List.length_map];simpa using ho2) hb2.size);have HB2:=zz (HB1.out.trans (hb2.mono HB1.out.size));have hs2:=HB1.out.size;generalize dupB ((Bj M).map (Ce M))=d1 at TW HCB;clear hb2 ho2 TN;go_wp2_with fail;refine TW.out.mono ?_;rintro e w3 ⟨rfl,hb3⟩;have HB3:=zz (HB2.out.trans (hb3.mono hs2));have hs3:=HB3.out.size;have T2:=zz (T1.out w3 (HA.out.below HB3.out));clear TW hb3;cases d1
 case true=>
  go_wp2;go_ret;exact⟨AQ (HCB.out.trans rfl).symm,HB3.out⟩
 go_wp2_with fail;refine T2.out.mono ?_;rintro e w4 ⟨⟨vm,rfl,ho4⟩,hb4⟩;obtain⟨a,c,rfl⟩:=(Sl.Ai ho4).form;have HS:=zz (Sl.Ai ho4);have HB4:=zz (HB3.out.trans (hb4.mono hs3));have HA4:=zz (HA.out.below HB4.out);generalize hg:(fun m=>dupB ((BI M m).map (Ce M))||(BI M m).any fun f=>dupB (nms f))=g at HCB;have HG:=zz hg;have HC0:=zz (show cb=((Bj M).drop 0).any g from HCB.out.trans (by rw[Bool.false_or];rfl));clear ho4 hb4 T2 hg HCB;go_wp2
 go_loopw [15] (fun p wr=>∃i:Nat,p= .int .i64 (i:Int)∧i≤(Bj M).length∧Below w4.heap.size w4 wr∧cb=((Bj M).drop i).any g) (fun p wr=>(Bj M).length-(intOf p).toNat)
 case atStart=>exact⟨0,rfl,Nat.zero_le _,AP,HC0.out⟩
 case round=>
  obtain⟨i,rfl,hi,hb,hcb⟩:=hrel;have HB:=zz hb;clear hb HC0;by_cases hlt:i < (Bj M).length
  ·obtain⟨b,o,rfl,_,kc⟩:=(HS.out.below HB.out AA).mapAt hlt
   have hmem:=List.getElem_mem hlt;have hmi:=HMM.out _ hmem;rw[Au hlt,List.any_cons] at hcb;generalize(Bj M)[i]=m at kc hmi hmem hcb;rw[←HG.out] at hcb;dsimp only at hcb;rw[HG.out] at hcb;have HCB:=zz hcb;have T2:=zz (fun W (h:ArOk W ab M)=>Ol ab M m W h hmi);have T2':=zz (T2.out wr (HA4.out.below HB.out));have hfl:=(HA4.out.below HB.out).lenK m 3;have HFM:=zz (HA.out.2.kids m 3);have HND3:=zz (HN.out m hmem);have hsr:=HB.out.size;change (BI M m).length≤1000000 at hfl;clear hmem hcb;go_wp2_with fail;refine T2'.out.mono ?_;rintro e w5 ⟨⟨v5,rfl,ho5⟩,hb5⟩;have TN:=zz (OV ab M v5 (BI M m) w5 ((HA4.out.below HB.out).below hb5) (Sl.Ai ho5) HFM.out hfl);have HB5:=zz (HB.out.trans (hb5.mono hsr));clear hb5 ho5 T2';go_wp2_with fail;refine TN.out.mono ?_;rintro e w6 ⟨⟨v6,rfl,ho6⟩,hb6⟩;have TW:=zz (TT.out w5.heap.size v6 ((BI M m).map (Ce M)) w6 (by rw[List.length_map];exact hfl) (by rw[List.length_map];simpa using ho6) hb6.size);have hs5:=HB5.out.size;have HB6:=zz (HB5.out.trans (hb6.mono hs5));generalize dupB ((BI M m).map (Ce M))=d2 at TW HCB;clear hb6 ho6 TN;go_wp2_with fail;refine TW.out.mono ?_;rintro e w7 ⟨rfl,hb7⟩;have HB7:=zz (HB6.out.trans (hb7.mono hs5));have hs7:=HB7.out.size;have T3:=zz (T2.out w7 (HA4.out.below HB7.out));clear TW hb7;cases d2
   case true=>
    go_wp2;go_ret;exact⟨AQ (HCB.out.trans rfl).symm,HB4.out.trans (HB7.out.mono HB4.out.size)⟩
   go_wp2_with fail;refine T3.out.mono ?_;rintro e w8 ⟨⟨v8,rfl,ho8⟩,hb8⟩;obtain⟨a2,c2,rfl⟩:=(Sl.Ai ho8).form;have HS2:=zz (Sl.Ai ho8);have HB8:=zz (HB7.out.trans (hb8.mono hs7));have HA8:=zz (HA4.out.below HB8.out);have HC1:=zz (show cb=(((BI M m).drop 0).any (fun f=>dupB (nms f))||((Bj M).drop (i+1)).any g) from HCB.out.trans (by rw[Bool.false_or];rfl));clear ho8 hb8 T3 HCB;go_wp2
   go_loopw [29] (fun p wr=>∃j:Nat,p= .int .i64 (j:Int)∧j≤(BI M m).length∧Below w8.heap.size w8 wr∧cb=(((BI M m).drop j).any (fun f=>dupB (nms f))||((Bj M).drop (i+1)).any g)) (fun p wr=>(BI M m).length-(intOf p).toNat)
   case atStart=>exact⟨0,rfl,Nat.zero_le _,AP,HC1.out⟩
   case round=>
    obtain⟨j,rfl,hj,hb9,hcb⟩:=hrel;have HB9:=zz hb9;have hs9:=hb9.size;clear hb9 HC1;by_cases hltj:j < (BI M m).length
    ·obtain⟨b2,o2,rfl,_,kc2⟩:=(HS2.out.below HB9.out AA).mapAt hltj
     have hmj:=List.getElem_mem hltj;have hfj:=HFM.out _ hmj;rw[Au hltj,List.any_cons,Bool.or_assoc] at hcb;generalize(BI M m)[j]=f at kc2 hfj hmj hcb;obtain⟨F,xs,hxs,hF,hnm⟩:=HND3.out f hmj;have TK:=zz (SG ab M f F xs wr (HA8.out.below HB9.out) hfj hxs hF);have hnl:(Bh xs).length≤1000000:=by
      have h1:=NC xs;have h2:=MZ M _ _ _ _ hxs;omega
     rw[hnm] at hcb;have HCB:=zz hcb;clear hmj hxs hF hnm hcb;go_wp2_with fail;refine TK.out.mono ?_;rintro e w10 ⟨⟨v10,rfl,ho10⟩,hb10⟩;have TW:=zz (TT.out wr.heap.size v10 (Bh xs) w10 hnl ho10 hb10.size);have HB10:=zz (HB9.out.trans (hb10.mono hs9));generalize dupB (Bh xs)=d3 at TW HCB;clear hb10 ho10 TK;go_wp2_with fail;refine TW.out.mono ?_;rintro e w11 ⟨rfl,hb11⟩;have HB11:=zz (HB10.out.trans (hb11.mono hs9));clear hb11 TW;cases d3
     ·have HC2:=zz (HCB.out.trans (Bool.false_or _))
      go_wp2;go_roundw
      case rel=>exact⟨j+1,by go_num,by omega,HB11.out,HC2.out⟩
      case measure=>simp[intOf];omega
     ·have HB12:=zz (HB4.out.trans ((HB8.out.trans (HB11.out.mono HB8.out.size)).mono HB4.out.size))
      go_wp2;go_ret;exact⟨AQ (HCB.out.trans rfl).symm,HB12.out⟩
    ·obtain rfl:j=(BI M m).length:=by omega
     rw[List.drop_length] at hcb;have HB12:=zz (HB8.out.trans (HB9.out.mono HB8.out.size));have HC2:=zz (hcb.trans (Bool.false_or _));clear hcb;go_wp2;go_roundw
     case rel=>exact⟨i+1,by go_num,by omega,HB12.out,HC2.out⟩
     case measure=>simp[intOf];omega
  ·obtain rfl:i=(Bj M).length:=by omega
   rw[List.drop_length] at hcb;have HC2:=zz hcb;clear hcb;go_wp2;go_ret;exact⟨AQ HC2.out.symm,HB4.out.trans (HB.out.mono HB4.out.size)⟩
end Go.Proofs.YtijhlanclfajiaaGreatDoor
namespace Go.Proofs.YtijhlanclfajiaaGreatDoor
open Go.RowKit
open Hg (GT gl wk isK ndAt Bf KB Cr Em ED)
attribute [local go_sem] Oper.semAt_some
def hidK(sn:Nat→List Nat)(x:Nat×Hg.Node):Bool:=(decide (x.2.kind=15)||decide (x.2.kind=7)) && !decide (0≤idxI (sn x.1) x.2.ref)
def HidX(ok:Bool)(ab B:Nat)(c:Code)(S:Nat→Prop)(A:World):Prop:=c= .ret∧BoxI ab B S A∧A.heap[B+1]? =some (.cells #[.bool true] 4 (0,0))∧ok=true
def hieA(p1 p2 p3 p4:Value)(a:Act):Prop:=∃u0 u5 u6 u7 u8 u9 u10 u11 u12 u13 u14 u15 u16 u17 u18 u19 u20 u21 u22 u23 u24 u25 u26 u27:Value,a={tmps:= #[u0,p1,p2,p3,p4,u5,u6,u7,u8,u9,u10,u11,u12,u13,u14,u15,u16,u17,u18,u19,u20,u21,u22,u23,u24,u25,u26,u27],defers:=[]}
def HieR(ab B:Nat)(S:Nat→Prop)(x:Am)(a:Act)(A:World):Prop:=
 ∃S0 blk,BoxI ab B S0 A∧hieA (.pointer (some ⟨B,0,none⟩)) (.pointer (some ⟨B+1,0,none⟩)) (idV x.id) (.pointer (some ⟨blk,0,none⟩)) a∧A.heap[blk]? =some (.cells (Ad x.nd x.ka x.kc) 44 (0,0))∧(∀q,S q↔S0 q∨q=blk)∧¬S0 blk
theorem Qz(ab:Nat)(M:Nat→Option Hg.Node)(par:Nat→Nat×Int)(hp:L8 M par)(F F2:Nat)(xs:List (Nat×Hg.Node))(w:World)(hA:ArOk w ab M)(hxs:wk M F [1] []=some xs)(hF:F≤1000000)(hF2:F2≤1000000)(hid:∀x∈xs,x.1 < Aj)
 (sn:Nat→List Nat) (hall:∀x∈xs,ED M par F2 x.1 [] []=some (sn x.1)∧(sn x.1).length≤1000000):
 Calls Tryz.prog 21 #[.pointer (some ⟨ab,0,none⟩)] w fun e w'=>e= .returned (.bool (xs.any (hidK sn)))∧Below w.heap.size w w':=by
 obtain⟨hb,hhb⟩:∃b,b=xs.any (hidK sn):=⟨_,rfl⟩;rw[←hhb];have HHB:=zz hhb;clear hhb;have HA:=zz hA;have HP:=zz hp;have HALL:=zz (And.intro hid hall);have TW:=zz (Jt ab 1);have TR:=zz (IL ab);clear hp hid hall;refine(callsIn_wide (n:=5)).1 (callsIn_of_wp_marks Tryz.func21 rfl trivial ?_ rfl);simp only[Tryz.ntmps21,List.size_toArray,List.length_cons,List.length_nil,Nat.reduceAdd,Nat.reduceSub,Array.replicate_succ,Array.replicate_zero,List.push_toArray,List.append_toArray,List.nil_append,List.cons_append];gi_wp2;refine wpIn_wide.2 (MC ?_);have hb0:Below w.heap.size w ((w.alloc (.cells #[.pointer (some ⟨ab,0,none⟩)] 26)).alloc (.cells #[.bool false] 4)):=((AP).alloc AA _).alloc (by simp) _;have h0:((w.alloc (.cells #[.pointer (some ⟨ab,0,none⟩)] 26)).alloc (.cells #[.bool false] 4)).heap[w.heap.size]? =some (.cells #[.pointer (some ⟨ab,0,none⟩)] 26 (0,0)):=(heap_alloc_old _ _ (by simp)).trans (AZ w _);have h1:((w.alloc (.cells #[.pointer (some ⟨ab,0,none⟩)] 26)).alloc (.cells #[.bool false] 4)).heap[w.heap.size+1]? =some (.cells #[.bool false] 4 (0,0)):=by
  have:=AZ (w.alloc (.cells #[.pointer (some ⟨ab,0,none⟩)] 26)) (.cells #[.bool false] 4);rw[show(w.alloc (.cells #[.pointer (some ⟨ab,0,none⟩)] 26)).heap.size=w.heap.size+1 by simp] at this;exact this
 have hz:((w.alloc (.cells #[.pointer (some ⟨ab,0,none⟩)] 26)).alloc (.cells #[.bool false] 4)).heap.size=w.heap.size+2:=by simp
 generalize World.alloc (World.alloc w _) _=W0 at hb0 h0 h1 hz⊢;have e0:=AJ W0 w.heap.size 0 _ _ (0,0) h0;simp at e0;have hHeld:(fun w'=>w'.cell? ⟨w.heap.size,0,none⟩=some (.pointer (some ⟨ab,0,none⟩))) W0.drew:=e0;refine Ay (fun w'=>w'.cell? ⟨w.heap.size,0,none⟩=some (.pointer (some ⟨ab,0,none⟩))) 3 (by kernel_rfl) ?_;refine tz 0 ?_;refine tz 1 ?_;refine AR (i:=2) rfl (by kernel_rfl) (fun K hK=> ?_);go_simp;refine(TR.out _).mono ?_;rintro e w1 ⟨rfl,rfl⟩;refine hK.out _ _ (hHeld) (fun hHeld=> ?_);clear hK K
 try simp only[Act.put,sA,sB,sC,sD,sE,sF]
 refine Ag (by kernel_rfl) ?_;simp only[List.drop_succ_cons,List.drop_zero];go_wp2_with fail;refine(TW.out _).mono ?_;rintro e w1 ⟨rfl,rfl⟩;have hz':W0.drew.heap.size=w.heap.size+2:=hz;rw[hz'];have hbW:Below W0.heap.size W0 ((W0.drew.alloc (.cells #[.pointer (some ⟨ab,0,none⟩)] 26)).alloc (.cells #[idV 1] 37)):=(((AP).drew).alloc AA _).alloc (by simp) _;have k1:((W0.drew.alloc (.cells #[.pointer (some ⟨ab,0,none⟩)] 26)).alloc (.cells #[idV 1] 37)).heap[w.heap.size+2]? =some (.cells #[.pointer (some ⟨ab,0,none⟩)] 26 (0,0)):=by
  have:=AZ W0.drew (.cells #[.pointer (some ⟨ab,0,none⟩)] 26);rw[hz'] at this;exact(heap_alloc_old _ _ (by simp[hz'])).trans this
 have k2:((W0.drew.alloc (.cells #[.pointer (some ⟨ab,0,none⟩)] 26)).alloc (.cells #[idV 1] 37)).heap[w.heap.size+2+1]? =some (.cells #[idV 1] 37 (0,0)):=by
  have:=AZ (W0.drew.alloc (.cells #[.pointer (some ⟨ab,0,none⟩)] 26)) (.cells #[idV 1] 37);rw[show(W0.drew.alloc (.cells #[.pointer (some ⟨ab,0,none⟩)] 26)).heap.size=w.heap.size+2+1 by simp[hz']] at this;exact this
 have hzW:((W0.drew.alloc (.cells #[.pointer (some ⟨ab,0,none⟩)] 26)).alloc (.cells #[idV 1] 37)).heap.size=w.heap.size+4:=by simp[hz']
 generalize World.alloc (World.alloc W0.drew _) _=W1 at hbW k1 k2 hzW⊢;have g0:W1.heap[w.heap.size]? =some (.cells #[.pointer (some ⟨ab,0,none⟩)] 26 (0,0)):=(hbW.block _ (by omega)).trans h0;have g1:W1.heap[w.heap.size+1]? =some (.cells #[.bool false] 4 (0,0)):=(hbW.block _ (by omega)).trans h1;have hb1:Below w.heap.size w W1:=hb0.trans (hbW.mono (by omega));obtain⟨⟨mb,c,hAr⟩,hkb⟩:=HA.out;have hseq:=IB ab mb c M w.heap.size 1 (w.heap.size+2+1) (w.heap.size+2) F xs W1 (fun W' hf=>hAr.below (hb1.trans (hf.below' (by omega))) AA) (AJ W1 (w.heap.size+2+1) 0 _ _ (0,0) k2) (AJ W1 (w.heap.size+2) 0 _ _ (0,0) k1) ⟨by omega,by omega,by omega,by omega⟩ (by decide) hkb hxs hF;have HB1:=zz hb1;have HARW:=zz (show∀W',Fr (fun q=>w.heap.size≤q) W1 W'→ArOk W' ab M from fun W' hf=>HA.out.below (hb1.trans (hf.below' (by omega))));clear hA hAr hkb k1 k2 hHeld h0 h1 hb0 hbW e0 TW TR hb1;go_wp2;gi_wp2;refine GL (gf:=97) rfl (enters_of Tryz.func97 (by kernel_rfl) rfl) hseq (Fr.refl _ _) rfl (fun q h=>by rcases h with h|h <;>omega) (by omega)
  (fun S pre A=>BoxI ab w.heap.size S A∧(pre.map Am.strip).any (hidK sn)=false) (fun c S _ A=>HidX hb ab w.heap.size c S A) (fun S pre x a A=>HieR ab w.heap.size S x a A∧(pre.map Am.strip).any (hidK sn)=false) (fun S pre A A' h hf=>⟨h.1.fr hf,h.2⟩) (fun c S pre A A' h hf=>⟨h.1,h.2.1.fr hf,hf.at_ h.2.2.1 (fun k=>k ((h.2.1.2.2 _).2 (.inr rfl))),h.2.2.2⟩) ?hI1 (fun S pre A h q hq=>(h.1.lt q hq).2) ?hI1l
  (fun q=>q=w.heap.size∨q=w.heap.size+1) ⟨⟨g0,⟨_,g1⟩,fun q=>Iff.rfl⟩,rfl⟩ (fun q e=>by rcases e with e|e <;>subst e <;>exact⟨by omega,by omega,by omega⟩) ?assign ?body ?done ?stop
 case hI1=>
  rintro S pre x a A A' ⟨⟨S0,blk,hi,ha,hb,hS,hn⟩,hp⟩ hf;exact⟨⟨S0,blk,hi.fr (hf.imp (fun q _ h h'=>h (.inl ((hS q).2 (.inl h'))))),ha,hf.at_ hb (fun h=>h (.inl ((hS blk).2 (.inr rfl)))),hS,hn⟩,hp⟩
 case hI1l=>
  rintro S pre x a A ⟨⟨S0,blk,hi,ha,hb,hS,hn⟩,hp⟩ q hq;rcases(hS q).1 hq with h|h
  ·exact(hi.lt q h).2
  ·subst h;exact(Ab.1 hb).1
 case assign=>
  intro l m S pre x A K hi hpre hx hkb hf hK;gi_wp2;refine hK (fun q=>S q∨q=A.heap.size) _ _ ⟨⟨S,A.heap.size,hi.1.fr ((Fr.refl _ _).alloc _), ?_,AZ A _,fun q=>Iff.rfl,fun h=>by have:=(hi.1.lt _ h).2;omega⟩,hi.2⟩ ((Fr.refl _ _).alloc _) (fun q h=>h.imp (fun h=>h) (fun h=>by omega));exact⟨_,_,_,_,_,_,_,_,_,_,_,_,_,_,_,_,_,_,_,_,_,_,_,_,rfl⟩
 case body=>
  rintro l m S pre x a1 A ⟨⟨S0,blk,⟨hbx,⟨r0,hbr⟩,hSv⟩,ha,hbk,hS,hn⟩,hpo⟩ hpre hf;obtain⟨u0,u5,u6,u7,u8,u9,u10,u11,u12,u13,u14,u15,u16,u17,u18,u19,u20,u21,u22,u23,u24,u25,u26,u27,rfl⟩:=ha;have hxm:x.strip∈xs:=hpre.subset (by simp);have hf2:Fr (fun q=>w.heap.size≤q) W1 A:=hf.imp (fun q _ e=>by rcases e with(e|e)|e|e <;>omega);have HAA:=zz (HARW.out A hf2);obtain⟨xi,nd,ka,kc⟩:=x;have hxm:(xi,nd)∈xs:=hxm;have hxt:xi < Aj:=HALL.out.1 _ hxm;obtain⟨hR,hRl⟩:=HALL.out.2 _ hxm;dsimp only at hR hRl;have HBAD:=zz (show hidK sn (xi,nd)=true→hb=true from fun h=>HHB.out.trans (List.any_eq_true.2 ⟨_,hxm,h⟩));have HRET:=zz (show hb=true→∀W:World,Fr (fun _=>False) A W→∃S',HidX hb ab w.heap.size .ret S' (W.setCell ⟨w.heap.size+1,0,none⟩ (.bool true))∧Fr S A (W.setCell ⟨w.heap.size+1,0,none⟩ (.bool true))∧∀q,S' q→S q∨A.heap.size≤q from fun hno W hf=>by
   have h1:W.heap[w.heap.size]? =some (.cells #[.pointer (some ⟨ab,0,none⟩)] 26 (0,0)):=hf.at_ hbx (fun h=>h);have h2:W.heap[w.heap.size+1]? =some (.cells #[r0] 4 (0,0)):=hf.at_ hbr (fun h=>h);have h3:(W.setCell ⟨w.heap.size+1,0,none⟩ (.bool true)).heap[w.heap.size+1]? =some (.cells #[.bool true] 4 (0,0)):=heap_setCell_same h2 _;exact⟨S0,⟨rfl,⟨(Below.heap_setCell W ⟨w.heap.size+1,0,none⟩ (.bool true) w.heap.size (by show¬w.heap.size=w.heap.size+1;omega)).trans h1,⟨_,h3⟩,hSv⟩,h3,hno⟩,(hf.imp (fun q _ e=>e.elim)).set (p:=⟨w.heap.size+1,0,none⟩) (.inl ((hS _).2 (.inl ((hSv _).2 (.inr rfl))))) _,fun q h=> .inl ((hS q).2 (.inl h))⟩)
  have HGO:=zz (show hidK sn (xi,nd)=false→∀W:World,Fr (fun _=>False) A W→∃S',(BoxI ab w.heap.size S' W∧((pre++[(⟨xi,nd,ka,kc⟩:Am)]).map Am.strip).any (hidK sn)=false)∧Fr S A W∧∀q,S' q→S q∨A.heap.size≤q from fun hyes W hf=>
   ⟨S0,⟨⟨hf.at_ hbx (fun h=>h),⟨r0,hf.at_ hbr (fun h=>h)⟩,hSv⟩,by rw[List.map_append,List.any_append,hpo];simp[Am.strip,hyes]⟩,hf.imp (fun q _ e=>e.elim),fun q h=> .inl ((hS q).2 (.inl h))⟩)
  have HROW:=zz (show hidK sn (xi,nd)=((decide (nd.kind=15)||decide (nd.kind=7)) && !decide (0≤idxI (sn xi) nd.ref)) from rfl);have e0:=AJ A blk 0 _ _ (0,0) hbk;have e4:=AJ A blk 4 _ _ (0,0) hbk;have eB:=AJ A w.heap.size 0 _ _ (0,0) hbx;have hbl:=(Ab.1 hbk).1;have hBl:=(Ab.1 hbx).1;simp at e0 e4 eB;have hnr:¬(fun _:Nat=>False) (w.heap.size+1):=fun h=>h;generalize sn xi=R at hR hRl HROW;have TS:=zz (V7 ab M par HP.out xi F2 R A.drew (HAA.out.below (AP).drew) hxt hR hF2);have hHeld:(fun w'=>w'.cell? ⟨w.heap.size,0,none⟩=some (.pointer (some ⟨ab,0,none⟩))∧w'.cell? ⟨blk,0,none⟩=some (.int .u8 (nd.kind:Int))∧w'.cell? ⟨blk,4,none⟩=some (.int .u64 (nd.ref:Int))) A.drew:=⟨eB,e0,e4⟩;clear hpre hf hf2 hxm hpo hR hS hn;gi_wp2;by_cases hk:nd.kind=15∨nd.kind=7
  ·have HROW:=zz (HROW.out.trans (show _= !decide (0≤idxI R nd.ref) by rcases hk with h|h <;>simp[h]))
   generalize hdi:decide (0≤idxI R nd.ref)=dB at HROW;by_cases k15:nd.kind=15
   ·have q15:((nd.kind:Int)==15)=true:=by simp[k15]
    clear hk k15;cases dB
    ·have hyes:hidK sn (xi,nd)=true:=HROW.out
     refine BB (fun w'=>w'.cell? ⟨w.heap.size,0,none⟩=some (.pointer (some ⟨ab,0,none⟩))∧w'.cell? ⟨blk,0,none⟩=some (.int .u8 (nd.kind:Int))∧w'.cell? ⟨blk,4,none⟩=some (.int .u64 (nd.ref:Int))) 16 (by kernel_rfl) (by kernel_rfl) (by rintro⟨_,_,h⟩;exact h) ?_;refine tz 0 ?_;refine tz 1 ?_;refine tz 2 ?_;refine tz 3 ?_;refine AC (i:=4) rfl (by kernel_rfl) (fun _ _ _ h=>h) (by assumption) (Or.inr ⟨by rfl,rfl⟩) ?_
     try simp only[Act.put,sA,sB,sC,sD,sE,sF]
     refine AC (i:=5) rfl (by kernel_rfl) (fun _ _ _ h=>h) (by assumption) (Or.inr ⟨by rfl,rfl⟩) ?_
     try simp only[Act.put,sA,sB,sC,sD,sE,sF]
     refine AC (i:=6) rfl (by kernel_rfl) (fun _ _ _ h=>h) (by assumption) (Or.inr ⟨by rfl,rfl⟩) ?_
     try simp only[Act.put,sA,sB,sC,sD,sE,sF]
     refine tz 7 ?_;refine tz 8 ?_;refine tz 9 ?_;refine tz 10 ?_;refine tz 12 ?_;refine tz 13 ?_;refine AR (i:=11) rfl (by kernel_rfl) (fun K hK=> ?_);go_simp;refine TS.out.mono ?_;rintro e W5 ⟨⟨v5,rfl,ho5⟩,hb5⟩;have HO5:=zz ho5;have HB5:=zz hb5;clear ho5 TS;refine hK.out _ _ (⟨(hb5.cell (p:=⟨w.heap.size,0,none⟩) hBl).trans hHeld.1,(hb5.cell (p:=⟨blk,0,none⟩) hbl).trans hHeld.2.1,(hb5.cell (p:=⟨blk,4,none⟩) hbl).trans hHeld.2.2⟩) (fun hHeld=> ?_);clear hK K
     try simp only[Act.put,sA,sB,sC,sD,sE,sF]
     refine AR (i:=14) rfl (by kernel_rfl) (fun K hK=> ?_);go_simp;have TC:=FJ W5.heap.size v5 R nd.ref W5 (Sl.Ai HO5.out) (by omega) hRl;rw[hdi] at TC;refine TC.mono ?_;rintro e W6 ⟨rfl,rfl⟩;refine hK.out _ _ (hHeld) (fun hHeld=> ?_);clear hK K
     try simp only[Act.put,sA,sB,sC,sD,sE,sF]
     refine tz 15 ?_;refine Ag (by kernel_rfl) ?_;simp only[List.drop_succ_cons,List.drop_zero];have HFA:Fr (fun _=>False) A W5:=(Fr.refl _ A).drew.trans (Fr.of_below HB5.out);have HNO:=zz (show hb=true from HBAD.out hyes);have h2:=HFA.at_ hbr hnr;have f7:=DF h2;have d7:=AJ _ (w.heap.size+1) 0 _ _ (0,0) h2;simp at d7;have l7:=(Ab.1 h2).1;have HFIN:=zz (HRET.out HNO.out _ HFA);clear HFA h2;go_wp2;gi_wp2;exact HFIN.out
    ·have hno:hidK sn (xi,nd)=false:=HROW.out
     refine BB (fun w'=>w'.cell? ⟨w.heap.size,0,none⟩=some (.pointer (some ⟨ab,0,none⟩))∧w'.cell? ⟨blk,0,none⟩=some (.int .u8 (nd.kind:Int))∧w'.cell? ⟨blk,4,none⟩=some (.int .u64 (nd.ref:Int))) 16 (by kernel_rfl) (by kernel_rfl) (by rintro⟨_,_,h⟩;exact h) ?_;refine tz 0 ?_;refine tz 1 ?_;refine tz 2 ?_;refine tz 3 ?_;refine AC (i:=4) rfl (by kernel_rfl) (fun _ _ _ h=>h) (by assumption) (Or.inr ⟨by rfl,rfl⟩) ?_
     try simp only[Act.put,sA,sB,sC,sD,sE,sF]
     refine AC (i:=5) rfl (by kernel_rfl) (fun _ _ _ h=>h) (by assumption) (Or.inr ⟨by rfl,rfl⟩) ?_
     try simp only[Act.put,sA,sB,sC,sD,sE,sF]
     refine AC (i:=6) rfl (by kernel_rfl) (fun _ _ _ h=>h) (by assumption) (Or.inr ⟨by rfl,rfl⟩) ?_
     try simp only[Act.put,sA,sB,sC,sD,sE,sF]
     refine tz 7 ?_;refine tz 8 ?_;refine tz 9 ?_;refine tz 10 ?_;refine tz 12 ?_;refine tz 13 ?_;refine AR (i:=11) rfl (by kernel_rfl) (fun K hK=> ?_);go_simp;refine TS.out.mono ?_;rintro e W5 ⟨⟨v5,rfl,ho5⟩,hb5⟩;have HO5:=zz ho5;have HB5:=zz hb5;clear ho5 TS;refine hK.out _ _ (⟨(hb5.cell (p:=⟨w.heap.size,0,none⟩) hBl).trans hHeld.1,(hb5.cell (p:=⟨blk,0,none⟩) hbl).trans hHeld.2.1,(hb5.cell (p:=⟨blk,4,none⟩) hbl).trans hHeld.2.2⟩) (fun hHeld=> ?_);clear hK K
     try simp only[Act.put,sA,sB,sC,sD,sE,sF]
     refine AR (i:=14) rfl (by kernel_rfl) (fun K hK=> ?_);go_simp;have TC:=FJ W5.heap.size v5 R nd.ref W5 (Sl.Ai HO5.out) (by omega) hRl;rw[hdi] at TC;refine TC.mono ?_;rintro e W6 ⟨rfl,rfl⟩;refine hK.out _ _ (hHeld) (fun hHeld=> ?_);clear hK K
     try simp only[Act.put,sA,sB,sC,sD,sE,sF]
     refine tz 15 ?_;refine Ag (by kernel_rfl) ?_;simp only[List.drop_succ_cons,List.drop_zero];have HFA:Fr (fun _=>False) A W5:=(Fr.refl _ A).drew.trans (Fr.of_below HB5.out);have HFIN:=zz (HGO.out hno _ HFA);clear HFA;go_wp2;gi_wp2;exact HFIN.out
   ·have q15:((nd.kind:Int)==15)=false:=by simp;omega
    have q7:((nd.kind:Int)==7)=true:=by
     have:nd.kind=7:=by omega
     simp[this]
    clear hk k15;cases dB
    ·have hyes:hidK sn (xi,nd)=true:=HROW.out
     refine BB (fun w'=>w'.cell? ⟨w.heap.size,0,none⟩=some (.pointer (some ⟨ab,0,none⟩))∧w'.cell? ⟨blk,0,none⟩=some (.int .u8 (nd.kind:Int))∧w'.cell? ⟨blk,4,none⟩=some (.int .u64 (nd.ref:Int))) 16 (by kernel_rfl) (by kernel_rfl) (by rintro⟨_,_,h⟩;exact h) ?_;refine tz 0 ?_;refine tz 1 ?_;refine tz 2 ?_;refine tz 3 ?_;refine tz 4 ?_;refine tz 5 ?_;refine tz 6 ?_;refine tz 7 ?_;refine tz 8 ?_;refine tz 9 ?_;refine tz 10 ?_;refine tz 12 ?_;refine tz 13 ?_;refine AR (i:=11) rfl (by kernel_rfl) (fun K hK=> ?_);go_simp;refine TS.out.mono ?_;rintro e W5 ⟨⟨v5,rfl,ho5⟩,hb5⟩;have HO5:=zz ho5;have HB5:=zz hb5;clear ho5 TS;refine hK.out _ _ (⟨(hb5.cell (p:=⟨w.heap.size,0,none⟩) hBl).trans hHeld.1,(hb5.cell (p:=⟨blk,0,none⟩) hbl).trans hHeld.2.1,(hb5.cell (p:=⟨blk,4,none⟩) hbl).trans hHeld.2.2⟩) (fun hHeld=> ?_);clear hK K
     try simp only[Act.put,sA,sB,sC,sD,sE,sF]
     refine AR (i:=14) rfl (by kernel_rfl) (fun K hK=> ?_);go_simp;have TC:=FJ W5.heap.size v5 R nd.ref W5 (Sl.Ai HO5.out) (by omega) hRl;rw[hdi] at TC;refine TC.mono ?_;rintro e W6 ⟨rfl,rfl⟩;refine hK.out _ _ (hHeld) (fun hHeld=> ?_);clear hK K
     try simp only[Act.put,sA,sB,sC,sD,sE,sF]
     refine tz 15 ?_;refine Ag (by kernel_rfl) ?_;simp only[List.drop_succ_cons,List.drop_zero];have HFA:Fr (fun _=>False) A W5:=(Fr.refl _ A).drew.trans (Fr.of_below HB5.out);have HNO:=zz (show hb=true from HBAD.out hyes);have h2:=HFA.at_ hbr hnr;have f7:=DF h2;have d7:=AJ _ (w.heap.size+1) 0 _ _ (0,0) h2;simp at d7;have l7:=(Ab.1 h2).1;have HFIN:=zz (HRET.out HNO.out _ HFA);clear HFA h2;go_wp2;gi_wp2;exact HFIN.out
    ·have hno:hidK sn (xi,nd)=false:=HROW.out
     refine BB (fun w'=>w'.cell? ⟨w.heap.size,0,none⟩=some (.pointer (some ⟨ab,0,none⟩))∧w'.cell? ⟨blk,0,none⟩=some (.int .u8 (nd.kind:Int))∧w'.cell? ⟨blk,4,none⟩=some (.int .u64 (nd.ref:Int))) 16 (by kernel_rfl) (by kernel_rfl) (by rintro⟨_,_,h⟩;exact h) ?_;refine tz 0 ?_;refine tz 1 ?_;refine tz 2 ?_;refine tz 3 ?_;refine tz 4 ?_;refine tz 5 ?_;refine tz 6 ?_;refine tz 7 ?_;refine tz 8 ?_;refine tz 9 ?_;refine tz 10 ?_;refine tz 12 ?_;refine tz 13 ?_;refine AR (i:=11) rfl (by kernel_rfl) (fun K hK=> ?_);go_simp;refine TS.out.mono ?_;rintro e W5 ⟨⟨v5,rfl,ho5⟩,hb5⟩;have HO5:=zz ho5;have HB5:=zz hb5;clear ho5 TS;refine hK.out _ _ (⟨(hb5.cell (p:=⟨w.heap.size,0,none⟩) hBl).trans hHeld.1,(hb5.cell (p:=⟨blk,0,none⟩) hbl).trans hHeld.2.1,(hb5.cell (p:=⟨blk,4,none⟩) hbl).trans hHeld.2.2⟩) (fun hHeld=> ?_);clear hK K
     try simp only[Act.put,sA,sB,sC,sD,sE,sF]
     refine AR (i:=14) rfl (by kernel_rfl) (fun K hK=> ?_);go_simp;have TC:=FJ W5.heap.size v5 R nd.ref W5 (Sl.Ai HO5.out) (by omega) hRl;rw[hdi] at TC;refine TC.mono ?_;rintro e W6 ⟨rfl,rfl⟩;refine hK.out _ _ (hHeld) (fun hHeld=> ?_);clear hK K
     try simp only[Act.put,sA,sB,sC,sD,sE,sF]
     refine tz 15 ?_;refine Ag (by kernel_rfl) ?_;simp only[List.drop_succ_cons,List.drop_zero];have HFA:Fr (fun _=>False) A W5:=(Fr.refl _ A).drew.trans (Fr.of_below HB5.out);have HFIN:=zz (HGO.out hno _ HFA);clear HFA;go_wp2;gi_wp2;exact HFIN.out
  ·have q15:((nd.kind:Int)==15)=false:=by simp;omega
   have q7:((nd.kind:Int)==7)=false:=by simp;omega
   have hno:hidK sn (xi,nd)=false:=HROW.out.trans (by rw[decide_eq_false (fun h=>hk (.inl h)),decide_eq_false (fun h=>hk (.inr h))];rfl);clear hk;refine BB (fun w'=>w'.cell? ⟨w.heap.size,0,none⟩=some (.pointer (some ⟨ab,0,none⟩))∧w'.cell? ⟨blk,0,none⟩=some (.int .u8 (nd.kind:Int))∧w'.cell? ⟨blk,4,none⟩=some (.int .u64 (nd.ref:Int))) 16 (by kernel_rfl) (by kernel_rfl) (by rintro⟨_,_,h⟩;exact h) ?_;refine tz 0 ?_;refine tz 1 ?_;refine tz 2 ?_;refine tz 3 ?_;refine tz 4 ?_;refine tz 5 ?_;refine tz 6 ?_;refine tz 7 ?_;refine tz 8 ?_;refine AC (i:=9) rfl (by kernel_rfl) (fun _ _ _ h=>h) (by assumption) (Or.inr ⟨by rfl,rfl⟩) ?_
   try simp only[Act.put,sA,sB,sC,sD,sE,sF]
   refine AC (i:=10) rfl (by kernel_rfl) (fun _ _ _ h=>h) (by assumption) (Or.inr ⟨by rfl,rfl⟩) ?_
   try simp only[Act.put,sA,sB,sC,sD,sE,sF]
   refine AC (i:=11) rfl (by kernel_rfl) (fun _ _ _ h=>h) (by assumption) (Or.inr ⟨by rfl,rfl⟩) ?_
   try simp only[Act.put,sA,sB,sC,sD,sE,sF]
   refine AC (i:=12) rfl (by kernel_rfl) (fun _ _ _ h=>h) (by assumption) (Or.inr ⟨by rfl,rfl⟩) ?_
   try simp only[Act.put,sA,sB,sC,sD,sE,sF]
   refine AC (i:=13) rfl (by kernel_rfl) (fun _ _ _ h=>h) (by assumption) (Or.inr ⟨by rfl,rfl⟩) ?_
   try simp only[Act.put,sA,sB,sC,sD,sE,sF]
   refine AC (i:=14) rfl (by kernel_rfl) (fun _ _ _ h=>h) (by assumption) (Or.inr ⟨by rfl,rfl⟩) ?_
   try simp only[Act.put,sA,sB,sC,sD,sE,sF]
   refine AC (i:=15) rfl (by kernel_rfl) (fun _ _ _ h=>h) (by assumption) (Or.inr ⟨by rfl,rfl⟩) ?_
   try simp only[Act.put,sA,sB,sC,sD,sE,sF]
   refine Ag (by kernel_rfl) ?_;simp only[List.drop_succ_cons,List.drop_zero];have HFA:Fr (fun _=>False) A A.drew:=(Fr.refl _ A).drew;have HFIN:=zz (HGO.out hno _ HFA);clear HFA;go_wp2;gi_wp2;exact HFIN.out
 case done=>
  rintro S ys W hys ⟨⟨hbx,⟨r0,hbr⟩,hSv⟩,hall⟩ hK hnS hf;rw[hys] at hall;have HNO:=zz (HHB.out.trans hall);clear hall;have eB:=AJ W (w.heap.size+1) 0 _ _ (0,0) hbr;simp at eB;have fB:W.frozen? ⟨w.heap.size+1,0,none⟩=false:=by simp[World.frozen?,hbr]
  have hl2:=(Ab.1 hbr).1;have hne:¬w.heap.size+1=W1.heap.size:=by omega
  have hK2:(W.setCell ⟨w.heap.size+1,0,none⟩ (.bool false)).heap[W1.heap.size]? =some (.deferred (some [])):=(Below.heap_setCell W ⟨w.heap.size+1,0,none⟩ (.bool false) W1.heap.size (fun e=>hne e.symm)).trans hK;have hfs:=hf.set (p:=⟨w.heap.size+1,0,none⟩) (.inl (.inl (.inr rfl))) (.bool false);have hbs:(W.setCell ⟨w.heap.size+1,0,none⟩ (.bool false)).heap[w.heap.size+1]? =some (.cells #[.bool false] 4 (0,0)):=heap_setCell_same hbr _;have hpf:=CV (W.setCell ⟨w.heap.size+1,0,none⟩ (.bool false)) W1.heap.size (.deferred none);have hcell:((W.setCell ⟨w.heap.size+1,0,none⟩ (.bool false)).putObj W1.heap.size (.deferred none)).cell? ⟨w.heap.size+1,0,none⟩=some (.bool false):=by
   have:=AJ _ (w.heap.size+1) 0 _ _ (0,0) (hpf.at_ hbs hne);simpa using this
  have HFIN:=zz (show Below w.heap.size w ((W.setCell ⟨w.heap.size+1,0,none⟩ (.bool false)).putObj W1.heap.size (.deferred none)) from by
   have h1:=HB1.out.trans ((hfs.imp (D':=fun q=>w.heap.size≤q) (fun q _ e=>by rcases e with(e|e)|e|e <;>omega)).below' (by omega));exact h1.trans ((hpf.imp (D':=fun q=>w.heap.size≤q) (fun q _ e=>by omega)).below' h1.size))
  clear hbx hbr hSv hf hfs hbs hpf;gi_wp2;refine⟨by simp,.inl ⟨_,_,rfl,run_takeDeferred hK2, ?_⟩⟩;refine⟨.bool false, ?_,AQ HNO.out.symm,HFIN.out⟩
  simp[results,Tryz.results21,go_sem,hcell]
 case stop=>
  rintro c S pre W hpre ⟨rfl,⟨hbx,-,hSv⟩,hbr,hno⟩ hK hnS hf;have HNO:=zz hno;have hne:¬w.heap.size+1=W1.heap.size:=by omega
  have hpf:=CV W W1.heap.size (.deferred none);have hcell:(W.putObj W1.heap.size (.deferred none)).cell? ⟨w.heap.size+1,0,none⟩=some (.bool true):=by
   have:=AJ _ (w.heap.size+1) 0 _ _ (0,0) (hpf.at_ hbr hne);simpa using this
  have HFIN:=zz (show Below w.heap.size w (W.putObj W1.heap.size (.deferred none)) from by
   have h1:=HB1.out.trans ((hf.imp (D':=fun q=>w.heap.size≤q) (fun q _ e=>by rcases e with(e|e)|e|e <;>omega)).below' (by omega));exact h1.trans ((hpf.imp (D':=fun q=>w.heap.size≤q) (fun q _ e=>by omega)).below' h1.size))
  clear hbx hbr hSv hf hpf hno;gi_wp2;refine⟨by simp,.inl ⟨_,_,rfl,run_takeDeferred hK, ?_⟩⟩;refine⟨.bool true, ?_,AQ HNO.out.symm,HFIN.out⟩
  simp[results,Tryz.results21,go_sem,hcell]
end Go.Proofs.YtijhlanclfajiaaGreatDoor
namespace Hg
theorem BC.wants{M:Nat→Option Node}{n:Node}(hk:BC M n)(abv:Nat→Nat)(id:Nat)(h19:n.kind≠19):(Cs M abv id n).length≤n.kids.length:=by
 unfold BC at hk;unfold Cs JR;by_cases k6:n.kind=6
 ·rw[if_pos k6];simp;omega
 rw[if_neg k6];by_cases k7:n.kind=7
 ·rw[if_pos k7];simp;omega
 rw[if_neg k7];by_cases k8:n.kind=8∨n.kind=9∨n.kind=16
 ·rw[if_pos k8];simp;omega
 rw[if_neg k8];by_cases k17:n.kind=17
 ·rw[if_pos k17];simp;omega
 rw[if_neg k17];by_cases k10:n.kind=10
 ·rw[if_pos k10];simp;omega
 rw[if_neg k10];by_cases k18:n.kind=18
 ·rw[if_pos k18]
  split
  ·simp;omega
  ·split <;>(simp;omega)
 rw[if_neg k18,if_neg h19];simp
end Hg
namespace Go.Proofs.YtijhlanclfajiaaGreatDoor
open Go.RowKit
open Hg (GT gl wk isK ndAt Bf KB ED Cs okT H9 RB dupB Ey Nq BC)
structure Po (M:Nat→Option Hg.Node) (par:Nat→Nat×Int) (dp:Bool) (abv:Nat→Nat) (F F2:Nat) (xs:List (Nat×Hg.Node)) (sn:Nat→List Nat) (nms:Nat→List Hg.Str):Prop where
 text:Xg M par dp F xs
 clash:Nq M nms
 f2:F2≤1000000
 seen:∀x∈xs,ED M par F2 x.1 [] []=some (sn x.1)∧(sn x.1).length≤1000000
 abo:RY M abv
 rb:RB M
 id:∀x∈xs,x.1≤1000000
noncomputable def Kr(M:Nat→Option Hg.Node)(par:Nat→Nat×Int)(dp:Bool)(abv:Nat→Nat)(xs:List (Nat×Hg.Node))(sn:Nat→List Nat)(nms:Nat→List Hg.Str):Nat:=
 if shpB M par dp xs=false then 2 else if Ey M nms=true then 10 else if xs.any (hidK sn)=true then 9 else if xs.all (okT M abv)=false then 11 else if H9 M=0 then 3 else 0
theorem QQ{M:Nat→Option Hg.Node}{par:Nat→Nat×Int}{x:Nat×Hg.Node}(h:rowB M par x=true):BC M x.2:=by
 unfold rowB at h;simp only[Bool.and_eq_true] at h;exact FK.1 h.2.2.1
theorem Rs(ab:Nat)(M:Nat→Option Hg.Node)(par:Nat→Nat×Int)(dp:Bool)(abv:Nat→Nat)(F F2:Nat)(xs:List (Nat×Hg.Node))(sn:Nat→List Nat)(nms:Nat→List Hg.Str)(w:World)(hA:ArOk w ab M)(hT:DX w)(hR:Po M par dp abv F F2 xs sn nms):
 Calls Tryz.prog 8 #[.pointer (some ⟨ab,0,none⟩)] w fun e w'=>e= .returned (.int .i64 (Kr M par dp abv xs sn nms:Int))∧Below w.heap.size w w':=by
 have T1:=zz (QN ab M par dp F xs w hA hT hR.text);have T2:=zz (fun W (h:Below w.heap.size w W)=>Sv ab M nms W (hA.below h) hR.clash);have T3:=zz (fun W (h:Below w.heap.size w W)=>Qz ab M par hR.text.prs F F2 xs W (hA.below h) hR.text.walk hR.text.f hR.f2 hR.text.id sn hR.seen);have T4:=zz (fun(hs:shpB M par dp xs=true) W (h:Below w.heap.size w W)=>UO ab M abv hR.abo hR.rb F xs W (hA.below h) hR.text.walk hR.text.f hR.id (fun x hx h18=>by
  have hk:=QQ (List.all_eq_true.1 (FU.1 hs).2.1 x hx);unfold BC at hk;omega) (fun x hx h19=>(QQ (List.all_eq_true.1 (FU.1 hs).2.1 x hx)).wants abv x.1 h19))
 have T5:=zz (fun W (h:Below w.heap.size w W)=>NE ab M W (hA.below h));obtain⟨rv,hrv⟩:∃r,r=Kr M par dp abv xs sn nms:=⟨_,rfl⟩;rw[←hrv];unfold Kr at hrv;generalize shpB M par dp xs=b1 at hrv T1 T4;generalize Ey M nms=b2 at hrv T2;generalize xs.any (hidK sn)=b3 at hrv T3;generalize xs.all (okT M abv)=b4 at hrv T4;generalize H9 M=mk at hrv T5;have HRV:=zz hrv;clear hA hT hR hrv;go_enter Tryz.func8,Tryz.ntmps8;go_wp2_with fail;refine T1.out.mono ?_;rintro e w1 ⟨rfl,hb1⟩;have HB1:=zz hb1;clear T1 hb1;cases b1 with
 |false=>
   have HF:=zz (show rv=2 from HRV.out);go_wp2;go_ret;exact⟨by rw[HF.out];rfl,HB1.out⟩
 |true=>
 have T6:=zz (T4.out rfl);clear T4;go_wp2_with fail;refine(T2.out _ HB1.out).mono ?_;rintro e w2 ⟨rfl,hb2⟩;have HB2:=zz (HB1.out.trans (hb2.mono HB1.out.size));clear T2 hb2;cases b2 with
 |true=>
   have HF:=zz (show rv=10 from HRV.out);go_wp2;go_ret;exact⟨by rw[HF.out];rfl,HB2.out⟩
 |false=>
 go_wp2_with fail;refine(T3.out _ HB2.out).mono ?_;rintro e w3 ⟨rfl,hb3⟩;have HB3:=zz (HB2.out.trans (hb3.mono HB2.out.size));clear T3 hb3;cases b3 with
 |true=>
   have HF:=zz (show rv=9 from HRV.out);go_wp2;go_ret;exact⟨by rw[HF.out];rfl,HB3.out⟩
 |false=>
 go_wp2_with fail;refine(T6.out _ HB3.out).mono ?_;rintro e w4 ⟨rfl,hb4⟩;have HB4:=zz (HB3.out.trans (hb4.mono HB3.out.size));clear T6 hb4;cases b4 with
 |false=>
   have HF:=zz (show rv=11 from HRV.out);go_wp2;go_ret;exact⟨by rw[HF.out];rfl,HB4.out⟩
 |true=>
 go_wp2_with fail;refine(T5.out _ HB4.out).mono ?_;rintro e w5 ⟨rfl,hb5⟩;have HB5:=zz (HB4.out.trans (hb5.mono HB4.out.size));clear T5 hb5;by_cases h0:mk=0
 ·subst h0
  have HF:=zz (show rv=3 from HRV.out);go_wp2;go_ret;exact⟨by rw[HF.out];rfl,HB5.out⟩
 ·have q0:((mk:Int)==0)=false:=by simp;omega
  have HF:=zz (show rv=0 from HRV.out.trans (by simp[h0]));clear h0;go_wp2;go_ret;exact⟨by rw[HF.out];rfl,HB5.out⟩
end Go.Proofs.YtijhlanclfajiaaGreatDoor
namespace Hg
open Go.Proofs.YtijhlanclfajiaaGreatDoor (DK Gy Ht DecR Po Xg Aj)
def snL(l:List Row)(i:Nat):List Nat:=(ED (rowM l) (parR l) 20001 i [] []).getD []
def nmL(l:List Row)(f:Nat):List Str:=Bh ((wk (rowM l) (BF l+2) [f] []).getD [])
theorem KN:∀l:List Row,BF l=(l.flatMap fun r=>r.node.kids).length
 |[]=>rfl
 |r::l=>by rw[DZ,KN l];simp
theorem Ul{l:List Row}(hT:Tr l)(hl:l.length≤20000)(h0:0 < l.length)(href:∀r∈l,r.node.ref < 18446744073709551616)(hnm:∀r∈l,r.node.name.length≤1000000)(hk:∀r∈l,r.node.kind≤255):
 ∃dp xs,(dp=true↔0 < CQ l 200 1)∧wk (rowM l) (BF l+2) [1] []=some xs∧Po (rowM l) (parR l) dp (abvR l) (BF l+2) 20001 xs (snL l) (nmL l):=by
 have hR:=hT.rows hl;have hM:=hT.trM hl h0;obtain⟨F,ot,htr,hdp⟩:=Vs hT hl h0 href;obtain⟨xs,hw,_⟩:=MF l 1;have hks:BF l+2≤1000000:=by
  have:=hT.perm.length_eq;rw[List.length_range'] at this;rw[KN];omega
 have hrow:∀x∈xs,∃r∈l,r.id=x.1∧r.node=x.2:=fun x hx=>(BS hR).1 (EZ _ _ _ _ _ hw x hx);have hid:∀x∈xs,x.1≤20000:=fun x hx=>by
  have:=(hM.dom x.1).1 (by rw[EZ _ _ _ _ _ hw x hx];rfl);omega
 refine⟨ot.isSome,xs,hdp,hw,⟨⟨Gy hR,⟨F,ot,htr,rfl⟩,hw,hks,fun x hx=> ?_,fun x hx=> ?_,fun x hx=> ?_⟩,fun m _ f _=> ?_,by omega,fun x hx=> ?_,Ht hR (fun r hr=> ?_) hk,fun i nd hi=> ?_,fun x hx=> ?_⟩⟩
 ·have:=hid x hx;show x.1 < 18446744073709551616;omega
 ·obtain⟨r,hr,_,e⟩:=hrow x hx;rw[←e];exact href r hr
 ·obtain⟨r,hr,_,e⟩:=hrow x hx;rw[←e];exact hnm r hr
 ·obtain⟨ys,hy,_⟩:=MF l f
  exact⟨_,ys,hy,hks,by unfold nmL;rw[hy];rfl⟩
 ·obtain⟨R,hR1,hR2⟩:=Mq hT hl h0 20001 x.1 [] [] (by have:=hid x hx;omega) (fun s hs=>by cases hs)
  have hb:=SH hT hl h0 x.1;refine⟨by unfold snL;rw[hR1];rfl, ?_⟩;unfold snL;rw[hR1];simp only[List.length_nil] at hR2;show R.length≤1000000;omega
 ·rcases DK hR r.id with⟨h1,_,_⟩|⟨_,_,⟨b,hb,_,_⟩,_⟩
  ·exact .inr h1
  ·exact .inl (WM hT hl h0 hb)
 ·exact htr.refs i nd hi
 ·have:=hid x hx;omega
end Hg
namespace Hg
structure Sh (l:List Row):Prop where
 tr:Tr l
 len:l.length≤20000
 name:∀r∈l,r.node.name.length≤1000000
 num:∀r∈l,r.node.num≤9223372036854775807
 shaped:shaped l=some true
section
variable {l:List Row} (h:Sh l)
include h
theorem Sh.pos:0 < l.length:=by
 have ht:=(FV h.shaped).1;unfold tree at ht;cases l with
 |nil=>simp[atI] at ht
 |cons _ _=>simp
theorem Sh.trM:TrM (rowM l) l.length:=h.tr.trM h.len h.pos
theorem Sh.rows:Fq l:=h.tr.rows h.len
theorem Sh.row{i:Nat}{a:Node}(ha:rowM l i=some a):∃r∈l,r.id=i∧r.node=a∧UI l r:=by
 obtain⟨r,hr,h1,h2⟩:=(BS h.rows).1 ha;exact⟨r,hr,h1,h2,Jb ((FV h.shaped).2.1 r hr)⟩
theorem Sh.kids{i:Nat}{a:Node}(ha:rowM l i=some a):BC (rowM l) a:=by
 obtain⟨r,_,_,rfl,ho⟩:=h.row ha;exact Ie ho.fit ho.hi ho.lo
theorem Sh.kidK{i:Nat}{a:Node}(ha:rowM l i=some a){j k:Nat}(hj:a.kids[j]? =some k):
 (kindOf l k=6→a.kind=5)∧(kindOf l k=4→a.kind=3)∧(a.kind=1→kindOf l k=2)∧(a.kind=2→kindOf l k=3)∧(3≤a.kind→4≤kindOf l k):=by
 obtain⟨hlt,he⟩:=Af.1 hj;have hk:kindOf l k=kk (rowM l) a j:=by rw[←LD];simp[List.getD,hj]
 rw[hk];obtain⟨r,_,_,rfl,ho⟩:=h.row ha;have hlo:=ho.lo;have hhi:=ho.hi;have hK:=h.kids ha;unfold BC at hK;rcases hK with⟨a1,a2⟩|⟨a1,a2⟩|⟨a1,a2,a3,a4⟩|⟨a1,a2⟩|⟨a1,a2,a3,a4⟩|⟨a1,a2,a3,a4,a5⟩|⟨a1,a2,a3,a4⟩|⟨a1,a2,a3⟩|⟨a1,a2,a3⟩|⟨a1,a2,a3,a4⟩|⟨a1,a2⟩|⟨a1,a2⟩
 ·have:=a2 j hlt;omega
 ·have:=a2 j hlt;omega
 ·by_cases e:j=r.node.kids.length-1
  ·rw[e,a4];omega
  ·have:=a3 j (by omega);omega
 ·omega
 ·by_cases e:j=r.node.kids.length-1
  ·rw[e];unfold stP at a4;omega
  ·have:=a3 j (by omega);unfold stP at this;omega
 ·unfold exP at a3
  match j,hlt with
  |0,_=>omega
  |1,_=>omega
  |2,_=>omega
  |n+3,hlt=>omega
 ·unfold exP at a3
  match j,hlt with
  |0,_=>omega
  |1,_=>omega
  |n+2,hlt=>omega
 ·obtain rfl:j=0:=by omega
  omega
 ·obtain rfl:j=0:=by omega
  unfold exP at a3;omega
 ·unfold exP at a3 a4
  match j,hlt with
  |0,_=>omega
  |1,_=>omega
  |n+2,hlt=>omega
 ·have:=a2 j hlt;unfold exP at this;omega
 ·omega
end
end Hg
namespace Hg
open Go.Proofs.YtijhlanclfajiaaGreatDoor (idxI Dx DK Gy Ht DecR UJ Nn WG MV Aj)
theorem Jy(l:List Row)(id:Nat):typeOf l id=CS (rowM l) id:=by
 unfold typeOf CS;simp only[AU];by_cases h1:(AL l id).kind=13∨(AL l id).kind=17∨(AL l id).kind=20
 ·rw[if_pos h1,if_pos h1]
 rw[if_neg h1,if_neg h1];by_cases h2:(AL l id).kind=14∨(AL l id).kind=16
 ·rw[if_pos h2,if_pos h2]
 rw[if_neg h2,if_neg h2];by_cases h3:(AL l id).kind=18
 ·rw[if_pos h3,if_pos h3]
  by_cases h4:5 < (AL l id).num
  ·rw[if_pos h4,if_neg (by omega)]
  ·rw[if_neg h4,if_pos (by omega)]
 rw[if_neg h3,if_neg h3]
theorem Dq{l:List Row}{n:Node}{i want:Nat}(h:Be l n i want=false):CS (rowM l) (n.kids.getD i 0)=want:=by
 unfold Be at h;rw[←Jy];simpa using h
theorem Lh{l:List Row}{n:Node}:∀(p:List Nat) (i:Nat),Dg l n i p=false→∀j t,p[j]? =some t→CS (rowM l) (n.kids.getD (i+j) 0)=t
 |[],i,_,j,t,ht=>by simp at ht
 |x::p,i,h,j,t,ht=>by
   unfold Dg at h;simp only[Bool.or_eq_false_iff] at h;cases j with
   |zero=>simp at ht;subst ht;exact Dq h.1
   |succ j=>
     have:=Lh p (i+1) h.2 j t (by simpa using ht);rw[show i+(j+1)=i+1+j by omega];exact this
theorem ET(l:List Row)(id kind:Nat)(hk:kind≠0):Bf (rowM l) id kind=(AL l id).kids.filter fun k=>kindOf l k==kind:=by
 unfold Bf;rw[AU]
 congr 1
 funext k
 unfold isK kindOf;rw[←AU];unfold ndAt;cases rowM l k with
 |none=>simp[Node.zero,Ne.symm hk]
 |some a=>rfl
theorem Jd(l:List Row)(f:Nat):BV l f=(Bf (rowM l) f 4).map fun p=>(ndAt (rowM l) p).type:=by
 unfold BV;rw[ET l f 4 (by decide)];refine List.map_congr_left fun k _=> ?_;rw[AU]
section
variable {l:List Row} (h:Rt l)
include h
theorem Rt.okT{x:Nat}{a:Node}(ha:rowM l x=some a):okT (rowM l) (abvR l) (x,a)=true:=by
 rw[MI];dsimp only;obtain⟨r,hr,hid,hra,ho⟩:=h.row ha;have hlo:=ho.lo;have hhi:=ho.hi;rw[hra] at hlo hhi;by_cases h3:3≤a.kind
 ·obtain⟨m,S,fn,A,hV,_,_,_,hab⟩:=h.inFn x a ha h3
  have hn:=hV.node.2.1;rw[←AU,Ar ha] at hn;have habv:abvR l x=fn:=hab (x+1) (Nat.lt_succ_self _);unfold BD at hn;unfold Cs;have one:∀{t:Nat},CS (rowM l) (a.kids.getD 0 0)=t→∀(i u:Nat),([t]:List Nat)[i]? =some u→CS (rowM l) (a.kids.getD i 0)=u:=fun e i u hu=>by
   cases i with
   |zero=>simp at hu;rw[←hu];exact e
   |succ i=>simp at hu
  by_cases k6:a.kind=6
  ·rw[if_pos k6] at hn⊢;exact⟨fun e=>by omega,one (Dq hn)⟩
  rw[if_neg k6] at hn⊢;by_cases k7:a.kind=7
  ·rw[if_pos k7] at hn⊢;exact⟨fun e=>by omega,one (by rw[AU];exact Dq hn)⟩
  rw[if_neg k7] at hn⊢;by_cases k8:a.kind=8∨a.kind=9∨a.kind=16
  ·rw[if_pos k8] at hn⊢;exact⟨fun e=>by omega,one (Dq hn)⟩
  rw[if_neg k8] at hn⊢;by_cases k10:a.kind=10
  ·rw[if_pos k10] at hn;rw[if_neg (by omega),if_pos k10]
   exact⟨fun e=>by omega,one (by rw[habv,AU];exact Dq hn)⟩
  rw[if_neg k10] at hn;by_cases k17:a.kind=17
  ·rw[if_pos k17] at hn⊢;exact⟨fun e=>by omega,one (Dq hn)⟩
  rw[if_neg k17] at hn⊢;rw[if_neg k10];by_cases k18:a.kind=18
  ·rw[if_pos k18] at hn⊢
   refine⟨fun e=>by omega, ?_⟩;simp only[Bool.or_eq_false_iff] at hn;obtain⟨n0,n1⟩:=hn;have n0:=Dq n0;have n1:=Dq n1;unfold JR;have two:∀{t:Nat},CS (rowM l) (a.kids.getD 0 0)=t→CS (rowM l) (a.kids.getD 1 0)=t→∀(i u:Nat),([t,t]:List Nat)[i]? =some u→CS (rowM l) (a.kids.getD i 0)=u:=fun e e' i u hu=>by
    match i,hu with
    |0,hu=>simp at hu;rw[←hu];exact e
    |1,hu=>simp at hu;rw[←hu];exact e'
    |i+2,hu=>simp at hu
   by_cases c1:a.num≤9
   ·rw[if_pos c1]
    rw[if_neg (by omega),if_pos (by omega)] at n0 n1;exact two n0 n1
   ·rw[if_neg c1]
    by_cases c2:a.num≤11
    ·rw[if_pos c2]
     rw[if_pos (by omega)] at n0 n1;rw[Jy] at n1;exact two rfl n1
    ·rw[if_neg c2]
     rw[if_neg (by omega),if_neg (by omega)] at n0 n1;exact two n0 n1
  rw[if_neg k18] at hn⊢;by_cases k19:a.kind=19
  ·rw[if_pos k19] at hn⊢
   rw[←Jd];by_cases hl:(BV l a.ref).length≠a.kids.length
   ·simp only[if_pos hl] at hn;cases hn
   ·simp only[if_neg hl] at hn
    refine⟨fun _=>Classical.not_not.1 hl,fun i t ht=> ?_⟩;have:=Lh _ 0 hn i t ht
    rwa[Nat.zero_add] at this
  rw[if_neg k19];exact⟨fun e=>absurd e k19,fun i t ht=>by simp at ht⟩
 ·unfold Cs
  rw[if_neg (by omega),if_neg (by omega),if_neg (by omega),if_neg (by omega),if_neg (by omega),if_neg (by omega),if_neg (by omega)];exact⟨fun e=>by omega,fun i t ht=>by simp at ht⟩
theorem Rt.root:∃a,rowM l 1=some a∧a.kind=1:=by
 obtain⟨a,ha⟩:=Option.isSome_iff_exists.1 ((h.trM.dom 1).2 ⟨AA,h.pos⟩);obtain⟨r,_,h1,rfl,ho⟩:=h.row ha;exact⟨_,ha,ho.root.2 h1⟩
theorem Rt.mods:Bj (rowM l)=(AL l 1).kids:=by
 obtain⟨a,ha,hk⟩:=h.root;unfold Bj;rw[ET l 1 2 (by decide),List.filter_eq_self];intro k hkm;rw[←AU,Ar ha] at hkm;obtain⟨j,hj⟩:=List.getElem?_of_mem hkm;simpa using(h.kidK ha hj).2.2.1 hk
theorem Rt.modKind{m:Nat}(hm:m∈(AL l 1).kids):∃b,rowM l m=some b∧b.kind=2:=by
 obtain⟨a,ha,hk⟩:=h.root;rw[←AU,Ar ha] at hm;obtain⟨j,hj⟩:=List.getElem?_of_mem hm;have h2:=(h.kidK ha hj).2.2.1 hk;have:=h.trM.kid 1 a ha m hm;obtain⟨b,hb⟩:=Option.isSome_iff_exists.1 ((h.trM.dom m).2 (by omega));refine⟨b,hb, ?_⟩;unfold kindOf at h2
 rwa[←AU,Ar hb] at h2
theorem Rt.funcs{m:Nat}(hm:m∈(AL l 1).kids):BI (rowM l) m=(AL l m).kids:=by
 obtain⟨b,hb,hk⟩:=h.modKind hm;unfold BI;rw[ET l m 3 (by decide),List.filter_eq_self];intro k hkm;rw[←AU,Ar hb] at hkm;obtain⟨j,hj⟩:=List.getElem?_of_mem hkm;simpa using(h.kidK hb hj).2.2.2.1 hk
omit h in
theorem YO{l:List Row}{f:Nat}{xs:List (Nat×Node)}(hw:wk (rowM l) (BF l+2) [f] []=some xs)(hx:walk l f=xs.map Prod.fst):Bh xs=CW l f:=by
 have hm:=EZ _ _ _ _ _ hw;unfold Bh CW;rw[hx];clear hw hx
 induction xs with
 |nil=>rfl
 |cons x xs ih=>
   have e:AL l x.1=x.2:=by rw[←AU,Ar (hm x (by simp))]
   have ih:=ih fun y hy=>hm y (List.mem_cons_of_mem _ hy);rw[List.map_cons,List.filter_cons,List.filter_cons];unfold kindOf at ih⊢;rw[e];by_cases c:(x.2.kind==4||x.2.kind==6)=true
   ·rw[if_pos c,if_pos c,List.map_cons,List.map_cons,ih,e]
   ·rw[if_neg c,if_neg c,ih]
theorem Rt.dec:DecR l:=fun r hr=>by
 rcases DK h.rows r.id with⟨h1,_,_⟩|⟨h1,_,⟨b,hb,he,h5⟩,_⟩
 ·exact .inr h1
 ·exact .inl (h.trM.kid _ b hb r.id ((DW _ _).1 (by rw[he];exact h5))).1
theorem Rt.ref{i:Nat}{a:Node}(ha:rowM l i=some a):a.ref=0∨(1≤a.ref∧a.ref≤l.length):=by
 obtain⟨F,R,hK⟩:∃m,CG l l 0=some m∧True:=by
  have ht:=(FV h.shaped).1;unfold tree at ht;cases h1:atI l 1 with
  |none=>rw[h1] at ht;cases ht
  |some k=>
    rw[h1] at ht;dsimp only at ht;by_cases hc:(rowAt l k).node.kind≠1∨(walk l 1).length≠l.length
    ·rw[if_pos hc] at ht;cases ht
    rw[if_neg hc] at ht;cases h2:CG l l 0 with
    |none=>rw[h2] at ht;cases ht
    |some m=>exact⟨m,rfl,trivial⟩
 obtain⟨r,hr,_,rfl,_⟩:=h.row ha;rcases Jz l l 0 F R r hr with e|e
 ·exact .inl e
 ·have:=(MS l r.node.ref).1 e
  rw[h.tr.ids,List.mem_range'_1] at this;exact .inr (by omega)
theorem Rt.parts{i:Nat}{a:Node}(ha:rowM l i=some a):MV (rowM l) a:=by
 have href:=h.ref ha;obtain⟨r,hr,hid,rfl,ho⟩:=h.row ha;have hlen:=h.len;have hnum:=h.num r hr;refine⟨by omega,h.name r hr, ?_⟩;have hlo:=ho.lo;have hhi:=ho.hi;have hno:isNamed r.node.kind=false→r.node.name=[]∧r.node.type=0:=fun e=>by
  have h1:=ho.named;rw[e] at h1;refine⟨by simpa using h1.symm,ho.notype (by rw[e];rfl)⟩
 have nn:r.node.kind≠2→r.node.kind≠3→r.node.kind≠4→r.node.kind≠6→isNamed r.node.kind=false:=fun a b c d=>by unfold isNamed;simp[a,b,c,d]
 have yes:isNamed r.node.kind=true→r.node.name≠[]∧Go.Proofs.YtijhlanclfajiaaGreatDoor.Ga r.node.name=true:=fun e=>by
  have h1:=ho.named;rw[e] at h1;obtain⟨n1,n2⟩:=ho.name e;refine⟨by simpa using h1.symm, ?_⟩;unfold Go.Proofs.YtijhlanclfajiaaGreatDoor.Ga;rw[n1,n2];rfl
 have kr:∀k,(ndAt (rowM l) k).kind=kindOf l k:=fun k=>by unfold kindOf;rw[AU]
 rw[kr];by_cases k2:r.node.kind=2
 ·have y:=yes (by rw[k2];rfl)
  exact .inl ⟨k2,y.1,y.2,ho.notype (by rw[k2];rfl),ho.num0 (by omega) (by omega) (by omega),ho.ref0 (by omega) (by omega) (by omega)⟩
 by_cases k3:r.node.kind=3∨r.node.kind=4∨r.node.kind=6
 ·have hn:isNamed r.node.kind=true:=by rcases k3 with e|e|e <;>rw[e] <;>rfl
  have y:=yes hn;have t:=ho.typed;rw[hn] at t
  simp[k2] at t
  exact .inr (.inl ⟨k3,y.1,y.2,t,ho.num0 (by omega) (by omega) (by omega),ho.ref0 (by omega) (by omega) (by omega)⟩)
 obtain⟨n1,n2⟩:=hno (nn k2 (by omega) (by omega) (by omega));by_cases k7:r.node.kind=7∨r.node.kind=15
 ·have hk:=ho.ref7 k7
  refine .inr (.inr (.inl ⟨k7,n1,n2,ho.num0 (by omega) (by omega) (by omega),fun e=> ?_,hk⟩));rw[e] at hk;have:kindOf l 0=0:=by rw[←kr];unfold ndAt;rw[Dh h.rows];rfl
  omega
 by_cases k19:r.node.kind=19
 ·have hk:=ho.ref19 k19
  refine .inr (.inr (.inr (.inl ⟨k19,n1,n2,ho.num0 (by omega) (by omega) (by omega),fun e=> ?_,hk⟩)));rw[e] at hk;have:kindOf l 0=0:=by rw[←kr];unfold ndAt;rw[Dh h.rows];rfl
  omega
 have h0:=ho.ref0 (by omega) (by omega) k19;by_cases k13:r.node.kind=13
 ·exact .inr (.inr (.inr (.inr (.inl ⟨k13,n1,n2,⟨ho.num13 k13,hnum⟩,h0⟩))))
 by_cases k14:r.node.kind=14
 ·exact .inr (.inr (.inr (.inr (.inr (.inl ⟨k14,n1,n2,ho.num14 k14,h0⟩)))))
 by_cases k18:r.node.kind=18
 ·exact .inr (.inr (.inr (.inr (.inr (.inr (.inl ⟨k18,n1,n2,ho.num18 k18,h0⟩))))))
 exact .inr (.inr (.inr (.inr (.inr (.inr (.inr ⟨by omega,n1,n2,ho.num0 k13 k14 k18,h0⟩))))))
omit h in
theorem Ib(l:List Row)(m:Nat)(mod fn:Str):∀fs:List Nat,GI l m mod fn fs=Gf (rowM l) mod fn m fs
 |[]=>rfl
 |f::fs=>by
   unfold GI Gf Ce;rw[List.find?_cons,AU,AU];by_cases c:(AL l m).name=mod∧(AL l f).name=fn
   ·rw[if_pos c,c.1,c.2];simp
   ·rw[if_neg c]
    have:((AL l m).name==mod && (AL l f).name==fn)=false:=by
     cases hb:((AL l m).name==mod && (AL l f).name==fn) with
     |false=>rfl
     |true=>simp at hb;exact absurd hb c
    rw[this];have ih:=Ib l m mod fn fs;unfold Gf Ce at ih;rw[ih,AU]
theorem Rt.MN(mod fn:Str):∀ms:List Nat,(∀m∈ms,m∈(AL l 1).kids)→funcOf l mod fn ms=(Er (rowM l) mod fn ms).getD 0∧∀f,Er (rowM l) mod fn ms=some f→∃m∈ms,f∈(AL l m).kids
 |[],_=>⟨rfl,fun f hf=>by cases hf⟩
 |m::ms,hm=>by
   obtain⟨ih1,ih2⟩:=Rt.MN mod fn ms fun x hx=>hm x (List.mem_cons_of_mem _ hx);unfold funcOf Er;rw[Ib,h.funcs (hm m (by simp))];cases hf:Gf (rowM l) mod fn m (AL l m).kids with
   |none=>
     refine⟨ih1,fun f hf=> ?_⟩;obtain⟨x,hx,hx2⟩:=ih2 f hf;exact⟨x,List.mem_cons_of_mem _ hx,hx2⟩
   |some f=>exact⟨rfl,fun g hg=>by injection hg with hg;subst hg;exact⟨m,by simp,LK hf⟩⟩
end
end Hg
namespace Hg
section
variable {l:List Row} (h:Sh l)
include h
theorem Sh.root:∃a,rowM l 1=some a∧a.kind=1:=by
 obtain⟨a,ha⟩:=Option.isSome_iff_exists.1 ((h.trM.dom 1).2 ⟨AA,h.pos⟩);obtain⟨r,_,h1,rfl,ho⟩:=h.row ha;exact⟨_,ha,ho.root.2 h1⟩
theorem Sh.mods:Bj (rowM l)=(AL l 1).kids:=by
 obtain⟨a,ha,hk⟩:=h.root;unfold Bj;rw[ET l 1 2 (by decide),List.filter_eq_self];intro k hkm;rw[←AU,Ar ha] at hkm;obtain⟨j,hj⟩:=List.getElem?_of_mem hkm;simpa using(h.kidK ha hj).2.2.1 hk
theorem Sh.modKind{m:Nat}(hm:m∈(AL l 1).kids):∃b,rowM l m=some b∧b.kind=2:=by
 obtain⟨a,ha,hk⟩:=h.root;rw[←AU,Ar ha] at hm;obtain⟨j,hj⟩:=List.getElem?_of_mem hm;have h2:=(h.kidK ha hj).2.2.1 hk;have:=h.trM.kid 1 a ha m hm;obtain⟨b,hb⟩:=Option.isSome_iff_exists.1 ((h.trM.dom m).2 (by omega));refine⟨b,hb, ?_⟩;unfold kindOf at h2
 rwa[←AU,Ar hb] at h2
theorem Sh.funcs{m:Nat}(hm:m∈(AL l 1).kids):BI (rowM l) m=(AL l m).kids:=by
 obtain⟨b,hb,hk⟩:=h.modKind hm;unfold BI;rw[ET l m 3 (by decide),List.filter_eq_self];intro k hkm;rw[←AU,Ar hb] at hkm;obtain⟨j,hj⟩:=List.getElem?_of_mem hkm;simpa using(h.kidK hb hj).2.2.2.1 hk
theorem Sh.MN(mod fn:Str):∀ms:List Nat,(∀m∈ms,m∈(AL l 1).kids)→funcOf l mod fn ms=(Er (rowM l) mod fn ms).getD 0∧∀f,Er (rowM l) mod fn ms=some f→∃m∈ms,f∈(AL l m).kids
 |[],_=>⟨rfl,fun f hf=>by cases hf⟩
 |m::ms,hm=>by
   obtain⟨ih1,ih2⟩:=Sh.MN mod fn ms fun x hx=>hm x (List.mem_cons_of_mem _ hx);unfold funcOf Er;rw[Ib,h.funcs (hm m (by simp))];cases hf:Gf (rowM l) mod fn m (AL l m).kids with
   |none=>
     refine⟨ih1,fun f hf=> ?_⟩;obtain⟨x,hx,hx2⟩:=ih2 f hf;exact⟨x,List.mem_cons_of_mem _ hx,hx2⟩
   |some f=>exact⟨rfl,fun g hg=>by injection hg with hg;subst hg;exact⟨m,by simp,LK hf⟩⟩
theorem Sh.main_eq:IX l=H9 (rowM l):=by
 obtain⟨e1,_⟩:=h.MN Ci Ci (AL l 1).kids fun m hm=>hm;unfold IX H9 Ia;rw[h.mods];dsimp only;rw[e1];generalize(Er (rowM l) Ci Ci (AL l 1).kids).getD 0=f;cases hf:rowM l f with
 |none=>
   have hn:AL l f=Node.zero:=by rw[←AU];unfold ndAt;rw[hf];rfl
   rw[if_pos (.inr (.inl (by rw[hn];decide)))]
 |some a=>
   have hn:AL l f=a:=by rw[←AU,Ar hf]
   have hp:(BV l f).length=(Bf (rowM l) f 4).length:=by rw[Jd,List.length_map]
   rw[hn,hp];dsimp only;have hf0:f≠0:=fun e=>by rw[e,Dh h.rows] at hf;cases hf
   by_cases hc:a.type=1∧(Bf (rowM l) f 4).length=0
   ·rw[if_pos hc,if_neg (by omega)]
   ·rw[if_neg hc,if_pos (by omega)]
end
end Hg
namespace Hg
open Go.Proofs.YtijhlanclfajiaaGreatDoor (idxI Dx DK)
inductive VR (l:List Row):Nat→List Nat→Nat→List Nat→Prop
 |here (i:Nat) (s:List Nat):VR l i s i s
 |kid {i:Nat} {s:List Nat} {j k x:Nat} {S:List Nat} (h:(AL l i).kids[j]? =some k) (h2:VR l k (s++((AL l i).kids.take j).filter (visible l)) x S):VR l i s x S
theorem VR.snoc{l:List Row}{i:Nat}{s:List Nat}{x:Nat}{S:List Nat}(h:VR l i s x S){j k:Nat}(hk:(AL l x).kids[j]? =some k):VR l i s k (S++((AL l x).kids.take j).filter (visible l)):=by
 induction h with
 |here i s=>exact .kid hk (.here _ _)
 |kid h1 _ ih=>exact .kid h1 (ih hk)
def hidP(l:List Row)(x:Nat)(S:List Nat):Bool:=(decide ((AL l x).kind=7)||decide ((AL l x).kind=15)) && !isIn S (AL l x).ref
def VIff(l:List Row)(fn:Nat)(V:Vis→Nat→List Nat→Option Vis):Prop:=∀v k s v',V v k s=some v'→
 (v'.hidden=true↔v.hidden=true∨∃x S,VR l k s x S∧hidP l x S=true)∧(v'.wrong=true↔v.wrong=true∨∃x S,VR l k s x S∧BD l (AL l x) fn=true)
theorem LX{l:List Row}{fn:Nat}{V:Vis→Nat→List Nat→Option Vis}(hV:VIff l fn V):∀(ks s:List Nat) (v v':Vis),Dz l V ks s v=some v'→
 (v'.hidden=true↔v.hidden=true∨∃j k x S,ks[j]? =some k∧VR l k (s++(ks.take j).filter (visible l)) x S∧hidP l x S=true)∧(v'.wrong=true↔v.wrong=true∨∃j k x S,ks[j]? =some k∧VR l k (s++(ks.take j).filter (visible l)) x S∧BD l (AL l x) fn=true)
 |[],s,v,v',h=>by injection h with h;subst h;simp
 |q::ks,s,v,v',h=>by
   unfold Dz at h;cases h1:V v q s with
   |none=>rw[h1] at h;cases h
   |some w=>
     rw[h1] at h;obtain⟨a,b⟩:=LX hV ks _ w v' h;obtain⟨c,d⟩:=hV _ _ _ _ h1;have hs:(if kindOf l q=6∨kindOf l q=4 then s++[q] else s)=s++[q].filter (visible l):=by
      by_cases hc:kindOf l q=6∨kindOf l q=4
      ·rw[if_pos hc,List.filter_cons,if_pos (by unfold visible;simpa using hc)];rfl
      ·rw[if_neg hc,List.filter_cons,if_neg (by unfold visible;simpa using hc)];simp
     have key:∀P:Nat→List Nat→Prop,(∃j k x S,(q::ks)[j]? =some k∧VR l k (s++((q::ks).take j).filter (visible l)) x S∧P x S)↔
      (∃x S,VR l q s x S∧P x S)∨∃j k x S,ks[j]? =some k∧VR l k ((s++[q].filter (visible l))++(ks.take j).filter (visible l)) x S∧P x S:=fun P=>by
      constructor
      ·rintro⟨j,k,x,S,e,hr,hp⟩
       cases j with
       |zero=>
         simp only[List.getElem?_cons_zero,Option.some.injEq] at e;subst e;refine .inl ⟨x,S, ?_,hp⟩;simpa using hr
       |succ j=>
         refine .inr ⟨j,k,x,S,by simpa using e, ?_,hp⟩;rw[List.append_assoc,←List.filter_append];simpa using hr
      ·rintro(⟨x,S,hr,hp⟩|⟨j,k,x,S,e,hr,hp⟩)
       ·exact⟨0,q,x,S,rfl,by simpa using hr,hp⟩
       ·refine⟨j+1,k,x,S,by simpa using e, ?_,hp⟩
        rw[List.append_assoc,←List.filter_append] at hr;simpa using hr
     rw[hs] at a b;refine⟨?_, ?_⟩
     ·rw[a,c,key fun x S=>hidP l x S=true,or_assoc]
     ·rw[b,d,key fun x S=>BD l (AL l x) fn=true,or_assoc]
theorem Xe{l:List Row}(i:Nat)(s:List Nat)(P:Nat→List Nat→Prop):(∃x S,VR l i s x S∧P x S)↔P i s∨∃j k x S,(AL l i).kids[j]? =some k∧VR l k (s++((AL l i).kids.take j).filter (visible l)) x S∧P x S:=by
 constructor
 ·rintro⟨x,S,hr,hp⟩
  cases hr with
  |here=>exact .inl hp
  |kid h1 h2=>exact .inr ⟨_,_,x,S,h1,h2,hp⟩
 ·rintro(hp|⟨j,k,x,S,h1,h2,hp⟩)
  ·exact⟨i,s,.here _ _,hp⟩
  ·exact⟨x,S,.kid h1 h2,hp⟩
theorem Md(l:List Row)(fn:Nat):∀n,VIff l fn (Cz l fn n)
 |0,v,k,s,v',h=>by cases h
 |n+1,v,k,s,v',h=>by
   unfold Cz at h;obtain⟨a,b⟩:=LX (Md l fn n) _ _ _ _ h;refine⟨?_, ?_⟩
   ·rw[a,Xe k s fun x S=>hidP l x S=true,←or_assoc]
    refine or_congr ?_ Iff.rfl;show(_||_)=true↔_;rw[Bool.or_eq_true];exact Iff.rfl
   ·rw[b,Xe k s fun x S=>BD l (AL l x) fn=true,←or_assoc]
    refine or_congr ?_ Iff.rfl;show(_||_)=true↔_;rw[Bool.or_eq_true]
def AnyF(l:List Row)(P:Nat→Nat→List Nat→Prop):Prop:=∃m∈(AL l 1).kids,∃f∈(AL l m).kids,∃x S,VR l f [] x S∧P f x S
theorem Kl{l:List Row}:∀(fs:List Nat) (fn:List Str) (a:Alls) (r:List Str×Alls),Cy l fs fn a=some r→
 r.1=fn++fs.map (fun f=>(AL l f).name)∧(r.2.clash=true↔a.clash=true∨∃f∈fs,twice (CW l f)=true)∧
 (r.2.vis.hidden=true↔a.vis.hidden=true∨∃f∈fs,∃x S,VR l f [] x S∧hidP l x S=true)∧(r.2.vis.wrong=true↔a.vis.wrong=true∨∃f∈fs,∃x S,VR l f [] x S∧BD l (AL l x) f=true)
 |[],fn,a,r,h=>by
   injection h with h;subst h;simp
 |f::fs,fn,a,r,h=>by
   unfold Cy at h;cases hv:Cz l f 201 a.vis f [] with
   |none=>rw[hv] at h;cases h
   |some v=>
     rw[hv] at h;obtain⟨h1,h2,h3,h4⟩:=Kl fs _ _ r h;obtain⟨v1,v2⟩:=Md l f 201 _ _ _ _ hv;have ex:∀P:Nat→Prop,(∃g∈f::fs,P g)↔P f∨∃g∈fs,P g:=fun P=>by simp
     refine⟨by rw[h1];simp, ?_, ?_, ?_⟩
     ·rw[h2,ex,←or_assoc]
      refine or_congr ?_ Iff.rfl;show(_||_)=true↔_;rw[Bool.or_eq_true]
     ·rw[h3,ex,←or_assoc]
      exact or_congr v1 Iff.rfl
     ·rw[h4,ex,←or_assoc]
      exact or_congr v2 Iff.rfl
theorem Lx{l:List Row}:∀(ms:List Nat) (mn:List Str) (a:Alls) (r:List Str×Alls),D7 l ms mn a=some r→
 r.1=mn++ms.map (fun m=>(AL l m).name)∧(r.2.clash=true↔a.clash=true∨∃m∈ms,twice ((AL l m).kids.map fun f=>(AL l f).name)=true∨∃f∈(AL l m).kids,twice (CW l f)=true)∧
 (r.2.vis.hidden=true↔a.vis.hidden=true∨∃m∈ms,∃f∈(AL l m).kids,∃x S,VR l f [] x S∧hidP l x S=true)∧(r.2.vis.wrong=true↔a.vis.wrong=true∨∃m∈ms,∃f∈(AL l m).kids,∃x S,VR l f [] x S∧BD l (AL l x) f=true)
 |[],mn,a,r,h=>by
   injection h with h;subst h;simp
 |m::ms,mn,a,r,h=>by
   unfold D7 at h;cases hv:Cy l (AL l m).kids [] a with
   |none=>rw[hv] at h;cases h
   |some p=>
     obtain⟨fs,b⟩:=p;rw[hv] at h;obtain⟨h1,h2,h3,h4⟩:=Lx ms _ _ r h;obtain⟨k1,k2,k3,k4⟩:=Kl _ _ _ _ hv;have ex:∀P:Nat→Prop,(∃g∈m::ms,P g)↔P m∨∃g∈ms,P g:=fun P=>by simp
     have k1:fs=(AL l m).kids.map fun f=>(AL l f).name:=by simpa using k1
     refine⟨by rw[h1];simp, ?_, ?_, ?_⟩
     ·rw[h2,ex,←or_assoc]
      refine or_congr ?_ Iff.rfl;show(b.clash||twice fs)=true↔_;rw[Bool.or_eq_true,k1];rw[show b.clash=true↔_ from k2,or_assoc];exact or_congr Iff.rfl (or_comm)
     ·rw[h3,ex,←or_assoc]
      exact or_congr k3 Iff.rfl
     ·rw[h4,ex,←or_assoc]
      exact or_congr k4 Iff.rfl
theorem Ve{l:List Row}{a:Alls}(h:IA l=some a):
 (a.clash=true↔(∃m∈(AL l 1).kids,twice ((AL l m).kids.map fun f=>(AL l f).name)=true∨∃f∈(AL l m).kids,twice (CW l f)=true)∨twice ((AL l 1).kids.map fun m=>(AL l m).name)=true)∧
 (a.vis.hidden=true↔AnyF l fun _ x S=>hidP l x S=true)∧(a.vis.wrong=true↔AnyF l fun f x _=>BD l (AL l x) f=true):=by
 unfold IA at h;cases hm:D7 l (AL l 1).kids [] ⟨false,⟨false,false⟩⟩ with
 |none=>rw[hm] at h;cases h
 |some p=>
   obtain⟨mods,b⟩:=p;rw[hm] at h;injection h with h;subst h;obtain⟨h1,h2,h3,h4⟩:=Lx _ _ _ _ hm;have h1:mods=(AL l 1).kids.map fun m=>(AL l m).name:=by simpa using h1
   refine⟨?_, ?_, ?_⟩
   ·show(b.clash||twice mods)=true↔_
    rw[Bool.or_eq_true,h1,show b.clash=true↔_ from h2];simp
   ·refine(show b.vis.hidden=true↔_ from h3).trans ?_
    simp[AnyF]
   ·refine(show b.vis.wrong=true↔_ from h4).trans ?_
    simp[AnyF]
theorem Fw{l:List Row}{n:Node}{i want:Nat}:Be l n i want=false↔CS (rowM l) (n.kids.getD i 0)=want:=by
 unfold Be;rw[←Jy];simp
theorem KC{l:List Row}{n:Node}:∀(p:List Nat) (i:Nat),Dg l n i p=false↔∀j t,p[j]? =some t→CS (rowM l) (n.kids.getD (i+j) 0)=t
 |[],i=>by simp[Dg]
 |x::p,i=>by
   unfold Dg;rw[Bool.or_eq_false_iff,Fw,KC p (i+1)];constructor
   ·rintro⟨h1,h2⟩ j t ht
    cases j with
    |zero=>simp at ht;subst ht;exact h1
    |succ j=>
      have:=h2 j t (by simpa using ht);rw[show i+(j+1)=i+1+j by omega];exact this
   ·intro h
    refine⟨h 0 x rfl,fun j t ht=> ?_⟩;have:=h (j+1) t (by simpa using ht);rw[show i+1+j=i+(j+1) by omega];exact this
theorem YH{l:List Row}{x fn:Nat}{a:Node}(habv:abvR l x=fn):okT (rowM l) (abvR l) (x,a)=true↔BD l a fn=false:=by
 rw[MI];dsimp only;unfold BD Cs;have one:∀{t:Nat},(a.kind=19→([t]:List Nat).length=a.kids.length)∧(∀i u:Nat,([t]:List Nat)[i]? =some u→CS (rowM l) (a.kids.getD i 0)=u)↔(a.kind=19→1=a.kids.length)∧CS (rowM l) (a.kids.getD 0 0)=t:=fun {t}=>by
  refine and_congr Iff.rfl ⟨fun h=>h 0 t rfl,fun e i u hu=> ?_⟩;cases i with
  |zero=>simp at hu;rw[←hu];exact e
  |succ i=>simp at hu
 have one':∀{t:Nat},a.kind≠19→((a.kind=19→([t]:List Nat).length=a.kids.length)∧(∀i u:Nat,([t]:List Nat)[i]? =some u→CS (rowM l) (a.kids.getD i 0)=u)↔Be l a 0 t=false):=fun {t} hk=>by
  rw[one,Fw];exact⟨fun h=>h.2,fun h=>⟨fun e=>absurd e hk,h⟩⟩
 by_cases k6:a.kind=6
 ·rw[if_pos k6,if_pos k6];exact one' (by omega)
 rw[if_neg k6,if_neg k6];by_cases k7:a.kind=7
 ·rw[if_pos k7,if_pos k7,AU];exact one' (by omega)
 rw[if_neg k7,if_neg k7];by_cases k8:a.kind=8∨a.kind=9∨a.kind=16
 ·rw[if_pos k8,if_pos k8];exact one' (by omega)
 rw[if_neg k8,if_neg k8];by_cases k17:a.kind=17
 ·rw[if_pos k17,if_neg (by omega:¬a.kind=10),if_pos k17];exact one' (by omega)
 rw[if_neg k17];by_cases k10:a.kind=10
 ·rw[if_pos k10,if_pos k10,habv,AU];exact one' (by omega)
 rw[if_neg k10,if_neg k10,if_neg k17];by_cases k18:a.kind=18
 ·rw[if_pos k18,if_pos k18]
  have two:∀{t:Nat},((a.kind=19→([t,t]:List Nat).length=a.kids.length)∧(∀i u:Nat,([t,t]:List Nat)[i]? =some u→CS (rowM l) (a.kids.getD i 0)=u)↔(Be l a 0 t||Be l a 1 t)=false):=fun {t}=>by
   rw[Bool.or_eq_false_iff,Fw,Fw];constructor
   ·exact fun h=>⟨h.2 0 t rfl,h.2 1 t rfl⟩
   ·rintro⟨e,e'⟩
    refine⟨fun e=>by omega,fun i u hu=> ?_⟩
    match i,hu with
    |0,hu=>simp at hu;rw[←hu];exact e
    |1,hu=>simp at hu;rw[←hu];exact e'
    |i+2,hu=>simp at hu
  unfold JR;rw[←Jy];dsimp only;by_cases c1:a.num≤9
  ·rw[if_pos c1,if_neg (by omega),if_pos (by omega)];exact two
  ·rw[if_neg c1]
   by_cases c2:a.num≤11
   ·rw[if_pos c2,if_pos (by omega)];exact two
   ·rw[if_neg c2,if_neg (by omega),if_neg (by omega)];exact two
 rw[if_neg k18,if_neg k18];by_cases k19:a.kind=19
 ·rw[if_pos k19,if_pos k19,←Jd]
  dsimp only;by_cases hl:(BV l a.ref).length≠a.kids.length
  ·rw[if_pos hl]
   exact⟨fun h=>absurd (h.1 k19) hl,fun h=>by cases h⟩
  ·rw[if_neg hl,KC]
   simp only[Nat.zero_add];exact⟨fun h=>h.2,fun h=>⟨fun _=>Classical.not_not.1 hl,h⟩⟩
 rw[if_neg k19,if_neg k19];exact⟨fun _=>rfl,fun _=>⟨fun e=>absurd e k19,fun i t ht=>by simp at ht⟩⟩
theorem YG{l:List Row}{x:Nat}{a:Node}(h:a.kind < 3):okT (rowM l) (abvR l) (x,a)=true:=by
 rw[MI];unfold Cs;dsimp only;rw[if_neg (by omega),if_neg (by omega),if_neg (by omega),if_neg (by omega),if_neg (by omega),if_neg (by omega),if_neg (by omega)];exact⟨fun e=>by omega,fun i t ht=>by simp at ht⟩
theorem OI{M:Nat→Option Node}{a:Node}(k:Nat)(h5:a.kind≠5)(h3:a.kind≠3):Em M a k=[]:=by
 unfold Em;rw[List.filter_eq_nil_iff];intro y _;unfold Cr
 simp[h5,h3]
def QF(l:List Row)(f x:Nat)(S:List Nat):Prop:=∃a A,rowM l x=some a∧3≤a.kind∧JY l x A∧(∀y,y∈S↔y∈A)∧∀g,x < g→abvL l g x=f
section
variable {l:List Row} (h:Sh l)
include h
theorem Sh.Gi{p k:Nat}{a:Node}{A:List Nat}(ha:rowM l p=some a)(hk:k∈a.kids)(hA:JY l p A):JY l k (A++Em (rowM l) a (idxI a.kids k).toNat):=by
 obtain⟨e1,e2⟩:=M3 h.tr h.len h.pos ha hk;have hlt:=(h.trM.kid p a ha k hk).1;intro F seen out hF hs;cases F with
 |zero=>omega
 |succ F=>
   unfold ED;rw[if_neg (fun hm=>by have:=hs k hm;omega),e1,ha];dsimp only;rw[e2,hA F _ _ (by omega) (fun i hi=>by
    rcases List.mem_cons.1 hi with e|e
    ·omega
    ·have:=hs i e;omega)]
   rw[List.append_assoc]
theorem Sh.XZ:JY l 1 []:=by
 intro F seen out hF hs;cases F with
 |zero=>omega
 |succ F=>
   unfold ED;rw[if_neg (fun hm=>by have:=hs 1 hm;omega)];rcases DK h.rows 1 with⟨h1,_,h3⟩|⟨h1,_,⟨b,hb,he,h5⟩,_⟩
   ·rw[h1,Dh h.rows];rfl
   ·have hk:1∈b.kids:=(DW _ _).1 (by rw[he];exact h5)
    have h6:=(h.trM.kid _ b hb 1 hk).1;have h7:=(h.trM.dom (parR l 1).1).1 (by rw[hb];rfl);omega
theorem Sh.Qu{p k:Nat}{a:Node}(ha:rowM l p=some a)(hk:k∈a.kids):∃c,rowM l k=some c∧kindOf l k=c.kind:=by
 have:=h.trM.kid p a ha k hk;obtain⟨c,hc⟩:=Option.isSome_iff_exists.1 ((h.trM.dom k).2 (by omega));exact⟨c,hc,by unfold kindOf;rw[←AU,Ar hc]⟩
theorem Sh.YZ{m f:Nat}(hm:m∈(AL l 1).kids)(hf:f∈(AL l m).kids):∃c,rowM l f=some c∧c.kind=3∧JY l f []:=by
 obtain⟨r,hr,hrk⟩:=h.root;obtain⟨b,hb,hbk⟩:=h.modKind hm;have e1:AL l 1=r:=by rw[←AU,Ar hr]
 have e2:AL l m=b:=by rw[←AU,Ar hb]
 rw[e1] at hm;rw[e2] at hf;have a1:=h.Gi hr hm h.XZ;rw[OI _ (by omega) (by omega)] at a1;have a2:=h.Gi hb hf a1;rw[OI _ (by omega) (by omega)] at a2;obtain⟨c,hc,ek⟩:=h.Qu hb hf;obtain⟨j,hj⟩:=List.getElem?_of_mem hf;exact⟨c,hc,by rw[←ek];exact(h.kidK hb hj).2.2.2.1 hbk,a2⟩
theorem Sh.PL{m f:Nat}(hm:m∈(AL l 1).kids)(hf:f∈(AL l m).kids):QF l f f []:=by
 obtain⟨c,hc,ek,hA⟩:=h.YZ hm hf;refine⟨c,[],hc,by omega,hA,fun y=>Iff.rfl,fun g hg=> ?_⟩;have hp:=(h.trM.dom f).1 (by rw[hc];rfl);cases g with
 |zero=>omega
 |succ g=>
   unfold abvL;rw[if_neg (by omega),hc];dsimp only;rw[if_pos ek]
theorem Sh.Y2{f x j k:Nat}{S:List Nat}(hq:QF l f x S)(hk:(AL l x).kids[j]? =some k):QF l f k (S++((AL l x).kids.take j).filter (visible l)):=by
 obtain⟨b,A,hb,hb3,hA,hSA,hab⟩:=hq;have eb:AL l x=b:=by rw[←AU,Ar hb]
 rw[eb] at hk⊢;have hM:=h.trM;have hkm:=List.mem_of_getElem? hk;obtain⟨a,ha,ek⟩:=h.Qu hb hkm;have hlt:=(hM.kid x b hb k hkm).1;have k5:=(h.kidK hb hk).2.2.2.2 hb3;have hij:(idxI b.kids k).toNat=j:=by
  have hnd:=hM.nodup x b hb;unfold idxI;cases hfi:b.kids.findIdx? (· ==k) with
  |none=>
    simp only[List.findIdx?_eq_none_iff] at hfi;have:=hfi k hkm;simp at this
  |some i=>
    obtain⟨hi,he,_⟩:=List.findIdx?_eq_some_iff_getElem.1 hfi;obtain⟨hjl,hje⟩:=Af.1 hk;have:b.kids[i]=b.kids[j]:=by rw[hje];simpa using he
    show i=j;rcases Nat.lt_trichotomy i j with e|e|e
    ·exact absurd this (List.pairwise_iff_getElem.1 hnd i j hi hjl e)
    ·exact e
    ·exact absurd this.symm (List.pairwise_iff_getElem.1 hnd j i hjl hi e)
 have hA2:=h.Gi hb hkm hA;rw[hij] at hA2;refine⟨a,_,ha,by omega,hA2,fun y=> ?_,fun g hg=> ?_⟩
 ·rw[List.mem_append,List.mem_append,hSA]
  refine or_congr Iff.rfl ?_;unfold Em;rw[List.mem_filter,List.mem_filter];refine and_congr_right fun hy=> ?_;obtain⟨i,hi⟩:=List.getElem?_of_mem (List.mem_of_mem_take hy);obtain⟨y6,y4,_,_,_⟩:=h.kidK hb hi;unfold visible Cr;rw[AU];unfold kindOf at y6 y4⊢;simp only[Bool.or_eq_true,beq_iff_eq,Bool.and_eq_true,decide_eq_true_eq];constructor
  ·rintro(e|e)
   ·exact .inl ⟨y6 e,e⟩
   ·exact .inr ⟨y4 e,e⟩
  ·rintro(e|e)
   ·exact .inl e.2
   ·exact .inr e.2
 ·cases g with
  |zero=>omega
  |succ g=>
    unfold abvL;rw[if_neg (by omega),ha];dsimp only;rw[if_neg (by omega),(M3 h.tr h.len h.pos hb hkm).1];exact hab g (by omega)
theorem Sh.Tj{f i x:Nat}{s S:List Nat}(hr:VR l i s x S)(hq:QF l f i s):QF l f x S:=by
 induction hr with
 |here=>exact hq
 |kid h1 _ ih=>exact ih (h.Y2 hq h1)
theorem Sh.reach:∀x a,rowM l x=some a→3≤a.kind→∃m∈(AL l 1).kids,∃f∈(AL l m).kids,∃S,VR l f [] x S:=by
 intro x
 induction x using Nat.strongRecOn with
 |_ x ih=>
 intro a ha h3;have hM:=h.trM;have hx:=(hM.dom x).1 (by rw[ha];rfl);have no1:∀b,rowM l 1=some b→b.kind=1:=fun b hb=>by
  obtain⟨r,hr,hk⟩:=h.root;rw[hr] at hb;rw[←Option.some.inj hb];exact hk
 have hx2:2≤x:=by
  rcases Nat.lt_or_ge 1 x with e|e
  ·exact e
  ·exfalso
   obtain rfl:x=1:=by omega
   have:=no1 a ha;omega
 obtain⟨p,b,hb,hk⟩:=hM.has x hx2 hx.2;have hlt:=(hM.kid p b hb x hk).1;obtain⟨j,hj⟩:=List.getElem?_of_mem hk;have hkx:kindOf l x=a.kind:=by unfold kindOf;rw[←AU,Ar ha]
 obtain⟨k6,k4,k1,k2,k5⟩:=h.kidK hb hj;rw[hkx] at k6 k4 k1 k2 k5;have hp1:=(hM.dom p).1 (by rw[hb];rfl);have hb1:1≤b.kind:=by obtain⟨r,_,_,rfl,ho⟩:=h.row hb;exact ho.lo
 have eb:AL l p=b:=by rw[←AU,Ar hb]
 rcases Nat.lt_or_ge b.kind 3 with hb3|hb3
 ·have hb2:b.kind=2:=by
   rcases Nat.lt_or_ge b.kind 2 with e|e
   ·have:=k1 (by omega);omega
   ·omega
  have hp2:2≤p:=by
   rcases Nat.lt_or_ge 1 p with e|e
   ·exact e
   ·exfalso
    obtain rfl:p=1:=by omega
    have:=no1 b hb;omega
  obtain⟨q,c,hc,hkp⟩:=hM.has p hp2 hp1.2;obtain⟨i,hi⟩:=List.getElem?_of_mem hkp;have hkp':kindOf l p=b.kind:=by unfold kindOf;rw[←AU,Ar hb]
  obtain⟨c6,c4,c1,c2,c5⟩:=h.kidK hc hi;rw[hkp',hb2] at c6 c4 c1 c2 c5;have hc1:c.kind=1:=by
   have:1≤c.kind:=by obtain⟨r,_,_,rfl,ho⟩:=h.row hc;exact ho.lo
   rcases Nat.lt_or_ge c.kind 3 with e|e
   ·rcases Nat.lt_or_ge c.kind 2 with e2|e2
    ·omega
    ·have:=c2 (by omega);omega
   ·have:=c5 e;omega
  have hq1:q=1:=by obtain⟨r,_,h1,rfl,ho⟩:=h.row hc;rw[←h1];exact ho.root.1 hc1
  subst hq1;have hm:p∈(AL l 1).kids:=by rw[←AU,Ar hc];exact hkp
  exact⟨p,hm,x,by rw[eb];exact hk,[],.here _ _⟩
 ·obtain⟨m,hm,f,hf,S,hr⟩:=ih p hlt b hb hb3
  exact⟨m,hm,f,hf,_,hr.snoc (by rw[eb];exact hj)⟩
end
end Hg
namespace Hg
open Go.Proofs.YtijhlanclfajiaaGreatDoor (idxI hidK Kr Po shpB)
section
variable {l:List Row} (h:Sh l)
include h
theorem Sh.ZR{x:Nat}{a:Node}{A:List Nat}(ha:rowM l x=some a)(hA:JY l x A):snL l x=A:=by
 have:=(h.trM.dom x).1 (by rw[ha];rfl);have hl:=h.len;unfold snL;rw[hA 20001 [] [] (by omega) (fun i hi=>by cases hi)];simp
theorem Sh.ZC{f:Nat}{xs:List (Nat×Node)}(hw:wk (rowM l) f [1] []=some xs):xs.any (hidK (snL l))=true↔AnyF l fun _ x S=>hidP l x S=true:=by
 have key:∀x a g S,rowM l x=some a→QF l g x S→(hidK (snL l) (x,a)=hidP l x S):=fun x a g S ha hq=>by
  obtain⟨a',A,ha',_,hA,hS,_⟩:=hq;have en:AL l x=a:=by rw[←AU,Ar ha]
  unfold hidK hidP;dsimp only;rw[h.ZR ha hA,en,Bool.or_comm]
  congr 2
  rw[Bool.eq_iff_iff,decide_eq_true_eq,DW,←hS];unfold isIn;simp
 rw[List.any_eq_true];constructor
 ·rintro⟨⟨x,a⟩,hx,hp⟩
  have ha:=EZ _ _ _ _ _ hw _ hx;have h3:3≤a.kind:=by
   unfold hidK at hp;simp only[Bool.and_eq_true,Bool.or_eq_true,decide_eq_true_eq] at hp;omega
  obtain⟨m,hm,g,hg,S,hr⟩:=h.reach x a ha h3;refine⟨m,hm,g,hg,x,S,hr, ?_⟩;show hidP l x S=true;rw[←key x a g S ha (h.Tj hr (h.PL hm hg))];exact hp
 ·rintro⟨m,hm,g,hg,x,S,hr,hp⟩
  have hq:=h.Tj hr (h.PL hm hg);obtain⟨a,A,ha,_⟩:=id hq;refine⟨(x,a),O6 h.trM h.pos hw x a ha, ?_⟩;rw[key x a g S ha hq];exact hp
theorem Sh.Yp{f:Nat}{xs:List (Nat×Node)}(hw:wk (rowM l) f [1] []=some xs):xs.all (okT (rowM l) (abvR l))=false↔AnyF l fun g x _=>BD l (AL l x) g=true:=by
 have key:∀x a g S,rowM l x=some a→QF l g x S→(okT (rowM l) (abvR l) (x,a)=false↔BD l (AL l x) g=true):=fun x a g S ha hq=>by
  obtain⟨a',A,ha',_,hA,hS,hab⟩:=hq;have en:AL l x=a:=by rw[←AU,Ar ha]
  have:=YH (a:=a) (show abvR l x=g from hab (x+1) (Nat.lt_succ_self _));rw[en];rw[←Bool.not_eq_true,this,Bool.not_eq_false]
 rw[List.all_eq_false];constructor
 ·rintro⟨⟨x,a⟩,hx,hp⟩
  have ha:=EZ _ _ _ _ _ hw _ hx;have h3:3≤a.kind:=by
   rcases Nat.lt_or_ge a.kind 3 with e|e
   ·exact absurd (YG e) hp
   ·exact e
  obtain⟨m,hm,g,hg,S,hr⟩:=h.reach x a ha h3;refine⟨m,hm,g,hg,x,S,hr, ?_⟩;exact(key x a g S ha (h.Tj hr (h.PL hm hg))).1 (by simpa using hp)
 ·rintro⟨m,hm,g,hg,x,S,hr,hp⟩
  have hq:=h.Tj hr (h.PL hm hg);obtain⟨a,A,ha,_⟩:=id hq;refine⟨(x,a),O6 h.trM h.pos hw x a ha, ?_⟩;rw[(key x a g S ha hq).2 hp]
  decide
theorem Sh.XP:Ey (rowM l) (nmL l)=true↔(∃m∈(AL l 1).kids,twice ((AL l m).kids.map fun f=>(AL l f).name)=true∨∃f∈(AL l m).kids,twice (CW l f)=true)∨twice ((AL l 1).kids.map fun m=>(AL l m).name)=true:=by
 have nm:∀ks:List Nat,ks.map (Ce (rowM l))=ks.map fun k=>(AL l k).name:=fun ks=>List.map_congr_left fun k _=>by unfold Ce;rw[AU]
 have nf:∀f,nmL l f=CW l f:=fun f=>by
  obtain⟨xs,hw,hx⟩:=MF l f;unfold nmL;rw[hw];exact YO hw hx
 unfold Ey;rw[Bool.or_eq_true,h.mods,nm,←Mf,or_comm];refine or_congr ?_ Iff.rfl;rw[List.any_eq_true];refine exists_congr fun m=>and_congr_right fun hm=> ?_;rw[h.funcs hm,Bool.or_eq_true,nm,←Mf];refine or_congr Iff.rfl ?_;rw[List.any_eq_true];refine exists_congr fun f=>and_congr_right fun hf=> ?_;rw[←Mf,nf]
end
theorem right_eq{l:List Row}(hT:Tr l)(hl:l.length≤20000)(h0:0 < l.length)(hnm:∀r∈l,r.node.name.length≤1000000)(hn:∀r∈l,r.node.num≤9223372036854775807){dp:Bool}(hdp:dp=true↔0 < CQ l 200 1){f:Nat}{xs:List (Nat×Node)}(hw:wk (rowM l) f [1] []=some xs):
 D5 l=some (Kr (rowM l) (parR l) dp (abvR l) xs (snL l) (nmL l)):=by
 have hs:=Ug hT hl h0 hn hdp hw;obtain⟨r,hr⟩:=Gw l;unfold D5 at hr⊢;unfold Kr;rw[hs] at hr⊢;cases hb:shpB (rowM l) (parR l) dp xs with
 |false=>rfl
 |true=>
   rw[hb] at hs hr;dsimp only at hr⊢;have h:Sh l:=⟨hT,hl,hnm,hn,hs⟩;cases ha:IA l with
   |none=>rw[ha] at hr;cases hr
   |some a=>
     obtain⟨c1,c2,c3⟩:=Ve ha;rw[←h.XP] at c1;rw[←h.ZC hw] at c2;rw[←h.Yp hw] at c3;dsimp only;rw[h.main_eq,if_neg (show¬(true=false) by decide)]
     congr 1
     have e1:a.clash=Ey (rowM l) (nmL l):=Bool.eq_iff_iff.2 c1;have e2:a.vis.hidden=xs.any (hidK (snL l)):=Bool.eq_iff_iff.2 c2;rw[e1,e2];by_cases k1:Ey (rowM l) (nmL l)=true
     ·rw[if_pos k1,if_pos k1]
     rw[if_neg k1,if_neg k1];by_cases k2:xs.any (hidK (snL l))=true
     ·rw[if_pos k2,if_pos k2]
     rw[if_neg k2,if_neg k2];by_cases k3:a.vis.wrong=true
     ·rw[if_pos k3,if_pos (c3.1 k3)]
     ·rw[if_neg k3,if_neg fun e=>k3 (c3.2 e)]
end Hg
namespace Hg
theorem Tg.kb{x:List Row}(h:Tg x):KB (rowM x):=fun i nd hm k hk=>by
 have:=((h.tr.trM h.len h.pos).kid i nd hm k hk).2;have:=h.len;omega
end Hg
namespace Go.Proofs.YtijhlanclfajiaaGreatDoor
open Go.RowKit
open Hg (Tg rowM)
theorem Tg.ok{x:List Hg.Row}(h:Tg x){w:World}{ab mb c:Nat}(hA:ArAt w ab mb c (Ez x x.length)):ArOk w ab (rowM x):=by
 have h0:x≠[]:=fun e=>by have:=h.pos;rw[e] at this;cases this
 rw[Nj (Tg.ids h) h0] at hA;exact⟨⟨mb,c,hA⟩,h.kb⟩
theorem Jc{l:List Hg.Row}(h:Tg l){r:Nat}(hr:Hg.D5 l=some r)(ab:Nat)(w:World)(hA:ArOk w ab (rowM l))(hT:DX w):Calls Tryz.prog 8 #[.pointer (some ⟨ab,0,none⟩)] w fun e w'=>e= .returned (.int .i64 (r:Int))∧Below w.heap.size w w':=by
 obtain⟨dp,xs,hdp,hw,hS⟩:=Hg.Ul h.tr h.len h.pos (fun r hm=>by have:=h.rf r hm;omega) (fun r hm=>by have:=(h.nk r hm).2.2;omega) (fun r hm=>by have:=(h.nk r hm).1;omega);have he:=Hg.right_eq h.tr h.len h.pos (fun r hm=>by have:=(h.nk r hm).2.2;omega) (fun r hm=>(h.nk r hm).2.1) hdp hw;rw[hr] at he;have:=Rs ab (rowM l) _ dp _ _ _ xs _ _ w hA hT hS;rw[←Option.some.inj he] at this;exact this
end Go.Proofs.YtijhlanclfajiaaGreatDoor
namespace Go.Proofs.YtijhlanclfajiaaGreatDoor
open Go.RowKit
open Hg (Tg rowM awA awB awAT awBT)
theorem XX:Tg awA:=by
 have:Hg.KT awAT=awA:=by decide+kernel
 rw[←this];exact Hg.Jk _
theorem XW:Tg awB:=by
 have:Hg.KT awBT=awB:=by decide+kernel
 rw[←this];exact Hg.Jk _
theorem ZX:Hg.D5 awA=some 11:=by decide+kernel
theorem ZV:Hg.D5 awB=some 0:=by decide+kernel
theorem ZW:Hg.H9 (rowM awB)=3:=by decide+kernel
def Zh(x:List Hg.Row)(w:World)(e:Ending)(w':World):Prop:=∃ab,e= .returned (.tuple #[.pointer (some ⟨ab,0,none⟩),.int .i64 0])∧ArOk w' ab (rowM x)∧Below w.heap.size w w'
theorem XV{s:List UInt8}{x:List Hg.Row}(hp:Ev.M0 s x=true)(h:Tg x)(w:World)(hT:DX w):Calls Tryz.prog 11 #[.string ⟨s.toArray⟩] w (Zh x w):=
 (Ev.Ur hp w hT).mono fun e w' ⟨hb,ab,mb,c,he,hA⟩=>⟨ab,he,⟨⟨mb,c,hA⟩,h.kb⟩,hb⟩
theorem RQ(w:World)(hT:DX w):Calls Tryz.prog 4 #[] w fun e w'=>e= .returned (.bool true)∧Below w.heap.size w w':=by
 have T1:=zz (XV Ev.VZ XX w hT);have T2:=zz (fun W (h:Below w.heap.size w W)=>XV Ev.VY XW W (hT.block (h.block _ hT.lt)));have HR1:=zz (Jc XX ZX);have HR2:=zz (Jc XW ZV);have TM:=NE;have HM:=zz (fun ab w hA=>(show Calls Tryz.prog 12 #[.pointer (some ⟨ab,0,none⟩)] w (fun e w'=>e= .returned (idV 3)∧Below w.heap.size w w') from by have:=NE ab (rowM awB) w hA;rw[ZW] at this;exact this));have HT:=zz hT;clear hT TM;unfold awAT at T1;unfold awBT at T2;generalize awA=xa at T1 HR1;generalize awB=xb at T2 HR2 HM;go_enter Tryz.func4,Tryz.ntmps4;go_wp2_with fail;refine T1.out.mono ?_;rintro e w1 ⟨a1,rfl,hA1,hb1⟩;have HA1:=zz hA1;have HB1:=zz hb1;clear T1 hA1 hb1;go_wp2_with fail;refine(T2.out _ HB1.out).mono ?_;rintro e w2 ⟨a2,rfl,hA2,hb2⟩;have HA2:=zz hA2;have HB2:=zz (HB1.out.trans (hb2.mono HB1.out.size));have TR1:=zz (HR1.out a1 w2 (HA1.out.below hb2) (HT.out.block (HB2.out.block _ HT.out.lt)));clear T2 hA2 hb2;go_wp2_with fail;refine TR1.out.mono ?_;rintro e w3 ⟨rfl,hb3⟩;have HB3:=zz (HB2.out.trans (hb3.mono HB2.out.size));have TR2:=zz (HR2.out a2 w3 (HA2.out.below hb3) (HT.out.block (HB3.out.block _ HT.out.lt)));have HA3:=zz (HA2.out.below hb3);clear TR1 hb3;go_wp2_with fail;refine TR2.out.mono ?_;rintro e w4 ⟨rfl,hb4⟩;have HB4:=zz (HB3.out.trans (hb4.mono HB3.out.size));have TM2:=zz (HM.out a2 w4 (HA3.out.below hb4));clear TR2 hb4;go_wp2_with fail;refine TM2.out.mono ?_;rintro e w5 ⟨rfl,hb5⟩;have HB5:=zz (HB4.out.trans (hb5.mono HB4.out.size));clear TM2 hb5;go_wp2;go_ret;exact⟨rfl,HB5.out⟩
end Go.Proofs.YtijhlanclfajiaaGreatDoor
