/-
  Part of the proof of CheckLists.
-/
import Derived.Test.YtljmibnfmilfbaaGreatDoorKeBM
import Derived.Test.YtljmibnfmilfbaaGreatDoorKeAA
import Derived.Test.YtljmibnfmilfbaaGreatDoorKeBJ
set_option linter.all false
set_option maxHeartbeats 32000000
set_option maxRecDepth 100000
namespace Go.Proofs.YtljmibnfmilfbaaGreatDoor
open Go.RowKit
open Hg (GT gl wk isK ndAt CS KB Qq H6 MG Cg)
attribute [local go_sem] Oper.semAt_some
theorem Oa(W:World)(o1 o2:Obj):Below W.heap.size W ((W.alloc o1).alloc o2)∧((W.alloc o1).alloc o2).heap[W.heap.size]? =some o1∧((W.alloc o1).alloc o2).heap[W.heap.size+1]? =some o2∧((W.alloc o1).alloc o2).heap.size=W.heap.size+2:=by
 have h:=heap_alloc_new (W.alloc o1) o2;rw[show(W.alloc o1).heap.size=W.heap.size+1 by simp] at h;exact⟨((Below.refl _ _).alloc (Nat.le_refl _) _).alloc (by simp) _,(heap_alloc_old _ _ (by simp)).trans (heap_alloc_new W _),h,by simp⟩
structure Qr (M:Nat→Option Hg.Node) (par:Nat→Nat×Int) (F:Nat) (xs:List (Nat×Hg.Node)):Prop where
 tree:∃F R,Qq M F R
 walk:wk M F [1] []=some xs
 f:F≤1000000
 id:∀x∈xs,x.1 < Ae
 kind:∀x∈xs,1≤x.2.kind∧x.2.kind≤20
 kids:∀x∈xs,H6 M x.2
 parts:∀x∈xs,JD M x.2
 root:∀x∈xs,x.2.kind=1↔x.1=1
 rets:∀x∈xs,x.2.kind=5→MG M par x.1 x.2=true
 deep:∀x∈xs,x.2.kind=3→Cg M 201 x.1≤90
def shA(p1 p2 p3 p4:Value)(a:Act):Prop:=∃u0 u5 u6 u7 u8 u9 u10 u11 u12 u13 u14 u15 u16 u17 u18 u19 u20 u21 u22 u23 u24 u25 u26 u27 u28 u29 u30 u31 u32 u33 u34 u35 u36 u37 u38 u39 u40 u41 u42 u43 u44 u45 u46 u47 u48 u49 u50 u51 u52 u53 u54 u55 u56 u57 u58 u59 u60 u61 u62 u63 u64 u65 u66 u67 u68 u69 u70 u71 u72:Value,a={tmps:= #[u0,p1,p2,p3,p4,u5,u6,u7,u8,u9,u10,u11,u12,u13,u14,u15,u16,u17,u18,u19,u20,u21,u22,u23,u24,u25,u26,u27,u28,u29,u30,u31,u32,u33,u34,u35,u36,u37,u38,u39,u40,u41,u42,u43,u44,u45,u46,u47,u48,u49,u50,u51,u52,u53,u54,u55,u56,u57,u58,u59,u60,u61,u62,u63,u64,u65,u66,u67,u68,u69,u70,u71,u72],defers:=[]}
def shB(p1 p2 p5 p6:Value)(a:Act):Prop:=∃u0 u3 u4 u7 u8 u9 u10 u11 u12 u13 u14 u15 u16 u17 u18 u19 u20 u21 u22 u23 u24 u25 u26 u27 u28 u29 u30 u31 u32 u33 u34 u35 u36 u37 u38 u39 u40 u41 u42 u43 u44 u45 u46 u47 u48 u49 u50 u51 u52 u53 u54 u55 u56 u57 u58 u59 u60 u61 u62 u63 u64 u65 u66 u67 u68 u69 u70 u71 u72:Value,a={tmps:= #[u0,p1,p2,u3,u4,p5,p6,u7,u8,u9,u10,u11,u12,u13,u14,u15,u16,u17,u18,u19,u20,u21,u22,u23,u24,u25,u26,u27,u28,u29,u30,u31,u32,u33,u34,u35,u36,u37,u38,u39,u40,u41,u42,u43,u44,u45,u46,u47,u48,u49,u50,u51,u52,u53,u54,u55,u56,u57,u58,u59,u60,u61,u62,u63,u64,u65,u66,u67,u68,u69,u70,u71,u72],defers:=[]}
def ShR(ab B:Nat)(S:Nat→Prop)(x:Aj)(a:Act)(A:World):Prop:=
 ∃S0 blk,BoxI ab B S0 A∧shA (.pointer (some ⟨B,0,none⟩)) (.pointer (some ⟨B+1,0,none⟩)) (idV x.id) (.pointer (some ⟨blk,0,none⟩)) a∧A.heap[blk]? =some (.cells (AA x.nd x.ka x.kc) 33 (0,0))∧x.At A∧(∀q,S q↔S0 q∨q=blk)∧¬S0 blk
def ShQ(ab B:Nat)(S:Nat→Prop)(x:Aj)(a:Act)(A:World):Prop:=
 ∃S0 blk,BoxI ab B S0 A∧shB (.pointer (some ⟨B,0,none⟩)) (.pointer (some ⟨B+1,0,none⟩)) (idV x.id) (.pointer (some ⟨blk,0,none⟩)) a∧A.heap[blk]? =some (.cells (AA x.nd x.ka x.kc) 33 (0,0))∧(∀q,S q↔S0 q∨q=blk)∧¬S0 blk
theorem L8(ab:Nat)(M:Nat→Option Hg.Node)(par:Nat→Nat×Int)(hp:LZ M par)(F:Nat)(xs:List (Nat×Hg.Node))(w:World)(hA:ArOk w ab M)(hT:Bl w)(hS:Qr M par F xs):
 Calls Tryz.prog 45 #[.pointer (some ⟨ab,0,none⟩)] w fun e w'=>e= .returned (.bool true)∧Below w.heap.size w w':=by
 obtain⟨F0,R0,htree⟩:=hS.tree;have HP:=zz hp;have HA:=zz hA;have HSH:=zz hS;have HTB:=zz hT;have TW:=zz (Jl ab 1);have TR:=zz (IQ ab);have TT:=zz (fun W (h:Below w.heap.size w W)=>VV ab M F0 R0 W (hA.below h) htree);obtain⟨⟨mb,c,hAr⟩,hkb⟩:=hA;have HAR:=zz hAr;have HKB:=zz hkb;clear hAr hkb htree hS hT hp;refine(callsIn_wide (n:=5)).1 (callsIn_of_wp_marks Tryz.func45 rfl trivial ?_ rfl);simp only[Tryz.ntmps45,List.size_toArray,List.length_cons,List.length_nil,Nat.reduceAdd,Nat.reduceSub,Array.replicate_succ,Array.replicate_zero,List.push_toArray,List.append_toArray,List.nil_append,List.cons_append];gi_wp2_with fail;obtain⟨hb0,h0,h1,hz⟩:=Oa w (.cells #[.pointer (some ⟨ab,0,none⟩)] 27) (.cells #[.bool false] 4);generalize World.alloc (World.alloc w _) _=W0 at hb0 h0 h1 hz⊢;refine⟨trivial,(callsIn_wide.2 (TT.out _ hb0)).mono ?_⟩;rintro e WT ⟨rfl,hbT⟩;have hbw:=hb0.trans (hbT.mono hb0.size);have hBx:=(hbT.block w.heap.size (by omega)).trans h0;have hRx:=(hbT.block (w.heap.size+1) (by omega)).trans h1;have hzw:w.heap.size+2≤WT.heap.size:=by have:=hbT.size;omega
 generalize Value.bool false=r0 at hRx;clear hb0 h0 h1 hz hbT TT;gi_wp2;refine wpIn_wide.2 (Lb ?_);have e0:=cell_of_row WT w.heap.size 0 _ _ (0,0) hBx;simp at e0;have hHeld:(fun w'=>w'.cell? ⟨w.heap.size,0,none⟩=some (.pointer (some ⟨ab,0,none⟩))) (WT).drew:=e0;refine AR (fun w'=>w'.cell? ⟨w.heap.size,0,none⟩=some (.pointer (some ⟨ab,0,none⟩))) 3 (by kernel_rfl) ?_;refine tz 0 _ _ _ ?_;refine tz 1 _ _ _ ?_;refine AB (i:=2) rfl (by kernel_rfl) (fun K hK=> ?_);go_simp;refine(TR.out _).mono ?_;rintro e w1 ⟨rfl,rfl⟩;refine hK.out _ _ (hHeld) (fun hHeld=> ?_);clear hK K
 try simp only[Act.put,sA,sB,sC,sD,sE,sF]
 refine AL (by kernel_rfl) ?_;simp only[List.drop_succ_cons,List.drop_zero];go_wp2_with fail;refine(TW.out _).mono ?_;rintro e w1 ⟨rfl,rfl⟩;have hdz:(WT).drew.heap.size=(WT).heap.size:=rfl;obtain⟨hbW,k1,k2,hzW⟩:=Oa (WT).drew (.cells #[.pointer (some ⟨ab,0,none⟩)] 27) (.cells #[idV 1] 30);rw[hdz] at hbW k1 k2 hzW⊢;generalize World.alloc (World.alloc (WT).drew _) _=W1 at hbW k1 k2 hzW⊢;have hbW:Below (WT).heap.size WT W1:=((Below.refl _ _).drew).trans hbW;generalize hnz:(WT).heap.size=nz at hbW k1 k2 hzW hzw⊢;have g0:(W1).heap[w.heap.size]? =some (.cells #[.pointer (some ⟨ab,0,none⟩)] 27 (0,0)):=(hbW.block _ (by omega)).trans hBx;have g1:(W1).heap[w.heap.size+1]? =some (.cells #[r0] 4 (0,0)):=(hbW.block _ (by omega)).trans hRx;have hb1:Below w.heap.size w W1:=hbw.trans (hbW.mono (by omega));have hseq:=IK ab mb c M w.heap.size 1 (nz+1) nz F xs W1 (fun W' hf=>HAR.out.below (hb1.trans (hf.below' (by omega))) (Nat.le_refl _)) (cell_of_row W1 (nz+1) 0 _ _ (0,0) k2) (cell_of_row W1 nz 0 _ _ (0,0) k1) ⟨by omega,by omega,by omega,by omega⟩ (by decide) HKB.out HSH.out.walk HSH.out.f;have HB1:=zz hb1;have HARW:=zz (show∀W',Fr (fun q=>w.heap.size≤q) W1 W'→ArOk W' ab M from fun W' hf=>HA.out.below (hb1.trans (hf.below' (by omega))));have HBN:=zz (And.intro hnz hbW);clear k1 k2 hHeld hBx hRx hbw hbW e0 hb1 hdz hnz;go_wp2;gi_wp2;refine Gd (gf:=63) rfl (enters_of Tryz.func63 (by kernel_rfl) rfl) hseq (Fr.refl _ _) rfl (fun q h=>by rcases h with h|h <;>omega) (by omega)
  (fun S _ A=>BoxI ab w.heap.size S A) (fun _ _ _ _=>False) (fun S _ x a A=>ShR ab w.heap.size S x a A) (fun S pre A A' h hf=>h.fr hf) (fun _ _ _ _ _ h _=>h) ?hI1 (fun S pre A h q hq=>(h.lt q hq).2) ?hI1l
  (fun q=>q=w.heap.size∨q=w.heap.size+1) ⟨g0,⟨_,g1⟩,fun q=>Iff.rfl⟩ (fun q e=>by rcases e with e|e <;>subst e <;>exact⟨by omega,by omega,by omega⟩) ?assign ?body ?done ?stop
 case hI1=>
  rintro S pre x a A A' ⟨S0,blk,hi,ha,hb,hx,hS,hn⟩ hf;exact⟨S0,blk,hi.fr (hf.imp (fun q _ h h'=>h (.inl ((hS q).2 (.inl h'))))),ha,hf.at_ hb (fun h=>h (.inl ((hS blk).2 (.inr rfl)))),(hx.fr (Nat.le_refl _) hf (fun q e h=>h (.inr e))).more hf.size,hS,hn⟩
 case hI1l=>
  rintro S pre x a A ⟨S0,blk,hi,ha,hb,hx,hS,hn⟩ q hq;rcases(hS q).1 hq with h|h
  ·exact(hi.lt q h).2
  ·subst h;exact(Array.getElem?_eq_some_iff.1 hb).1
 case assign=>
  intro l m S pre x A K hi hpre hx hkb hf hK;gi_wp2;refine hK (fun q=>S q∨q=A.heap.size) _ _ ⟨S,A.heap.size,hi.fr ((Fr.refl _ _).alloc _), ?_,heap_alloc_new A _,Sl.alloc hx (Nat.le_refl _) _|>.more (by simp),fun q=>Iff.rfl,fun h=>by have:=(hi.lt _ h).2;omega⟩ ((Fr.refl _ _).alloc _) (fun q h=>h.imp (fun h=>h) (fun h=>by omega));exact⟨_,_,_,_,_,_,_,_,_,_,_,_,_,_,_,_,_,_,_,_,_,_,_,_,_,_,_,_,_,_,_,_,_,_,_,_,_,_,_,_,_,_,_,_,_,_,_,_,_,_,_,_,_,_,_,_,_,_,_,_,_,_,_,_,_,_,_,_,_,rfl⟩
 case body=>
  rintro l m S pre x a1 A ⟨S0,blk,⟨hbx,⟨r0,hbr⟩,hSv⟩,ha,hb,hx,hS,hn⟩ hpre hf;obtain⟨u0,u5,u6,u7,u8,u9,u10,u11,u12,u13,u14,u15,u16,u17,u18,u19,u20,u21,u22,u23,u24,u25,u26,u27,u28,u29,u30,u31,u32,u33,u34,u35,u36,u37,u38,u39,u40,u41,u42,u43,u44,u45,u46,u47,u48,u49,u50,u51,u52,u53,u54,u55,u56,u57,u58,u59,u60,u61,u62,u63,u64,u65,u66,u67,u68,u69,u70,u71,u72,rfl⟩:=ha;have hxm:x.strip∈xs:=hpre.subset (by simp);have hf2:Fr (fun q=>w.heap.size≤q) W1 A:=hf.imp (fun q _ e=>by rcases e with(e|e)|e|e <;>omega);have hAA:=HARW.out A hf2;have hTA:=HTB.out.block ((HB1.out.trans (hf2.below' (by omega))).block _ HTB.out.lt);obtain⟨xi,nd,ka,kc⟩:=x;have hxm:(xi,nd)∈xs:=hxm;have hMx:=Hg.Lr M F _ _ _ HSH.out.walk _ hxm;have hkt:=HKB.out xi nd hMx;have hnl:=HA.out.len xi;unfold ndAt at hnl;rw[hMx] at hnl;have hnl:nd.kids.length≤1000000:=hnl;have hkd:=HSH.out.kind _ hxm;have hrt:=HSH.out.root _ hxm;have hre:=HSH.out.rets _ hxm;have hki:=HSH.out.kids _ hxm;have hpa:=HSH.out.parts _ hxm;dsimp only at hkd hrt hre hki hpa;have hx:Sl A A.heap.size (.slice ka nd.kids.length kc) nd.kids.length (nd.kids.map idV):=hx;have TK:=zz (fun W (h:Below A.heap.size A W)=>UA ab M nd ka kc W (hAA.below h) ((hx.below h (Nat.le_refl _)).more h.size) hnl hkt hki);have TP:=zz (fun W (h:Below A.heap.size A W)=>UV ab M HP.out.zero nd ka kc W (hAA.below h) (hTA.block (h.block _ hTA.lt)) hpa);have TQ:=zz (fun W (h:Below A.heap.size A W)=>Pk ab M par HP.out xi nd ka kc W (hAA.below h) ((hx.below h (Nat.le_refl _)).more h.size) hnl hkt);have hbl:=(Array.getElem?_eq_some_iff.1 hb).1;have hBl:=(Array.getElem?_eq_some_iff.1 hbx).1;have hnx:¬(fun _:Nat=>False) w.heap.size:=fun h=>h;have hnr:¬(fun _:Nat=>False) (w.heap.size+1):=fun h=>h;have eB:=cell_of_row A w.heap.size 0 _ _ (0,0) hbx;have y:=fun i=>cell_of_row A blk i _ _ (0,0) hb;have y0:=y 0;have y1:=y 1;have y2:=y 2;have y3:=y 3;have y4:=y 4;have y5:=y 5;simp at eB y0 y1 y2 y3 y4 y5;have hHeld:(fun w'=>w'.cell? ⟨w.heap.size,0,none⟩=some (.pointer (some ⟨ab,0,none⟩))∧w'.cell? ⟨blk,0,none⟩=some (.int .u8 (nd.kind:Int))∧w'.cell? ⟨blk,1,none⟩=some (strV nd.name)∧w'.cell? ⟨blk,2,none⟩=some (.int .i64 nd.num)∧w'.cell? ⟨blk,3,none⟩=some (.int .u8 (nd.type:Int))∧w'.cell? ⟨blk,4,none⟩=some (.int .u64 (nd.ref:Int))∧w'.cell? ⟨blk,5,none⟩=some (.slice ka nd.kids.length kc)) A.drew:=⟨eB,y0,y1,y2,y3,y4,y5⟩;have hHeld0:=hHeld;have HBc:=zz (Below.refl A.heap.size A);have q1:decide ((nd.kind:Int) < 1)=false:=by simp;omega
  have q2:decide ((20:Int) < (nd.kind:Int))=false:=by simp;omega
  have q3:decide (20 < nd.kind)=false:=by simp;omega
  have q4:¬nd.kind=0:=by omega
  clear hpre hf hf2 hAA hTA hMx hkt hki hpa eB y y0 y1 y2 y3 y4 y5 hkd;by_cases hk1:nd.kind=1
  ·have hx1:=hrt.1 hk1
   subst hx1;have q7:((nd.kind:Int)==1)=true:=by simp[hk1]
   have q5:((nd.kind:Int)==5)=false:=by simp[hk1]
   clear hk1 hrt hre TQ;gi_wp2;refine Bq (fun w'=>w'.cell? ⟨w.heap.size,0,none⟩=some (.pointer (some ⟨ab,0,none⟩))∧w'.cell? ⟨blk,0,none⟩=some (.int .u8 (nd.kind:Int))∧w'.cell? ⟨blk,1,none⟩=some (strV nd.name)∧w'.cell? ⟨blk,2,none⟩=some (.int .i64 nd.num)∧w'.cell? ⟨blk,3,none⟩=some (.int .u8 (nd.type:Int))∧w'.cell? ⟨blk,4,none⟩=some (.int .u64 (nd.ref:Int))∧w'.cell? ⟨blk,5,none⟩=some (.slice ka nd.kids.length kc)) 41 (by kernel_rfl) (by kernel_rfl) (by rintro⟨_,_,h⟩;exact h) ?_;refine tz 0 _ _ _ ?_;refine tz 1 _ _ _ ?_;refine tz 2 _ _ _ ?_;refine tz 3 _ _ _ ?_;refine tz 4 _ _ _ ?_;refine tz 5 _ _ _ ?_;refine tz 6 _ _ _ ?_;refine tz 7 _ _ _ ?_;refine tz 8 _ _ _ ?_;refine tz 9 _ _ _ ?_;refine tz 10 _ _ _ ?_;refine AB (i:=11) rfl (by kernel_rfl) (fun K hK=> ?_);go_simp;refine Calls.mono (TK.out _ (by first|exact HBc.out|exact HBc.out.drew|exact HBc.out.drew.drew)) ?_;rintro e w5 ⟨rfl,hb5⟩;have HBc:=zz (show Below A.heap.size A w5 from by first|exact HBc.out.trans (hb5.mono HBc.out.size)|exact HBc.out.drew.trans (hb5.mono HBc.out.drew.size));clear hb5 TK;refine hK.out _ _ (⟨(HBc.out.cell (p:=⟨w.heap.size,0,none⟩) hBl).trans hHeld0.1,(HBc.out.cell (p:=⟨blk,0,none⟩) hbl).trans hHeld0.2.1,(HBc.out.cell (p:=⟨blk,1,none⟩) hbl).trans hHeld0.2.2.1,(HBc.out.cell (p:=⟨blk,2,none⟩) hbl).trans hHeld0.2.2.2.1,(HBc.out.cell (p:=⟨blk,3,none⟩) hbl).trans hHeld0.2.2.2.2.1,(HBc.out.cell (p:=⟨blk,4,none⟩) hbl).trans hHeld0.2.2.2.2.2.1,(HBc.out.cell (p:=⟨blk,5,none⟩) hbl).trans hHeld0.2.2.2.2.2.2⟩) (fun hHeld=> ?_);clear hK K
   try simp only[Act.put,sA,sB,sC,sD,sE,sF]
   refine tz 12 _ _ _ ?_;refine tz 13 _ _ _ ?_;refine tz 14 _ _ _ ?_;refine tz 15 _ _ _ ?_;refine tz 16 _ _ _ ?_;refine AB (i:=17) rfl (by kernel_rfl) (fun K hK=> ?_);go_simp;refine Calls.mono (TP.out _ (by first|exact HBc.out|exact HBc.out.drew|exact HBc.out.drew.drew)) ?_;rintro e w6 ⟨rfl,hb5⟩;have HBc:=zz (show Below A.heap.size A w6 from by first|exact HBc.out.trans (hb5.mono HBc.out.size)|exact HBc.out.drew.trans (hb5.mono HBc.out.drew.size));clear hb5 TP;refine hK.out _ _ (⟨(HBc.out.cell (p:=⟨w.heap.size,0,none⟩) hBl).trans hHeld0.1,(HBc.out.cell (p:=⟨blk,0,none⟩) hbl).trans hHeld0.2.1,(HBc.out.cell (p:=⟨blk,1,none⟩) hbl).trans hHeld0.2.2.1,(HBc.out.cell (p:=⟨blk,2,none⟩) hbl).trans hHeld0.2.2.2.1,(HBc.out.cell (p:=⟨blk,3,none⟩) hbl).trans hHeld0.2.2.2.2.1,(HBc.out.cell (p:=⟨blk,4,none⟩) hbl).trans hHeld0.2.2.2.2.2.1,(HBc.out.cell (p:=⟨blk,5,none⟩) hbl).trans hHeld0.2.2.2.2.2.2⟩) (fun hHeld=> ?_);clear hK K
   try simp only[Act.put,sA,sB,sC,sD,sE,sF]
   refine tz 18 _ _ _ ?_;refine tz 19 _ _ _ ?_;refine tz 20 _ _ _ ?_;refine tz 21 _ _ _ ?_;refine tz 22 _ _ _ ?_;refine tz 23 _ _ _ ?_;refine tz 24 _ _ _ ?_;refine tz 25 _ _ _ ?_;refine AB (i:=26) rfl (by kernel_rfl) (fun K hK=> ?_);go_simp;refine(TR.out _).mono ?_;rintro e w8 ⟨rfl,rfl⟩;refine hK.out _ _ (hHeld) (fun hHeld=> ?_);clear hK K
   try simp only[Act.put,sA,sB,sC,sD,sE,sF]
   refine tz 27 _ _ _ ?_;refine tz 28 _ _ _ ?_;refine tz 29 _ _ _ ?_;refine tz 30 _ _ _ ?_;refine tz 31 _ _ _ ?_;refine tz 32 _ _ _ ?_;refine tz 33 _ _ _ ?_;refine tz 34 _ _ _ ?_;refine Au (i:=35) rfl (by kernel_rfl) (fun _ _ _ h=>h) (by assumption) (Or.inr ⟨by rfl,rfl⟩) ?_
   try simp only[Act.put,sA,sB,sC,sD,sE,sF]
   refine Au (i:=36) rfl (by kernel_rfl) (fun _ _ _ h=>h) (by assumption) (Or.inr ⟨by rfl,rfl⟩) ?_
   try simp only[Act.put,sA,sB,sC,sD,sE,sF]
   refine Au (i:=37) rfl (by kernel_rfl) (fun _ _ _ h=>h) (by assumption) (Or.inr ⟨by rfl,rfl⟩) ?_
   try simp only[Act.put,sA,sB,sC,sD,sE,sF]
   refine Au (i:=38) rfl (by kernel_rfl) (fun _ _ _ h=>h) (by assumption) (Or.inr ⟨by rfl,rfl⟩) ?_
   try simp only[Act.put,sA,sB,sC,sD,sE,sF]
   refine Au (i:=39) rfl (by kernel_rfl) (fun _ _ _ h=>h) (by assumption) (Or.inr ⟨by rfl,rfl⟩) ?_
   try simp only[Act.put,sA,sB,sC,sD,sE,sF]
   refine tz 40 _ _ _ ?_;refine AL (by kernel_rfl) ?_;simp only[List.drop_succ_cons,List.drop_zero];have HFA:Fr (fun _=>False) A _:=Fr.of_below HBc.out;clear hHeld hHeld0;have HFR:=zz HFA;clear HFA;go_wp2;gi_wp2;exact⟨S0,⟨HFR.out.at_ hbx hnx,⟨r0,HFR.out.at_ hbr hnr⟩,hSv⟩,HFR.out.imp (fun q _ e=>e.elim),fun q h=> .inl ((hS q).2 (.inl h))⟩
  ·have hx1:xi≠1:=fun e=>hk1 (hrt.2 e)
   have q7:((nd.kind:Int)==1)=false:=by simp;omega
   have q8:((xi:Int)==1)=false:=by simp;omega
   by_cases k5:nd.kind=5
   ·have q5:((nd.kind:Int)==5)=true:=by simp[k5]
    have hr5:=hre k5;have TQ2:=TQ.out;simp only[hr5] at TQ2;have TQ:=zz TQ2;clear k5 hk1 hx1 hrt hre hr5 TQ2;gi_wp2;refine Bq (fun w'=>w'.cell? ⟨w.heap.size,0,none⟩=some (.pointer (some ⟨ab,0,none⟩))∧w'.cell? ⟨blk,0,none⟩=some (.int .u8 (nd.kind:Int))∧w'.cell? ⟨blk,1,none⟩=some (strV nd.name)∧w'.cell? ⟨blk,2,none⟩=some (.int .i64 nd.num)∧w'.cell? ⟨blk,3,none⟩=some (.int .u8 (nd.type:Int))∧w'.cell? ⟨blk,4,none⟩=some (.int .u64 (nd.ref:Int))∧w'.cell? ⟨blk,5,none⟩=some (.slice ka nd.kids.length kc)) 41 (by kernel_rfl) (by kernel_rfl) (by rintro⟨_,_,h⟩;exact h) ?_;refine tz 0 _ _ _ ?_;refine tz 1 _ _ _ ?_;refine tz 2 _ _ _ ?_;refine tz 3 _ _ _ ?_;refine tz 4 _ _ _ ?_;refine tz 5 _ _ _ ?_;refine tz 6 _ _ _ ?_;refine tz 7 _ _ _ ?_;refine tz 8 _ _ _ ?_;refine tz 9 _ _ _ ?_;refine tz 10 _ _ _ ?_;refine AB (i:=11) rfl (by kernel_rfl) (fun K hK=> ?_);go_simp;refine Calls.mono (TK.out _ (by first|exact HBc.out|exact HBc.out.drew|exact HBc.out.drew.drew)) ?_;rintro e w5 ⟨rfl,hb5⟩;have HBc:=zz (show Below A.heap.size A w5 from by first|exact HBc.out.trans (hb5.mono HBc.out.size)|exact HBc.out.drew.trans (hb5.mono HBc.out.drew.size));clear hb5 TK;refine hK.out _ _ (⟨(HBc.out.cell (p:=⟨w.heap.size,0,none⟩) hBl).trans hHeld0.1,(HBc.out.cell (p:=⟨blk,0,none⟩) hbl).trans hHeld0.2.1,(HBc.out.cell (p:=⟨blk,1,none⟩) hbl).trans hHeld0.2.2.1,(HBc.out.cell (p:=⟨blk,2,none⟩) hbl).trans hHeld0.2.2.2.1,(HBc.out.cell (p:=⟨blk,3,none⟩) hbl).trans hHeld0.2.2.2.2.1,(HBc.out.cell (p:=⟨blk,4,none⟩) hbl).trans hHeld0.2.2.2.2.2.1,(HBc.out.cell (p:=⟨blk,5,none⟩) hbl).trans hHeld0.2.2.2.2.2.2⟩) (fun hHeld=> ?_);clear hK K
    try simp only[Act.put,sA,sB,sC,sD,sE,sF]
    refine tz 12 _ _ _ ?_;refine tz 13 _ _ _ ?_;refine tz 14 _ _ _ ?_;refine tz 15 _ _ _ ?_;refine tz 16 _ _ _ ?_;refine AB (i:=17) rfl (by kernel_rfl) (fun K hK=> ?_);go_simp;refine Calls.mono (TP.out _ (by first|exact HBc.out|exact HBc.out.drew|exact HBc.out.drew.drew)) ?_;rintro e w6 ⟨rfl,hb5⟩;have HBc:=zz (show Below A.heap.size A w6 from by first|exact HBc.out.trans (hb5.mono HBc.out.size)|exact HBc.out.drew.trans (hb5.mono HBc.out.drew.size));clear hb5 TP;refine hK.out _ _ (⟨(HBc.out.cell (p:=⟨w.heap.size,0,none⟩) hBl).trans hHeld0.1,(HBc.out.cell (p:=⟨blk,0,none⟩) hbl).trans hHeld0.2.1,(HBc.out.cell (p:=⟨blk,1,none⟩) hbl).trans hHeld0.2.2.1,(HBc.out.cell (p:=⟨blk,2,none⟩) hbl).trans hHeld0.2.2.2.1,(HBc.out.cell (p:=⟨blk,3,none⟩) hbl).trans hHeld0.2.2.2.2.1,(HBc.out.cell (p:=⟨blk,4,none⟩) hbl).trans hHeld0.2.2.2.2.2.1,(HBc.out.cell (p:=⟨blk,5,none⟩) hbl).trans hHeld0.2.2.2.2.2.2⟩) (fun hHeld=> ?_);clear hK K
    try simp only[Act.put,sA,sB,sC,sD,sE,sF]
    refine tz 18 _ _ _ ?_;refine tz 19 _ _ _ ?_;refine tz 20 _ _ _ ?_;refine tz 21 _ _ _ ?_;refine tz 22 _ _ _ ?_;refine tz 23 _ _ _ ?_;refine tz 24 _ _ _ ?_;refine tz 25 _ _ _ ?_;refine AB (i:=26) rfl (by kernel_rfl) (fun K hK=> ?_);go_simp;refine(TR.out _).mono ?_;rintro e w8 ⟨rfl,rfl⟩;refine hK.out _ _ (hHeld) (fun hHeld=> ?_);clear hK K
    try simp only[Act.put,sA,sB,sC,sD,sE,sF]
    refine tz 27 _ _ _ ?_;refine tz 28 _ _ _ ?_;refine tz 29 _ _ _ ?_;refine tz 30 _ _ _ ?_;refine tz 31 _ _ _ ?_;refine tz 32 _ _ _ ?_;refine tz 33 _ _ _ ?_;refine tz 34 _ _ _ ?_;refine tz 35 _ _ _ ?_;refine tz 36 _ _ _ ?_;refine tz 37 _ _ _ ?_;refine AB (i:=38) rfl (by kernel_rfl) (fun K hK=> ?_);go_simp;refine Calls.mono (TQ.out _ (by first|exact HBc.out|exact HBc.out.drew|exact HBc.out.drew.drew)) ?_;rintro e w7 ⟨rfl,hb5⟩;have HBc:=zz (show Below A.heap.size A w7 from by first|exact HBc.out.trans (hb5.mono HBc.out.size)|exact HBc.out.drew.trans (hb5.mono HBc.out.drew.size));clear hb5 TQ;refine hK.out _ _ (⟨(HBc.out.cell (p:=⟨w.heap.size,0,none⟩) hBl).trans hHeld0.1,(HBc.out.cell (p:=⟨blk,0,none⟩) hbl).trans hHeld0.2.1,(HBc.out.cell (p:=⟨blk,1,none⟩) hbl).trans hHeld0.2.2.1,(HBc.out.cell (p:=⟨blk,2,none⟩) hbl).trans hHeld0.2.2.2.1,(HBc.out.cell (p:=⟨blk,3,none⟩) hbl).trans hHeld0.2.2.2.2.1,(HBc.out.cell (p:=⟨blk,4,none⟩) hbl).trans hHeld0.2.2.2.2.2.1,(HBc.out.cell (p:=⟨blk,5,none⟩) hbl).trans hHeld0.2.2.2.2.2.2⟩) (fun hHeld=> ?_);clear hK K
    try simp only[Act.put,sA,sB,sC,sD,sE,sF]
    refine tz 39 _ _ _ ?_;refine tz 40 _ _ _ ?_;refine AL (by kernel_rfl) ?_;simp only[List.drop_succ_cons,List.drop_zero];have HFA:Fr (fun _=>False) A _:=Fr.of_below HBc.out;clear hHeld hHeld0;have HFR:=zz HFA;clear HFA;go_wp2;gi_wp2;exact⟨S0,⟨HFR.out.at_ hbx hnx,⟨r0,HFR.out.at_ hbr hnr⟩,hSv⟩,HFR.out.imp (fun q _ e=>e.elim),fun q h=> .inl ((hS q).2 (.inl h))⟩
   ·have q5:((nd.kind:Int)==5)=false:=by simp;omega
    clear k5 hk1 hx1 hrt hre TQ;gi_wp2;refine Bq (fun w'=>w'.cell? ⟨w.heap.size,0,none⟩=some (.pointer (some ⟨ab,0,none⟩))∧w'.cell? ⟨blk,0,none⟩=some (.int .u8 (nd.kind:Int))∧w'.cell? ⟨blk,1,none⟩=some (strV nd.name)∧w'.cell? ⟨blk,2,none⟩=some (.int .i64 nd.num)∧w'.cell? ⟨blk,3,none⟩=some (.int .u8 (nd.type:Int))∧w'.cell? ⟨blk,4,none⟩=some (.int .u64 (nd.ref:Int))∧w'.cell? ⟨blk,5,none⟩=some (.slice ka nd.kids.length kc)) 41 (by kernel_rfl) (by kernel_rfl) (by rintro⟨_,_,h⟩;exact h) ?_;refine tz 0 _ _ _ ?_;refine tz 1 _ _ _ ?_;refine tz 2 _ _ _ ?_;refine tz 3 _ _ _ ?_;refine tz 4 _ _ _ ?_;refine tz 5 _ _ _ ?_;refine tz 6 _ _ _ ?_;refine tz 7 _ _ _ ?_;refine tz 8 _ _ _ ?_;refine tz 9 _ _ _ ?_;refine tz 10 _ _ _ ?_;refine AB (i:=11) rfl (by kernel_rfl) (fun K hK=> ?_);go_simp;refine Calls.mono (TK.out _ (by first|exact HBc.out|exact HBc.out.drew|exact HBc.out.drew.drew)) ?_;rintro e w5 ⟨rfl,hb5⟩;have HBc:=zz (show Below A.heap.size A w5 from by first|exact HBc.out.trans (hb5.mono HBc.out.size)|exact HBc.out.drew.trans (hb5.mono HBc.out.drew.size));clear hb5 TK;refine hK.out _ _ (⟨(HBc.out.cell (p:=⟨w.heap.size,0,none⟩) hBl).trans hHeld0.1,(HBc.out.cell (p:=⟨blk,0,none⟩) hbl).trans hHeld0.2.1,(HBc.out.cell (p:=⟨blk,1,none⟩) hbl).trans hHeld0.2.2.1,(HBc.out.cell (p:=⟨blk,2,none⟩) hbl).trans hHeld0.2.2.2.1,(HBc.out.cell (p:=⟨blk,3,none⟩) hbl).trans hHeld0.2.2.2.2.1,(HBc.out.cell (p:=⟨blk,4,none⟩) hbl).trans hHeld0.2.2.2.2.2.1,(HBc.out.cell (p:=⟨blk,5,none⟩) hbl).trans hHeld0.2.2.2.2.2.2⟩) (fun hHeld=> ?_);clear hK K
    try simp only[Act.put,sA,sB,sC,sD,sE,sF]
    refine tz 12 _ _ _ ?_;refine tz 13 _ _ _ ?_;refine tz 14 _ _ _ ?_;refine tz 15 _ _ _ ?_;refine tz 16 _ _ _ ?_;refine AB (i:=17) rfl (by kernel_rfl) (fun K hK=> ?_);go_simp;refine Calls.mono (TP.out _ (by first|exact HBc.out|exact HBc.out.drew|exact HBc.out.drew.drew)) ?_;rintro e w6 ⟨rfl,hb5⟩;have HBc:=zz (show Below A.heap.size A w6 from by first|exact HBc.out.trans (hb5.mono HBc.out.size)|exact HBc.out.drew.trans (hb5.mono HBc.out.drew.size));clear hb5 TP;refine hK.out _ _ (⟨(HBc.out.cell (p:=⟨w.heap.size,0,none⟩) hBl).trans hHeld0.1,(HBc.out.cell (p:=⟨blk,0,none⟩) hbl).trans hHeld0.2.1,(HBc.out.cell (p:=⟨blk,1,none⟩) hbl).trans hHeld0.2.2.1,(HBc.out.cell (p:=⟨blk,2,none⟩) hbl).trans hHeld0.2.2.2.1,(HBc.out.cell (p:=⟨blk,3,none⟩) hbl).trans hHeld0.2.2.2.2.1,(HBc.out.cell (p:=⟨blk,4,none⟩) hbl).trans hHeld0.2.2.2.2.2.1,(HBc.out.cell (p:=⟨blk,5,none⟩) hbl).trans hHeld0.2.2.2.2.2.2⟩) (fun hHeld=> ?_);clear hK K
    try simp only[Act.put,sA,sB,sC,sD,sE,sF]
    refine tz 18 _ _ _ ?_;refine tz 19 _ _ _ ?_;refine tz 20 _ _ _ ?_;refine tz 21 _ _ _ ?_;refine tz 22 _ _ _ ?_;refine tz 23 _ _ _ ?_;refine tz 24 _ _ _ ?_;refine tz 25 _ _ _ ?_;refine AB (i:=26) rfl (by kernel_rfl) (fun K hK=> ?_);go_simp;refine(TR.out _).mono ?_;rintro e w8 ⟨rfl,rfl⟩;refine hK.out _ _ (hHeld) (fun hHeld=> ?_);clear hK K
    try simp only[Act.put,sA,sB,sC,sD,sE,sF]
    refine tz 27 _ _ _ ?_;refine tz 28 _ _ _ ?_;refine tz 29 _ _ _ ?_;refine tz 30 _ _ _ ?_;refine tz 31 _ _ _ ?_;refine tz 32 _ _ _ ?_;refine tz 33 _ _ _ ?_;refine tz 34 _ _ _ ?_;refine Au (i:=35) rfl (by kernel_rfl) (fun _ _ _ h=>h) (by assumption) (Or.inr ⟨by rfl,rfl⟩) ?_
    try simp only[Act.put,sA,sB,sC,sD,sE,sF]
    refine Au (i:=36) rfl (by kernel_rfl) (fun _ _ _ h=>h) (by assumption) (Or.inr ⟨by rfl,rfl⟩) ?_
    try simp only[Act.put,sA,sB,sC,sD,sE,sF]
    refine Au (i:=37) rfl (by kernel_rfl) (fun _ _ _ h=>h) (by assumption) (Or.inr ⟨by rfl,rfl⟩) ?_
    try simp only[Act.put,sA,sB,sC,sD,sE,sF]
    refine Au (i:=38) rfl (by kernel_rfl) (fun _ _ _ h=>h) (by assumption) (Or.inr ⟨by rfl,rfl⟩) ?_
    try simp only[Act.put,sA,sB,sC,sD,sE,sF]
    refine Au (i:=39) rfl (by kernel_rfl) (fun _ _ _ h=>h) (by assumption) (Or.inr ⟨by rfl,rfl⟩) ?_
    try simp only[Act.put,sA,sB,sC,sD,sE,sF]
    refine tz 40 _ _ _ ?_;refine AL (by kernel_rfl) ?_;simp only[List.drop_succ_cons,List.drop_zero];have HFA:Fr (fun _=>False) A _:=Fr.of_below HBc.out;clear hHeld hHeld0;have HFR:=zz HFA;clear HFA;go_wp2;gi_wp2;exact⟨S0,⟨HFR.out.at_ hbx hnx,⟨r0,HFR.out.at_ hbr hnr⟩,hSv⟩,HFR.out.imp (fun q _ e=>e.elim),fun q h=> .inl ((hS q).2 (.inl h))⟩
 case done=>
  rintro S ys W hys ⟨hBx,⟨r0,hRx⟩,hSv⟩ hK hnS hf;have hbw:Below w.heap.size w W:=HB1.out.trans ((hf.imp (D':=fun q=>w.heap.size≤q) (fun q _ e=>by rcases e with(e|e)|e|e <;>omega)).below' HB1.out.size);have hW1W:W1.heap.size < W.heap.size:=(Array.getElem?_eq_some_iff.1 hK).1;have hzw2:w.heap.size+2≤W.heap.size:=by omega
  have HKD:=zz hK;have hW1:w.heap.size+2≤W1.heap.size:=by omega
  clear hys hSv hnS hf hK hzw hzW g0 g1 HB1 HARW hseq;have hzw:=hzw2;clear hzw2;gi_wp2;refine wpIn_wide.2 (Lb ?_);have e0:=cell_of_row W w.heap.size 0 _ _ (0,0) hBx;simp at e0;have hHeld:(fun w'=>w'.cell? ⟨w.heap.size,0,none⟩=some (.pointer (some ⟨ab,0,none⟩))) (W).drew:=e0;refine AR (fun w'=>w'.cell? ⟨w.heap.size,0,none⟩=some (.pointer (some ⟨ab,0,none⟩))) 3 (by kernel_rfl) ?_;refine tz 0 _ _ _ ?_;refine tz 1 _ _ _ ?_;refine AB (i:=2) rfl (by kernel_rfl) (fun K hK=> ?_);go_simp;refine(TR.out _).mono ?_;rintro e w1 ⟨rfl,rfl⟩;refine hK.out _ _ (hHeld) (fun hHeld=> ?_);clear hK K
  try simp only[Act.put,sA,sB,sC,sD,sE,sF]
  refine AL (by kernel_rfl) ?_;simp only[List.drop_succ_cons,List.drop_zero];go_wp2_with fail;refine(TW.out _).mono ?_;rintro e w1 ⟨rfl,rfl⟩;have hdz:(W).drew.heap.size=(W).heap.size:=rfl;obtain⟨hbW,k1,k2,hzW⟩:=Oa (W).drew (.cells #[.pointer (some ⟨ab,0,none⟩)] 27) (.cells #[idV 1] 30);rw[hdz] at hbW k1 k2 hzW⊢;generalize World.alloc (World.alloc (W).drew _) _=W2 at hbW k1 k2 hzW⊢;have hbW:Below (W).heap.size W W2:=((Below.refl _ _).drew).trans hbW;generalize hnz:(W).heap.size=nz at hbW k1 k2 hzW hzw⊢;have g0:(W2).heap[w.heap.size]? =some (.cells #[.pointer (some ⟨ab,0,none⟩)] 27 (0,0)):=(hbW.block _ (by omega)).trans hBx;have g1:(W2).heap[w.heap.size+1]? =some (.cells #[r0] 4 (0,0)):=(hbW.block _ (by omega)).trans hRx;have hb1:Below w.heap.size w W2:=hbw.trans (hbW.mono (by omega));have hseq:=IK ab mb c M w.heap.size 1 (nz+1) nz F xs W2 (fun W' hf=>HAR.out.below (hb1.trans (hf.below' (by omega))) (Nat.le_refl _)) (cell_of_row W2 (nz+1) 0 _ _ (0,0) k2) (cell_of_row W2 nz 0 _ _ (0,0) k1) ⟨by omega,by omega,by omega,by omega⟩ (by decide) HKB.out HSH.out.walk HSH.out.f;have HB1:=zz hb1;have HARW:=zz (show∀W',Fr (fun q=>w.heap.size≤q) W2 W'→ArOk W' ab M from fun W' hf=>HA.out.below (hb1.trans (hf.below' (by omega))));have HBN:=zz (And.intro hnz hbW);clear k1 k2 hHeld hBx hRx hbw hbW e0 hb1 hdz hnz;go_wp2;gi_wp2;have hne0:W.heap.size≠W1.heap.size:=by omega
  refine Gd (gf:=63) rfl (enters_of Tryz.func63 (by kernel_rfl) rfl) hseq (Fr.refl _ _) rfl (fun q h=>by rcases h with h|h <;>omega) (by omega)
   (fun S _ A=>BoxI ab w.heap.size S A) (fun _ _ _ _=>False) (fun S _ x a A=>ShQ ab w.heap.size S x a A) (fun S pre A A' h hf=>h.fr hf) (fun _ _ _ _ _ h _=>h) ?hI1z (fun S pre A h q hq=>(h.lt q hq).2) ?hI1lz
   (fun q=>q=w.heap.size∨q=w.heap.size+1) ⟨g0,⟨_,g1⟩,fun q=>Iff.rfl⟩ (fun q e=>by rcases e with e|e <;>subst e <;>exact⟨by omega,by omega,by omega⟩) ?assignz ?bodyz ?donez ?stopz
  case hI1z=>
   rintro S pre x a A A' ⟨S0,blk,hi,ha,hb,hS,hn⟩ hf;exact⟨S0,blk,hi.fr (hf.imp (fun q _ h h'=>h (.inl ((hS q).2 (.inl h'))))),ha,hf.at_ hb (fun h=>h (.inl ((hS blk).2 (.inr rfl)))),hS,hn⟩
  case hI1lz=>
   rintro S pre x a A ⟨S0,blk,hi,ha,hb,hS,hn⟩ q hq;rcases(hS q).1 hq with h|h
   ·exact(hi.lt q h).2
   ·subst h;exact(Array.getElem?_eq_some_iff.1 hb).1
  case assignz=>
   intro l m S pre x A K hi hpre hx hkb hf hK;gi_wp2;refine hK (fun q=>S q∨q=A.heap.size) _ _ ⟨S,A.heap.size,hi.fr ((Fr.refl _ _).alloc _), ?_,heap_alloc_new A _,fun q=>Iff.rfl,fun h=>by have:=(hi.lt _ h).2;omega⟩ ((Fr.refl _ _).alloc _) (fun q h=>h.imp (fun h=>h) (fun h=>by omega));exact⟨_,_,_,_,_,_,_,_,_,_,_,_,_,_,_,_,_,_,_,_,_,_,_,_,_,_,_,_,_,_,_,_,_,_,_,_,_,_,_,_,_,_,_,_,_,_,_,_,_,_,_,_,_,_,_,_,_,_,_,_,_,_,_,_,_,_,_,_,_,rfl⟩
  case bodyz=>
   rintro l m S pre x a1 A ⟨S0,blk,⟨hbx,⟨r0,hbr⟩,hSv⟩,ha,hb,hS,hn⟩ hpre hf;obtain⟨u0,u3,u4,u7,u8,u9,u10,u11,u12,u13,u14,u15,u16,u17,u18,u19,u20,u21,u22,u23,u24,u25,u26,u27,u28,u29,u30,u31,u32,u33,u34,u35,u36,u37,u38,u39,u40,u41,u42,u43,u44,u45,u46,u47,u48,u49,u50,u51,u52,u53,u54,u55,u56,u57,u58,u59,u60,u61,u62,u63,u64,u65,u66,u67,u68,u69,u70,u71,u72,rfl⟩:=ha;have hxm:x.strip∈xs:=hpre.subset (by simp);have hf2:Fr (fun q=>w.heap.size≤q) W2 A:=hf.imp (fun q _ e=>by rcases e with(e|e)|e|e <;>omega);have hAA:=HARW.out A hf2;have hid:=HSH.out.id _ hxm;have hdp:=HSH.out.deep _ hxm;obtain⟨xi,nd,ka,kc⟩:=x;have hid:xi < Ae:=hid;have hdp:nd.kind=3→Cg M 201 xi≤90:=hdp;have TD:=zz (VA ab M 201 (by omega) A xi hAA hid);have hbl:=(Array.getElem?_eq_some_iff.1 hb).1;have hnx:¬(fun _:Nat=>False) w.heap.size:=fun h=>h;have hnr:¬(fun _:Nat=>False) (w.heap.size+1):=fun h=>h;have eB:=cell_of_row A w.heap.size 0 _ _ (0,0) hbx;have y0:=cell_of_row A blk 0 _ _ (0,0) hb;simp at eB y0;clear hpre hf hf2 hAA hxm;by_cases k3:nd.kind=3
   ·have q3:((nd.kind:Int)==3)=true:=by simp[k3]
    have hd9:=hdp k3;generalize Cg M 201 xi=d at TD hd9;have qd:decide ((90:Int) < (d:Int))=false:=by simp;omega
    have qd2:decide (90 < d)=false:=by simp;omega
    clear k3 hdp hd9;gi_wp2_with fail;refine⟨trivial,fun h=>(by cases h),(CallsIn.inRound l (callsIn_wide.2 TD.out)).mono ?_⟩;rintro e w5 ⟨rfl,hb5⟩;have HFA:Fr (fun _=>False) A w5:=Fr.of_below hb5;clear hb5 TD;have HFR:=zz HFA;clear HFA;gi_wp2;exact⟨S0,⟨HFR.out.at_ hbx hnx,⟨r0,HFR.out.at_ hbr hnr⟩,hSv⟩,HFR.out.imp (fun q _ e=>e.elim),fun q h=> .inl ((hS q).2 (.inl h))⟩
   ·have q3:((nd.kind:Int)==3)=false:=by simp;omega
    clear k3 hdp TD;have HFA:Fr (fun _=>False) A A:=Fr.refl _ _;gi_wp2_with fail;refine⟨trivial, ?_⟩;have HFR:=zz HFA;clear HFA;gi_wp2;exact⟨S0,⟨HFR.out.at_ hbx hnx,⟨r0,HFR.out.at_ hbr hnr⟩,hSv⟩,HFR.out.imp (fun q _ e=>e.elim),fun q h=> .inl ((hS q).2 (.inl h))⟩
  case donez=>
   rintro S ys W3 hys ⟨hbx,⟨r0,hbr⟩,hSv⟩ hK hnS hf;have eB:=cell_of_row W3 (w.heap.size+1) 0 _ _ (0,0) hbr;simp at eB;have fB:W3.frozen? ⟨w.heap.size+1,0,none⟩=false:=by simp[World.frozen?,hbr]
   have hl2:=(Array.getElem?_eq_some_iff.1 hbr).1;have hkW:W2.heap[W1.heap.size]? =some (.deferred (some [])):=(HBN.out.2.block _ (by have:=HBN.out.1;omega)).trans HKD.out;have hkW3:W3.heap[W1.heap.size]? =some (.deferred (some [])):=hf.at_ hkW (fun e=>by have:=HBN.out.1;rcases e with(e|e)|e|e <;>omega);have hne2:¬w.heap.size+1=W2.heap.size:=by omega
   have hne1:¬w.heap.size+1=W1.heap.size:=by omega
   have hne3:¬W1.heap.size=W2.heap.size:=by have:=HBN.out.1;omega
   have hK2:(W3.setCell ⟨w.heap.size+1,0,none⟩ (.bool true)).heap[W2.heap.size]? =some (.deferred (some [])):=(Below.heap_setCell W3 ⟨w.heap.size+1,0,none⟩ (.bool true) W2.heap.size (fun e=>hne2 e.symm)).trans hK;have hK1:(W3.setCell ⟨w.heap.size+1,0,none⟩ (.bool true)).heap[W1.heap.size]? =some (.deferred (some [])):=(Below.heap_setCell W3 ⟨w.heap.size+1,0,none⟩ (.bool true) W1.heap.size (fun e=>hne1 e.symm)).trans hkW3;have hfs:=hf.set (p:=⟨w.heap.size+1,0,none⟩) (.inl (.inl (.inr rfl))) (.bool true);have hbs:(W3.setCell ⟨w.heap.size+1,0,none⟩ (.bool true)).heap[w.heap.size+1]? =some (.cells #[.bool true] 4 (0,0)):=heap_setCell_same hbr _;have hpf:=DY (W3.setCell ⟨w.heap.size+1,0,none⟩ (.bool true)) W2.heap.size (.deferred none);have hK3:=hpf.at_ hK1 hne3;have hbs2:=hpf.at_ hbs hne2;have hpg:=DY ((W3.setCell ⟨w.heap.size+1,0,none⟩ (.bool true)).putObj W2.heap.size (.deferred none)) W1.heap.size (.deferred none);have hcell:(((W3.setCell ⟨w.heap.size+1,0,none⟩ (.bool true)).putObj W2.heap.size (.deferred none)).putObj W1.heap.size (.deferred none)).cell? ⟨w.heap.size+1,0,none⟩=some (.bool true):=by
    have:=cell_of_row _ (w.heap.size+1) 0 _ _ (0,0) (hpg.at_ hbs2 hne1);simpa using this
   have HFIN:=zz (show Below w.heap.size w (((W3.setCell ⟨w.heap.size+1,0,none⟩ (.bool true)).putObj W2.heap.size (.deferred none)).putObj W1.heap.size (.deferred none)) from by
    have h1:=HB1.out.trans ((hfs.imp (D':=fun q=>w.heap.size≤q) (fun q _ e=>by rcases e with(e|e)|e|e <;>omega)).below' HB1.out.size);have h2:=h1.trans ((hpf.imp (D':=fun q=>w.heap.size≤q) (fun q _ e=>by omega)).below' h1.size);exact h2.trans ((hpg.imp (D':=fun q=>w.heap.size≤q) (fun q _ e=>by omega)).below' h2.size))
   clear hbx hbr hSv hf hfs hbs hpf hpg hbs2 hK hnS hkW hkW3 hK1;gi_wp2;refine⟨by simp,.inl ⟨_,_,rfl,run_takeDeferred hK2,⟨by simp,.inl ⟨_,_,rfl,run_takeDeferred hK3, ?_⟩⟩⟩⟩;refine⟨.bool true, ?_,rfl,HFIN.out⟩
   simp[results,Tryz.results45,go_sem,hcell]
  case stopz=>
   intro c S pre W hpre h;exact h.elim
 case stop=>
  intro c S pre W hpre h;exact h.elim
end Go.Proofs.YtljmibnfmilfbaaGreatDoor
namespace Go.Proofs.YtljmibnfmilfbaaGreatDoor
open Go.RowKit
open Hg (GT gl wk isK ndAt CS KB KT Fs De okT Ib RB)
structure Td (M:Nat→Option Hg.Node) (par:Nat→Nat×Int) (abv:Nat→Nat) (F F2:Nat) (xs:List (Nat×Hg.Node)):Prop where
 prs:LZ M par
 shaped:Qr M par F xs
 clash:KT M
 f2:F2≤1000000
 hidden:∀x∈xs,x.2.kind=15∨x.2.kind=7→∃R,Fs M par F2 x.1 [] []=some R∧0≤idxI R x.2.ref∧R.length≤1000000
 abo:Tf M abv
 rb:RB M
 id:∀x∈xs,x.1≤1000000
 h18:∀x∈xs,x.2.kind=18→0 < x.2.kids.length
 idx:∀x∈xs,x.2.kind≠19→(De M abv x.1 x.2).length≤x.2.kids.length
def Oj(M:Nat→Option Hg.Node)(abv:Nat→Nat)(xs:List (Nat×Hg.Node)):Nat:=if xs.all (okT M abv) then(if Ib M=0 then 3 else 0) else 11
theorem UR(ab:Nat)(M:Nat→Option Hg.Node)(par:Nat→Nat×Int)(abv:Nat→Nat)(F F2:Nat)(xs:List (Nat×Hg.Node))(w:World)(hA:ArOk w ab M)(hT:Bl w)(hR:Td M par abv F F2 xs):
 Calls Tryz.prog 18 #[.pointer (some ⟨ab,0,none⟩)] w fun e w'=>e= .returned (.int .i64 (Oj M abv xs:Int))∧Below w.heap.size w w':=by
 have T1:=zz (L8 ab M par hR.prs F xs w hA hT hR.shaped);have T2:=zz (fun W (h:Below w.heap.size w W)=>VD ab M W (hA.below h) hR.clash);have T3:=zz (fun W (h:Below w.heap.size w W)=>Re ab M par hR.prs F F2 xs W (hA.below h) hR.shaped.walk hR.shaped.f hR.f2 hR.shaped.id hR.hidden);have T4:=zz (fun W (h:Below w.heap.size w W)=>Tp ab M abv hR.abo hR.rb F xs W (hA.below h) hR.shaped.walk hR.shaped.f hR.id hR.h18 hR.idx);have T5:=zz (fun W (h:Below w.heap.size w W)=>QM ab M W (hA.below h));unfold Oj;generalize xs.all (okT M abv)=ok at T4⊢;generalize Ib M=mk at T5⊢;clear hA hT hR;go_enter Tryz.func18,Tryz.ntmps18;go_wp2_with fail;refine T1.out.mono ?_;rintro e w1 ⟨rfl,hb1⟩;have HB1:=zz hb1;clear T1 hb1;go_wp2_with fail;refine(T2.out _ HB1.out).mono ?_;rintro e w2 ⟨rfl,hb2⟩;have HB2:=zz (HB1.out.trans (hb2.mono HB1.out.size));clear T2 hb2;go_wp2_with fail;refine(T3.out _ HB2.out).mono ?_;rintro e w3 ⟨rfl,hb3⟩;have HB3:=zz (HB2.out.trans (hb3.mono HB2.out.size));clear T3 hb3;go_wp2_with fail;refine(T4.out _ HB3.out).mono ?_;rintro e w4 ⟨rfl,hb4⟩;have HB4:=zz (HB3.out.trans (hb4.mono HB3.out.size));clear T4 hb4;cases ok with
 |false=>
   go_wp2;go_ret;exact⟨rfl,HB4.out⟩
 |true=>
   go_wp2_with fail;refine(T5.out _ HB4.out).mono ?_;rintro e w5 ⟨rfl,hb5⟩;have HB5:=zz (HB4.out.trans (hb5.mono HB4.out.size));clear T5 hb5;by_cases h0:mk=0
   ·subst h0
    go_wp2;go_ret;exact⟨rfl,HB5.out⟩
   ·have q0:((mk:Int)==0)=false:=by simp;omega
    have HN:=zz h0;clear h0;go_wp2;go_ret;exact⟨by first|rfl|(rw[if_pos rfl,if_neg HN.out];rfl),HB5.out⟩
end Go.Proofs.YtljmibnfmilfbaaGreatDoor
namespace Hg
open Go.Proofs.YtljmibnfmilfbaaGreatDoor (idxI)
def GQ(id:Nat):List Row→Nat×Int
 |[]=>(0,0)
 |r::rows=>if 0≤idxI r.node.kids id∧((GQ id rows).1=0∨r.id < (GQ id rows).1) then(r.id,idxI r.node.kids id) else GQ id rows
theorem Ji(id:Nat):∀(rows:List Row),(∀r∈rows,r.id≠0)→
 ((GQ id rows).1=0∧(GQ id rows).2=0∧∀r∈rows,idxI r.node.kids id < 0)∨
 ((GQ id rows).1≠0∧(∃r∈rows,r.id=(GQ id rows).1∧idxI r.node.kids id=(GQ id rows).2∧0≤(GQ id rows).2)∧∀r∈rows,0≤idxI r.node.kids id→(GQ id rows).1≤r.id)
 |[],_=> .inl ⟨rfl,rfl,fun r h=>by simp at h⟩
 |r::rows,h0=>by
   have ih:=Ji id rows (fun x hx=>h0 x (List.mem_cons_of_mem _ hx));rw[GQ];generalize GQ id rows=b at ih;obtain⟨p,k⟩:=b;dsimp only at ih⊢;have hr0:=h0 r (by simp);by_cases hc:0≤idxI r.node.kids id∧(p=0∨r.id < p)
   ·rw[if_pos hc]
    right;refine⟨hr0,⟨r,by simp,rfl,rfl,hc.1⟩,fun x hx h=> ?_⟩;rcases List.mem_cons.1 hx with e|hx
    ·subst e;exact Nat.le_refl _
    ·rcases ih with⟨h1,h2,h3⟩|⟨h1,h2,h3⟩
     ·have:=h3 x hx;omega
     ·have:=h3 x hx h
      show r.id≤x.id;omega
   ·rw[if_neg hc]
    rcases ih with⟨h1,h2,h3⟩|⟨h1,⟨x,hx,h2⟩,h3⟩
    ·left
     refine⟨h1,h2,fun x hx=> ?_⟩;rcases List.mem_cons.1 hx with e|hx
     ·subst e;omega
     ·exact h3 x hx
    ·right
     refine⟨h1,⟨x,List.mem_cons_of_mem _ hx,h2⟩,fun y hy h=> ?_⟩;rcases List.mem_cons.1 hy with e|hy
     ·subst e;omega
     ·exact h3 y hy h
structure GI (rows:List Row):Prop where
 nodup:(rows.map Row.id).Nodup
 zero:∀r∈rows,r.id≠0
 top:∀r∈rows,r.id < 18446744073709551616
theorem Ca{rows:List Row}(h:GI rows){i:Nat}{n:Node}:rowM rows i=some n↔∃r∈rows,r.id=i∧r.node=n:=by
 unfold rowM;constructor
 ·intro he
  cases hf:rows.find? (fun r=>r.id==i) with
  |none=>rw[hf] at he;cases he
  |some r=>
    rw[hf] at he;injection he with he;exact⟨r,List.mem_of_find?_eq_some hf,by simpa using List.find?_some hf,he⟩
 ·rintro⟨r,hr,rfl,rfl⟩
  rw[Mt rows h.nodup r hr];rfl
theorem Iw{rows:List Row}(h:GI rows):rowM rows 0=none:=by
 cases hm:rowM rows 0 with
 |none=>rfl
 |some n=>
   obtain⟨r,hr,h0,_⟩:=(Ca h).1 hm;exact absurd h0 (h.zero r hr)
def parR(rows:List Row)(id:Nat):Nat×Int:=GQ id rows
def abvL(rows:List Row):Nat→Nat→Nat
 |0,_=>0
 |f+1,id=>if id=0 then 0 else match rowM rows id with
   |none=>0
   |some n=>if n.kind=3 then id else abvL rows f (parR rows id).1
def abvR(rows:List Row)(id:Nat):Nat:=abvL rows (id+1) id
end Hg
namespace Go.Proofs.YtljmibnfmilfbaaGreatDoor
open Hg (Row Node rowM GI Ca Iw GQ Ji parR abvL abvR)
theorem Oq{rows:List Row}(h:GI rows)(id:Nat):ET (rowM rows) id (fun i=>i < Ae) (parR rows id).1 (parR rows id).2:=by
 unfold parR;rcases Ji id rows h.zero with⟨h1,h2,h3⟩|⟨h1,⟨r,hr,h2,h4,h5⟩,h3⟩
 ·left
  refine⟨h1,h2,fun i nd _ hm=> ?_⟩;obtain⟨r,hr,rfl,rfl⟩:=(Ca h).1 hm;exact h3 r hr
 ·right
  refine⟨h1, ?_,⟨r.node,(Ca h).2 ⟨r,hr,h2,rfl⟩,h4,h5⟩,fun i nd _ hm h0=> ?_⟩
  ·have:=h.top r hr
   show _ < 18446744073709551616;omega
  ·obtain⟨x,hx,rfl,rfl⟩:=(Ca h).1 hm
   exact h3 x hx h0
theorem RO{rows:List Row}(h:GI rows):LZ (rowM rows) (parR rows):=⟨Iw h,Oq h⟩
def DecR(rows:List Row):Prop:=∀r∈rows,(parR rows r.id).1 < r.id∨(parR rows r.id).1=0
theorem VL{rows:List Row}(h:GI rows)(hd:DecR rows):∀(f id:Nat),id < f→JR (rowM rows) 3 id (abvL rows f id):=by
 intro f
 induction f with
 |zero=>intro id h;omega
 |succ f ih=>
   intro id hid;rw[abvL];by_cases h0:id=0
   ·rw[if_pos h0,h0];exact .zero
   ·rw[if_neg h0]
    cases hm:rowM rows id with
    |none=>exact .none id hm
    |some n=>
      dsimp only;by_cases hk:n.kind=3
      ·rw[if_pos hk];exact .hit id n h0 hm hk
      ·rw[if_neg hk]
       refine .step id n _ _ _ h0 hm hk (Oq h id) (ih _ ?_);obtain⟨r,hr,rfl,_⟩:=(Ca h).1 hm;rcases hd r hr with e|e <;>omega
theorem X6{rows:List Row}(hd:DecR rows)(h:GI rows):∀(f id:Nat),id < f→abvL rows f id=0∨∃r∈rows,r.id=abvL rows f id:=by
 intro f
 induction f with
 |zero=>intro id h;omega
 |succ f ih=>
   intro id hid;rw[abvL];by_cases h0:id=0
   ·rw[if_pos h0];exact .inl rfl
   ·rw[if_neg h0]
    cases hm:rowM rows id with
    |none=>exact .inl rfl
    |some n=>
      dsimp only;obtain⟨r,hr,hi,_⟩:=(Ca h).1 hm;by_cases hk:n.kind=3
      ·rw[if_pos hk];exact .inr ⟨r,hr,hi⟩
      ·rw[if_neg hk]
       exact ih _ (by have:=hd r hr;rw[hi] at this;omega)
theorem SG{rows:List Row}(h:GI rows)(hd:DecR rows)(hk:∀r∈rows,r.node.kind≤255):Tf (rowM rows) (abvR rows):=by
 refine⟨Iw h,fun i n hm=> ?_,fun i n p k hm hp=> ?_,fun id _=>VL h hd _ _ (Nat.lt_succ_self _),fun id=> ?_⟩
 ·obtain⟨r,hr,_,rfl⟩:=(Ca h).1 hm
  exact hk r hr
 ·obtain⟨e,_⟩:=hp.unique (Oq h i)
  obtain⟨r,hr,rfl,_⟩:=(Ca h).1 hm;rw[e];exact hd r hr
 ·unfold abvR
  rcases X6 hd h (id+1) id (Nat.lt_succ_self _) with e|⟨r,hr,e⟩
  ·rw[e];decide
  ·rw[←e];exact h.top r hr
end Go.Proofs.YtljmibnfmilfbaaGreatDoor
namespace Go.Proofs.YtljmibnfmilfbaaGreatDoor
open Hg (Row rowM GI Ca Iw parR abvR gl wk Fs tRun Qq H6 KT Ce Bj C9 BR De MG Cg okT Ib RB stP exP kk)
instance (M:Nat→Option Hg.Node) (n:Hg.Node):Decidable (H6 M n):=by unfold H6;infer_instance
instance (M:Nat→Option Hg.Node) (n:Hg.Node):Decidable (JD M n):=by unfold JD;infer_instance
theorem Mi{β:Type}:∀(R:List (Nat×β)) (i:Nat),(gl R i).isSome=true→∃p∈R,p.1=i
 |[],i,h=>by cases h
 |(k,v)::R,i,h=>by
   rw[Hg.JB] at h;by_cases e:k=i
   ·exact⟨(k,v),by simp,e⟩
   ·rw[if_neg (by simpa using e)] at h
    obtain⟨p,hp,e⟩:=Mi R i h;exact⟨p,List.mem_cons_of_mem _ hp,e⟩
def S9(M:Nat→Option Hg.Node)(par:Nat→Nat×Int)(x:Nat×Hg.Node):Bool:=match Fs M par 1000 x.1 [] [] with
 |none=>false
 |some R=>decide (0≤idxI R x.2.ref) && decide (R.length≤1000000)
def Qm(M:Nat→Option Hg.Node)(f:Nat):Bool:=match wk M 1000 [f] [] with
 |none=>false
 |some xs=>decide (BR xs).Nodup
def TJ(rows:List Row)(x:Nat×Hg.Node):Bool:=
 decide (x.1≤1000000) && decide (1≤x.2.kind∧x.2.kind≤20) && decide (H6 (rowM rows) x.2) && decide (JD (rowM rows) x.2) && decide (x.2.kind=1↔x.1=1) &&
 (!(x.2.kind==5)||MG (rowM rows) (parR rows) x.1 x.2) && (!(x.2.kind==3)||decide (Cg (rowM rows) 201 x.1≤90)) &&
 (!(x.2.kind==15||x.2.kind==7)||S9 (rowM rows) (parR rows) x) && (!(x.2.kind==18)||decide (0 < x.2.kids.length)) &&
 (x.2.kind==19||decide ((De (rowM rows) (abvR rows) x.1 x.2).length≤x.2.kids.length))
def Sz(rows:List Row):Bool:=match tRun (rowM rows) 1000 [1] [(1,1)] with
 |none=>false
 |some R=>(R.all fun p=>((rowM rows) p.1).isSome) && rows.all fun r=>(gl R r.id).isSome
def TH(rows:List Row):Bool:=
 decide (rows.map Row.id).Nodup && (rows.all fun r=>decide (r.id≠0) && decide (r.id < 18446744073709551616) && decide (r.node.kind≤255) && decide (r.node.ref < 18446744073709551616) && (r.node.ref==0||((rowM rows) r.node.ref).isSome) && (decide ((parR rows r.id).1 < r.id)||(parR rows r.id).1==0)) &&
 (match rowM rows 1 with|none=>false|some nd=>nd.kind==1) && Sz rows &&
 decide ((Ce (rowM rows)).map (C9 (rowM rows))).Nodup && ((Ce (rowM rows)).all fun m=>decide ((Bj (rowM rows) m).map (C9 (rowM rows))).Nodup && (Bj (rowM rows) m).all fun f=>Qm (rowM rows) f)
def R5(rows:List Row)(right:Nat):Bool:=TH rows && match wk (rowM rows) 1000 [1] [] with
 |none=>false
 |some xs=>xs.all (TJ rows) && Oj (rowM rows) (abvR rows) xs==right
theorem VE{rows:List Row}{right:Nat}(h:R5 rows right=true):∃xs,Td (rowM rows) (parR rows) (abvR rows) 1000 1000 xs∧Oj (rowM rows) (abvR rows) xs=right:=by
 unfold R5 at h;rw[Bool.and_eq_true] at h;obtain⟨hr,h⟩:=h;cases hw:wk (rowM rows) 1000 [1] [] with
 |none=>rw[hw] at h;cases h
 |some xs=>
 rw[hw] at h;dsimp only at h;rw[Bool.and_eq_true,List.all_eq_true,beq_iff_eq] at h;obtain⟨hx,hri⟩:=h;unfold TH at hr;simp only[Bool.and_eq_true,List.all_eq_true,decide_eq_true_eq,Bool.or_eq_true,beq_iff_eq] at hr;obtain⟨⟨⟨⟨⟨hnd,hall⟩,hroot⟩,htree⟩,hmod⟩,hfun⟩:=hr;have hRO:GI rows:=⟨hnd,fun r hr=>(hall r hr).1.1.1.1.1,fun r hr=>(hall r hr).1.1.1.1.2⟩;have hD:Hg.GI rows∧DecR rows:=⟨hRO,fun r hr=>(hall r hr).2⟩;have hN:∀x∈xs,_:=fun x hxm=>hx x hxm;simp only[TJ,Bool.and_eq_true,decide_eq_true_eq,Bool.or_eq_true,beq_iff_eq,Bool.not_eq_true',Bool.or_eq_false_iff,beq_eq_false_iff_ne] at hN;refine⟨xs,⟨RO hRO,⟨?_,hw,by omega,fun x hm=> ?_,fun x hm=>(hN x hm).1.1.1.1.1.1.1.1.2,fun x hm=>(hN x hm).1.1.1.1.1.1.1.2,fun x hm=>(hN x hm).1.1.1.1.1.1.2,fun x hm=>(hN x hm).1.1.1.1.1.2,fun x hm hk=> ?_,fun x hm hk=> ?_⟩,⟨hmod,fun m hm=>(hfun m hm).1,fun m hm f hf=> ?_⟩,by omega,fun x hm hk=> ?_,SG hRO hD.2 (fun r hr=>(hall r hr).1.1.1.2),fun i nd hm=> ?_,fun x hm=>(hN x hm).1.1.1.1.1.1.1.1.1,fun x hm hk=> ?_,fun x hm hk=> ?_⟩,hri⟩
 ·unfold Sz at htree
  cases hT:tRun (rowM rows) 1000 [1] [(1,1)] with
  |none=>rw[hT] at htree;cases htree
  |some R=>
    rw[hT] at htree;simp only[Bool.and_eq_true,List.all_eq_true] at htree;refine⟨1000,R,⟨?_,hT,fun i=> ?_,fun i nd hm=> ?_⟩⟩
    ·cases hm:rowM rows 1 with
     |none=>rw[hm] at hroot;cases hroot
     |some nd=>rw[hm] at hroot;exact⟨nd,rfl,by simpa using hroot⟩
    ·cases hm:rowM rows i with
     |none=>
       cases hg:(gl R i).isSome with
       |false=>rfl
       |true=>
         obtain⟨p,hp,e⟩:=Mi R i hg;have:=htree.1 p hp;rw[e,hm] at this;cases this
     |some n=>
       obtain⟨r,hr,e,_⟩:=(Ca hRO).1 hm;have:=htree.2 r hr;rw[e] at this;rw[this];rfl
    ·obtain⟨r,hr,_,rfl⟩:=(Ca hRO).1 hm
     exact⟨(hall r hr).1.1.2,(hall r hr).1.2⟩
 ·have:=(hN x hm).1.1.1.1.1.1.1.1.1
  unfold Ae;omega
 ·rcases(hN x hm).1.1.1.1.2 with e|e
  ·exact absurd hk e
  ·exact e
 ·rcases(hN x hm).1.1.1.2 with e|e
  ·exact absurd hk e
  ·exact e
 ·have h2:=(hfun m hm).2 f hf
  unfold Qm at h2;cases hw2:wk (rowM rows) 1000 [f] [] with
  |none=>rw[hw2] at h2;cases h2
  |some ys=>rw[hw2] at h2;exact⟨1000,ys,hw2,by omega,by simpa using h2⟩
 ·rcases(hN x hm).1.1.2 with e|e
  ·omega
  ·unfold S9 at e
   cases hs:Fs (rowM rows) (parR rows) 1000 x.1 [] [] with
   |none=>rw[hs] at e;cases e
   |some R=>
     rw[hs] at e;simp only[Bool.and_eq_true,decide_eq_true_eq] at e;exact⟨R,rfl,e.1,e.2⟩
 ·obtain⟨r,hr,_,rfl⟩:=(Ca hRO).1 hm
  exact(hall r hr).1.1.2
 ·rcases(hN x hm).1.2 with e|e
  ·exact absurd hk e
  ·exact e
 ·rcases(hN x hm).2 with e|e
  ·exact absurd e hk
  ·exact e
end Go.Proofs.YtljmibnfmilfbaaGreatDoor
namespace Go.Proofs.YtljmibnfmilfbaaGreatDoor
open Go.RowKit
open Hg (Row rowM KB GT)
def numB(l:List Hg.Tok):Bool:=l.all fun t=> !(t.kind==2)||(List.range 10).any fun n=>t.text==[UInt8.ofNat (48+n)]
def PM(s:List UInt8):Bool:=decide (s.length≤100000) && match Hg.Cz s with
 |none=>false
 |some L=>numB L && decide (L.length≤1000000) && match Hg.OC L with
   |none=>false
   |some t=>decide (t.subs.length≤5000) && t.subs.all fun x=>x.nd.ref==0 && decide (x.nd.name.length≤1000000) && decide (x.tt.length≤1000000) && decide (x.md.length≤1000000)
theorem R4{s:List UInt8}(h:PM s=true):∃L t0,GPOk s L t0:=by
 unfold PM at h;rw[Bool.and_eq_true,decide_eq_true_eq] at h;obtain⟨hl,h⟩:=h;cases hL:Hg.Cz s with
 |none=>rw[hL] at h;cases h
 |some L=>
 rw[hL] at h;dsimp only at h;cases hg:Hg.OC L with
 |none=>rw[hg] at h;simp at h
 |some t=>
 rw[hg] at h;simp only[Bool.and_eq_true,decide_eq_true_eq,List.all_eq_true,beq_iff_eq] at h;refine⟨L,t,hl,hL, ?_,h.1.2,hg,h.2.1,fun x hx=> ?_⟩
 ·intro tk htk hk
  have:=h.1.1;unfold numB at this;rw[List.all_eq_true] at this;have:=this tk htk;rw[hk] at this;simp only[beq_self_eq_true,Bool.not_true,Bool.false_or,List.any_eq_true,List.mem_range,beq_iff_eq] at this;exact this
 ·obtain⟨⟨⟨h1,h2⟩,h3⟩,h4⟩:=h.2.2 x hx
  exact⟨h1,h2,h3,h4⟩
def Wz(rows:List Row):Bool:=rows.all fun r=>r.node.kids.all fun k=>decide (k < 18446744073709551616)
theorem Xq{rows:List Row}(h:Wz rows=true):KB (rowM rows):=by
 intro i nd hm k hk;unfold rowM at hm;cases hf:rows.find? (fun r=>r.id==i) with
 |none=>rw[hf] at hm;cases hm
 |some r=>
   rw[hf] at hm;injection hm with hm;have hr:=List.mem_of_find?_eq_some hf;unfold Wz at h;rw[List.all_eq_true] at h;have h2:=h r hr;rw[List.all_eq_true] at h2;subst hm;simpa using h2 k hk
def Sr(s:List UInt8)(right mn:Nat):Bool:=PM s && match Hg.Mm s with
 | .error _=>false
 | .ok rows=>Wz rows && R5 rows right && Hg.Ib (rowM rows)==mn
def YB(right mn:Nat)(w:World)(e:Ending)(w':World):Prop:=
 ∃ab M,e= .returned (.tuple #[.pointer (some ⟨ab,0,none⟩),.int .i64 0])∧ArOk w' ab M∧Hg.Ib M=mn∧Below w.heap.size w w'∧
   ∀W,ArOk W ab M→Bl W→Calls Tryz.prog 18 #[.pointer (some ⟨ab,0,none⟩)] W fun e w'=>e= .returned (.int .i64 (right:Int))∧Below W.heap.size W w'
theorem QX{s:List UInt8}{right mn:Nat}(h:Sr s right mn=true)(w:World)(hT:Bl w):
 Calls Tryz.prog 17 #[.string ⟨s.toArray⟩] w (YB right mn w):=by
 unfold Sr at h;rw[Bool.and_eq_true] at h;obtain⟨hc,h⟩:=h;obtain⟨L,t0,hG⟩:=R4 hc;cases hp:Hg.Mm s with
 |error e=>rw[hp] at h;cases h
 |ok rows=>
   rw[hp] at h;simp only[Bool.and_eq_true,beq_iff_eq] at h;obtain⟨⟨hkb,hch⟩,hmn⟩:=h;obtain⟨xs,hR,hri⟩:=VE hch;refine(Rf s L t0 hG w hT _ hp (fun e=>by cases e)).mono ?_;rintro e w' ⟨hb,ab,mb,c,rfl,hAr⟩;exact⟨ab,rowM rows,rfl,⟨⟨mb,c,hAr⟩,Xq hkb⟩,hmn,hb,fun W hA hT=>by
    have:=UR ab (rowM rows) _ _ _ _ xs W hA hT hR;rw[hri] at this;exact this⟩
end Go.Proofs.YtljmibnfmilfbaaGreatDoor
namespace Hg
def Yo(s:Str):Nat:=match Mm s with| .ok rows=>Ib (rowM rows)| .error _=>0
end Hg
namespace Go.Proofs.YtljmibnfmilfbaaGreatDoor
open Go.RowKit
theorem awk1:Sr [109,111,100,117,108,101,32,109,97,105,110,32,123,32,102,117,110,99,32,109,97,105,110,40,41,32,105,110,116,32,123,32,114,101,116,117,114,110,32,40,49,32,43,32,116,114,117,101,41,59,32,125,32,125] 11 (Hg.Yo [109,111,100,117,108,101,32,109,97,105,110,32,123,32,102,117,110,99,32,109,97,105,110,40,41,32,105,110,116,32,123,32,114,101,116,117,114,110,32,40,49,32,43,32,116,114,117,101,41,59,32,125,32,125])=true:=by decide+kernel
theorem awk2:Sr [109,111,100,117,108,101,32,109,97,105,110,32,123,32,102,117,110,99,32,109,97,105,110,40,41,32,105,110,116,32,123,32,114,101,116,117,114,110,32,40,49,32,43,32,50,41,59,32,125,32,125] 0 3=true:=by decide+kernel
theorem SB(w:World)(hT:Bl w):Calls Tryz.prog 4 #[] w fun e w'=>e= .returned (.bool true)∧Below w.heap.size w w':=by
 have T1:=zz (QX awk1 w hT);have T2:=zz (fun W (h:Below w.heap.size w W)=>QX awk2 W (hT.block (h.block _ hT.lt)));have HT:=zz hT;clear hT;go_enter Tryz.func4,Tryz.ntmps4;go_wp2_with fail;refine T1.out.mono ?_;rintro e w1 ⟨a1,M1,rfl,hA1,hm1,hb1,hR1⟩;have HA1:=zz hA1;have HB1:=zz hb1;have HR1:=zz hR1;clear T1 hA1 hb1 hR1 hm1;go_wp2_with fail;refine(T2.out _ HB1.out).mono ?_;rintro e w2 ⟨a2,M2,rfl,hA2,hm2,hb2,hR2⟩;have HA2:=zz hA2;have HB2:=zz (HB1.out.trans (hb2.mono HB1.out.size));have HR2:=zz hR2;have TR1:=zz (HR1.out w2 (HA1.out.below hb2) (HT.out.block (HB2.out.block _ HT.out.lt)));have HM2:=zz hm2;clear T2 hA2 hb2 hR2 hm2;go_wp2_with fail;refine TR1.out.mono ?_;rintro e w3 ⟨rfl,hb3⟩;have HB3:=zz (HB2.out.trans (hb3.mono HB2.out.size));have TR2:=zz (HR2.out w3 (HA2.out.below hb3) (HT.out.block (HB3.out.block _ HT.out.lt)));have HA3:=zz (HA2.out.below hb3);clear TR1 hb3;go_wp2_with fail;refine TR2.out.mono ?_;rintro e w4 ⟨rfl,hb4⟩;have HB4:=zz (HB3.out.trans (hb4.mono HB3.out.size));have TM:=QM a2 M2 w4 (HA3.out.below hb4);rw[HM2.out] at TM;have TM2:=zz TM;clear TR2 hb4 TM;go_wp2_with fail;refine TM2.out.mono ?_;rintro e w5 ⟨rfl,hb5⟩;have HB5:=zz (HB4.out.trans (hb5.mono HB4.out.size));clear TM2 hb5;go_wp2;go_ret;exact⟨rfl,HB5.out⟩
end Go.Proofs.YtljmibnfmilfbaaGreatDoor
namespace Hg
theorem Dt(l:List Row)(id:Nat):AV l id=ndAt (rowM l) id:=by
 unfold AV ndAt rowM;cases l.find? (fun r=>r.id==id) <;>rfl
theorem IP{l:List Row}{id:Nat}(h:(AV l id).kind≠0):∃r∈l,r.id=id∧rowM l id=some r.node∧AV l id=r.node:=by
 rw[Dt] at h⊢;unfold ndAt at h⊢;unfold rowM at h⊢;cases hf:l.find? (fun r=>r.id==id) with
 |none=>rw[hf] at h;exact absurd rfl h
 |some r=>exact⟨r,List.mem_of_find?_eq_some hf,by simpa using List.find?_some hf,rfl,rfl⟩
theorem Jo(l:List Row):∀(rs:List Row),Ck l rs=true→∀r∈rs,DX l r=true
 |[],_,r,hr=>by cases hr
 |r0::rs,h,r,hr=>by
   rw[Ck] at h;by_cases h0:DX l r0=false
   ·rw[if_pos h0] at h;cases h
   ·rw[if_neg h0] at h
    rcases List.mem_cons.1 hr with e|e
    ·subst e;simpa using h0
    ·exact Jo l rs h r e
theorem Og{l:List Row}(h:shaped l=some true):tree l=true∧∀r∈l,DX l r=true:=by
 unfold shaped at h;by_cases h1:tree l=false
 ·rw[if_pos h1] at h;cases h
 rw[if_neg h1] at h;by_cases h2:Ck l l=false
 ·rw[if_pos h2] at h;cases h
 exact⟨by simpa using h1,Jo l l (by simpa using h2)⟩
theorem Fp{l:List Row}{r:Row}(h:DX l r=true):(decide (r.node.kind=1)=decide (r.id=1))∧fits r.node.kind (classes l r.node.kids) (decide (kindOf l (parentOf l r.id).1=3))=true∧
 (isNamed r.node.kind=true→Bz r.node.name=true):=by
 unfold DX at h;dsimp only at h
 split at h
 ·cases h
 rename_i h1
 split at h
 ·cases h
 rename_i h2
 refine⟨?_, ?_,fun hn=> ?_⟩
 ·by_cases e:decide (r.node.kind=1)=decide (r.id=1)
  ·exact e
  ·exact absurd (.inr (.inr (.inl e))) h1
 ·by_cases e:fits r.node.kind (classes l r.node.kids) (decide (kindOf l (parentOf l r.id).1=3))=false
  ·exact absurd (.inr (.inr (.inr e))) h1
  ·simpa using e
 ·by_cases e:Bz r.node.name=false
  ·exact absurd (.inr ⟨hn,.inl e⟩) h2
  ·simpa using e
theorem Rz{k:Nat}(h:FV k=77):k=2:=by
 by_cases e:k=2
 ·exact e
 ·exfalso
  unfold FV at h
  revert h
  (repeat' split) <;>first|exact absurd ‹k=2› e|decide
theorem R3{k:Nat}(h:FV k=70):k=3:=by
 by_cases e:k=3
 ·exact e
 ·exfalso
  unfold FV at h
  revert h
  (repeat' split) <;>first|exact absurd ‹k=3› e|decide
theorem Pw{s:Str}{c:UInt8}(h:only s [c]=true):∀x∈s,x=c:=by
 intro x hx;unfold only at h;rw[List.all_eq_true] at h;simpa using h x hx
theorem Mv{M:Nat→Option Node}{kind:Nat}(h0:kind≠0){l:List Nat}(h:∀k∈l,(ndAt M k).kind=kind):l.filter (isK M kind)=l:=by
 rw[List.filter_eq_self];intro k hk;have:=h k hk;unfold isK;unfold ndAt at this;cases hM:M k with
 |none=>rw[hM] at this;exact absurd this.symm h0
 |some n=>rw[hM] at this;simpa using this
structure H5 (l:List Row):Prop where
 root:(AV l 1).kind=1
 mods:∀m∈(AV l 1).kids,(AV l m).kind=2
 funcs:∀m∈(AV l 1).kids,∀f∈(AV l m).kids,(AV l f).kind=3
 name:∀m∈(AV l 1).kids,∀f∈(AV l m).kids,Bz (AV l f).name=true
theorem RY{l:List Row}(h:shaped l=some true):H5 l:=by
 obtain⟨ht,hr⟩:=Og h;have hroot:(AV l 1).kind=1:=by
  unfold tree at ht;cases hk:atI l 1 with
  |none=>rw[hk] at ht;cases ht
  |some k=>
    rw[hk] at ht;dsimp only at ht
    split at ht
    ·cases ht
    ·rename_i h1
     rw[Eb l 1 k hk];by_cases e:(rowAt l k).node.kind=1
     ·exact e
     ·exact absurd (.inl e) h1
 have hmods:∀m∈(AV l 1).kids,(AV l m).kind=2:=by
  obtain⟨r,hrl,hid,_,hn⟩:=IP (l:=l) (id:=1) (by omega);have hf:=(Fp (hr r hrl)).2.1;rw[←hn,hroot] at hf;have hf:only (classes l (AV l 1).kids) [77]=true:=hf;intro m hm;exact Rz (Pw hf _ (List.mem_map_of_mem hm))
 have hfuncs:∀m∈(AV l 1).kids,∀f∈(AV l m).kids,(AV l f).kind=3:=by
  intro m hm;have h2:=hmods m hm;obtain⟨r,hrl,hid,_,hn⟩:=IP (l:=l) (id:=m) (by omega);have hf:=(Fp (hr r hrl)).2.1;rw[←hn,h2] at hf;have hf:only (classes l (AV l m).kids) [70]=true:=hf;intro f hfm;exact R3 (Pw hf _ (List.mem_map_of_mem hfm))
 refine⟨hroot,hmods,hfuncs,fun m hm f hf=> ?_⟩;have h3:=hfuncs m hm f hf;obtain⟨r,hrl,hid,_,hn⟩:=IP (l:=l) (id:=f) (by omega);have:=(Fp (hr r hrl)).2.2;rw[←hn,h3] at this;exact this rfl
theorem LH{l:List Row}(h:H5 l):Ce (rowM l)=(AV l 1).kids:=by
 unfold Ce CS;rw[←Dt];exact Mv (by decide) fun k hk=>by rw[←Dt];exact h.mods k hk
theorem KE{l:List Row}(h:H5 l){m:Nat}(hm:m∈(AV l 1).kids):Bj (rowM l) m=(AV l m).kids:=by
 unfold Bj CS;rw[←Dt];exact Mv (by decide) fun k hk=>by rw[←Dt];exact h.funcs m hm k hk
theorem Jz(l:List Row)(id:Nat):C9 (rowM l) id=(AV l id).name:=by rw[Dt];rfl
theorem LP(l:List Row)(m:Nat)(mod name:Str):∀fs:List Nat,Ee l m mod name fs=JN (rowM l) mod name m fs
 |[]=>rfl
 |f::fs=>by
   have ih:=LP l m mod name fs;unfold JN at ih⊢;rw[Ee,List.find?_cons];by_cases h:(AV l m).name=mod∧(AV l f).name=name
   ·rw[if_pos h]
    have:(C9 (rowM l) m==mod && C9 (rowM l) f==name)=true:=by rw[Jz,Jz];simpa using h
    rw[this]
   ·rw[if_neg h]
    have:(C9 (rowM l) m==mod && C9 (rowM l) f==name)=false:=by
     rw[Jz,Jz];rw[Bool.and_eq_false_iff];by_cases h1:(AV l m).name=mod
     ·exact .inr (by simpa using fun h2=>h ⟨h1,h2⟩)
     ·exact .inl (by simpa using h1)
    rw[this];exact ih
theorem LK{l:List Row}(h:H5 l)(mod name:Str):∀ms:List Nat,(∀m∈ms,m∈(AV l 1).kids)→funcOf l mod name ms=(IJ (rowM l) mod name ms).getD 0
 |[],_=>rfl
 |m::ms,hm=>by
   rw[funcOf,IJ,KE h (hm m (by simp)),←LP];cases Ee l m mod name (AV l m).kids with
   |none=>exact LK h mod name ms fun x hx=>hm x (by simp[hx])
   |some f=>rfl
theorem LM{l:List Row}(h:H5 l)(mod name:Str):Gq (rowM l) mod name=funcOf l mod name (AV l 1).kids:=by
 unfold Gq;rw[LH h,LK h mod name _ fun _ hx=>hx]
theorem Rk{l:List Row}(h:H5 l)(mod:Str):Gq (rowM l) mod [115,117,99,104,32,111,110,101]=0:=by
 rw[LM h];have hin:∀m∈(AV l 1).kids,∀fs:List Nat,(∀f∈fs,f∈(AV l m).kids)→Ee l m mod [115,117,99,104,32,111,110,101] fs=none:=by
  intro m hm fs
  induction fs with
  |nil=>intro _;rfl
  |cons f fs ih=>
    intro hf;rw[Ee,if_neg]
    ·exact ih fun x hx=>hf x (by simp[hx])
    ·rintro⟨_,e⟩
     have:=h.name m hm f (hf f (by simp));rw[e] at this
     revert this
     decide
 have:∀ms:List Nat,(∀m∈ms,m∈(AV l 1).kids)→funcOf l mod [115,117,99,104,32,111,110,101] ms=0:=by
  intro ms
  induction ms with
  |nil=>intro _;rfl
  |cons m ms ih=>
    intro hm;rw[funcOf,hin m (hm m (by simp)) _ fun _ hx=>hx];exact ih fun x hx=>hm x (by simp[hx])
 exact this _ fun _ hx=>hx
theorem XD{l:List Row}{i k:Nat}(h:atI l i=some k):rowM l i=some (rowAt l k).node∧CU l k=(rowAt l k).node.kids:=by
 have hf:=KF l i;rw[h] at hf;unfold rowM;have hk:k < l.length:=by
  unfold atI at h;exact(List.findIdx?_eq_some_iff_getElem.1 h).1
 have hf:l.find? (fun r=>r.id==i)=some l[k]:=by rw[hf];simp[hk]
 rw[hf];exact⟨by simp[rowAt,hk],rfl⟩
theorem NV{l:List Row}{i:Nat}(h:atI l i=none):rowM l i=none:=by
 have hf:=KF l i;rw[h] at hf;unfold rowM;rw[show l.find? (fun r=>r.id==i)=none from hf];rfl
theorem Ir(l:List Row):∀(f:Nat) (s out seen r:List Nat),(∀i,i∈seen↔isIn out i=true)→Dg l f s out=some r→
 ∃xs,wk (rowM l) f s seen=some xs∧r=out++xs.map (·.1)∧∀x∈xs,x.2=AV l x.1
 |0,s,out,seen,r,hs,h=>by cases h
 |f+1,[],out,seen,r,hs,h=>by
   rw[Dg] at h;injection h with h;exact⟨[],rfl,by simp[h],by simp⟩
 |f+1,i::s,out,seen,r,hs,h=>by
   rw[Dg] at h;cases ha:atI l i with
   |none=>
     rw[ha] at h;obtain⟨xs,h1,h2,h3⟩:=Ir l f s out seen r hs h;exact⟨xs,by rw[D7,NV ha];exact h1,h2,h3⟩
   |some k=>
     rw[ha] at h;dsimp only at h;obtain⟨hM,hk⟩:=XD ha;by_cases hi:isIn out i=true
     ·rw[if_pos hi] at h
      obtain⟨xs,h1,h2,h3⟩:=Ir l f s out seen r hs h;refine⟨xs, ?_,h2,h3⟩;rw[D7,hM];dsimp only;rw[if_pos ((hs i).2 hi)];exact h1
     ·rw[if_neg hi] at h
      obtain⟨xs,h1,h2,h3⟩:=Ir l f (CU l k++s) (out++[i]) (i::seen) r (fun j=>by
       rw[Ku,Bool.or_eq_true,List.mem_cons,←hs j,beq_iff_eq];exact⟨fun h=>h.elim .inr .inl,fun h=>h.elim .inr .inl⟩) h
      refine⟨(i,(rowAt l k).node)::xs, ?_, ?_, ?_⟩
      ·rw[D7,hM]
       dsimp only;rw[if_neg (fun e=>hi ((hs i).1 e)),←hk,h1];rfl
      ·rw[h2];simp
      ·intro x hx
       rcases List.mem_cons.1 hx with e|e
       ·subst e;exact(Eb l i k ha).symm
       ·exact h3 x e
theorem Ov(l:List Row)(f:Nat):∃xs,wk (rowM l) (BA l+2) [f] []=some xs∧BR xs=Em l f:=by
 obtain⟨xs,h1,h2,h3⟩:=Ir l _ [f] [] [] _ (fun i=>by simp[isIn]) (OX l f);refine⟨xs,h1, ?_⟩;have hw:walk l f=xs.map (·.1):=by rw[h2];rfl
 unfold BR Em;rw[hw,List.filter_map,List.map_map];have:xs.filter (fun x=>x.2.kind==4||x.2.kind==6)=xs.filter ((fun id=>kindOf l id==4||kindOf l id==6) ∘ fun x=>x.1):=by
  apply List.filter_congr;intro x hx;rw[h3 x hx];rfl
 rw[this];apply List.map_congr_left;intro x hx;rw[h3 x (List.mem_filter.1 hx).1];rfl
end Hg
