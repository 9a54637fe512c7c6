/-
  A part of the proof.
-/
import Derived.Test.YtijhlanclfajiaaGreatDoorKiBG
set_option linter.all false
set_option maxHeartbeats 32000000
set_option maxRecDepth 100000
namespace Go.Proofs.YtijhlanclfajiaaGreatDoor
open Go.RowKit
open Hg (GT gl wk isK ndAt Bf KB RX GK BC H7 Dj)
attribute [local go_sem] Oper.semAt_some
theorem DF{W:World}{b:Nat}{cs:Array Value}{t:TypeId}(h:W.heap[b]? =some (.cells cs t (0,0))):W.frozen? ⟨b,0,none⟩=false:=by simp[World.frozen?,h]
theorem UY{c1 c2 c5:Bool}(h:c1=true→c5=false):(c1=true∧c2=false)∨(c1=false∧c2=true)∨(c1=true∧c2=true∧c5=false)∨(c1=false∧c2=false∧c5=false)∨(c1=false∧c2=false∧c5=true):=by
 revert h
 cases c1 <;>cases c2 <;>cases c5 <;>simp
noncomputable def Lm(M:Nat→Option Hg.Node)(n:Hg.Node):Bool:= @decide (BC M n) (Classical.propDecidable _)
theorem FK{M:Nat→Option Hg.Node}{n:Hg.Node}:Lm M n=true↔BC M n:=by unfold Lm;exact @decide_eq_true_iff _ (Classical.propDecidable _)
noncomputable def rowB(M:Nat→Option Hg.Node)(par:Nat→Nat×Int)(x:Nat×Hg.Node):Bool:=
 decide (1≤x.2.kind) && (decide (x.2.kind≤20) && (Lm M x.2 && (Fa M x.2 && ((decide (x.2.kind=1)==decide (x.1=1)) && (!decide (x.2.kind=5)||H7 M par x.1 x.2)))))
def dpB(M:Nat→Option Hg.Node)(x:Nat×Hg.Node):Bool:= !decide (x.2.kind=3)||decide (Dj M 201 x.1≤90)
noncomputable def shpB(M:Nat→Option Hg.Node)(par:Nat→Nat×Int)(dp:Bool)(xs:List (Nat×Hg.Node)):Bool:= @decide (dp=true∧GK M) (Classical.propDecidable _) && (xs.all (rowB M par) && xs.all (dpB M))
theorem FU{M:Nat→Option Hg.Node}{par:Nat→Nat×Int}{dp:Bool}{xs:List (Nat×Hg.Node)}:shpB M par dp xs=true↔(dp=true∧GK M)∧xs.all (rowB M par)=true∧xs.all (dpB M)=true:=by
 unfold shpB;rw[Bool.and_eq_true,Bool.and_eq_true,@decide_eq_true_iff _ (Classical.propDecidable _)]
theorem PH{M:Nat→Option Hg.Node}{par:Nat→Nat×Int}{dp:Bool}{xs:List (Nat×Hg.Node)}(h:¬((dp=true∧GK M)∧xs.all (rowB M par)=true∧xs.all (dpB M)=true)):shpB M par dp xs=false:=by
 rw[←FU] at h;simpa using h
structure Xg (M:Nat→Option Hg.Node) (par:Nat→Nat×Int) (dp:Bool) (F:Nat) (xs:List (Nat×Hg.Node)):Prop where
 prs:L8 M par
 tree:∃F ot,RX M F ot∧ot.isSome=dp
 walk:wk M F [1] []=some xs
 f:F≤1000000
 id:∀x∈xs,x.1 < Aj
 rf:∀x∈xs,x.2.ref < 18446744073709551616
 nm:∀x∈xs,x.2.name.length≤1000000
def sjA(p1 p2 p3 p4:Value)(a:Act):Prop:=∃u0 u5 u6 u7 u8 u9 u10 u11 u12 u13 u14 u15 u16 u17 u18 u19 u20 u21 u22 u23 u24 u25 u26 u27 u28 u29 u30 u31 u32 u33 u34 u35 u36 u37 u38 u39 u40 u41 u42 u43 u44 u45 u46 u47 u48 u49 u50 u51 u52 u53 u54 u55 u56 u57 u58 u59 u60 u61 u62 u63 u64 u65 u66 u67 u68 u69 u70 u71 u72:Value,a={tmps:= #[u0,p1,p2,p3,p4,u5,u6,u7,u8,u9,u10,u11,u12,u13,u14,u15,u16,u17,u18,u19,u20,u21,u22,u23,u24,u25,u26,u27,u28,u29,u30,u31,u32,u33,u34,u35,u36,u37,u38,u39,u40,u41,u42,u43,u44,u45,u46,u47,u48,u49,u50,u51,u52,u53,u54,u55,u56,u57,u58,u59,u60,u61,u62,u63,u64,u65,u66,u67,u68,u69,u70,u71,u72],defers:=[]}
def sjB(p1 p2 p5 p6:Value)(a:Act):Prop:=∃u0 u3 u4 u7 u8 u9 u10 u11 u12 u13 u14 u15 u16 u17 u18 u19 u20 u21 u22 u23 u24 u25 u26 u27 u28 u29 u30 u31 u32 u33 u34 u35 u36 u37 u38 u39 u40 u41 u42 u43 u44 u45 u46 u47 u48 u49 u50 u51 u52 u53 u54 u55 u56 u57 u58 u59 u60 u61 u62 u63 u64 u65 u66 u67 u68 u69 u70 u71 u72:Value,a={tmps:= #[u0,p1,p2,u3,u4,p5,p6,u7,u8,u9,u10,u11,u12,u13,u14,u15,u16,u17,u18,u19,u20,u21,u22,u23,u24,u25,u26,u27,u28,u29,u30,u31,u32,u33,u34,u35,u36,u37,u38,u39,u40,u41,u42,u43,u44,u45,u46,u47,u48,u49,u50,u51,u52,u53,u54,u55,u56,u57,u58,u59,u60,u61,u62,u63,u64,u65,u66,u67,u68,u69,u70,u71,u72],defers:=[]}
def SjR(ab B:Nat)(S:Nat→Prop)(x:Am)(a:Act)(A:World):Prop:=
 ∃S0 blk,BoxI ab B S0 A∧sjA (.pointer (some ⟨B,0,none⟩)) (.pointer (some ⟨B+1,0,none⟩)) (idV x.id) (.pointer (some ⟨blk,0,none⟩)) a∧A.heap[blk]? =some (.cells (Ad x.nd x.ka x.kc) 44 (0,0))∧x.At A∧(∀q,S q↔S0 q∨q=blk)∧¬S0 blk
def SjQ(ab B:Nat)(S:Nat→Prop)(x:Am)(a:Act)(A:World):Prop:=
 ∃S0 blk,BoxI ab B S0 A∧sjB (.pointer (some ⟨B,0,none⟩)) (.pointer (some ⟨B+1,0,none⟩)) (idV x.id) (.pointer (some ⟨blk,0,none⟩)) a∧A.heap[blk]? =some (.cells (Ad x.nd x.ka x.kc) 44 (0,0))∧(∀q,S q↔S0 q∨q=blk)∧¬S0 blk
def SjX(ok:Bool)(ab B:Nat)(c:Code)(S:Nat→Prop)(A:World):Prop:=c= .ret∧BoxI ab B S A∧A.heap[B+1]? =some (.cells #[.bool false] 4 (0,0))∧ok=false
theorem QN(ab:Nat)(M:Nat→Option Hg.Node)(par:Nat→Nat×Int)(dp:Bool)(F:Nat)(xs:List (Nat×Hg.Node))(w:World)(hA:ArOk w ab M)(hT:DX w)(hS:Xg M par dp F xs):
 Calls Tryz.prog 19 #[.pointer (some ⟨ab,0,none⟩)] w fun e w'=>e= .returned (.bool (shpB M par dp xs))∧Below w.heap.size w w':=by
 obtain⟨sb,hsb⟩:∃b,b=shpB M par dp xs:=⟨_,rfl⟩;rw[←hsb];have HSB:=zz hsb;clear hsb;obtain⟨F0,R0,htree,hdp⟩:=hS.tree;have HDP:=zz hdp;have HP:=zz hS.prs;have HA:=zz hA;have HSH:=zz hS;have HTB:=zz hT;have TW:=zz (Jt ab 1);have TR:=zz (IL ab);have TT:=zz (fun W (h:Below w.heap.size w W)=>UW ab M F0 R0 W (hA.below h) htree);obtain⟨⟨mb,c,hAr⟩,hkb⟩:=hA;have HAR:=zz hAr;have HKB:=zz hkb;clear hAr hkb htree hS hT hdp;refine(callsIn_wide (n:=5)).1 (callsIn_of_wp_marks Tryz.func19 rfl trivial ?_ rfl);simp only[Tryz.ntmps19,List.size_toArray,List.length_cons,List.length_nil,Nat.reduceAdd,Nat.reduceSub,Array.replicate_succ,Array.replicate_zero,List.push_toArray,List.append_toArray,List.nil_append,List.cons_append];gi_wp2_with fail;obtain⟨hb0,h0,h1,hz⟩:=PD w (.cells #[.pointer (some ⟨ab,0,none⟩)] 26) (.cells #[.bool false] 4);generalize World.alloc (World.alloc w _) _=W0 at hb0 h0 h1 hz⊢;refine⟨trivial,(callsIn_wide.2 (TT.out _ hb0)).mono ?_⟩;rintro e WT ⟨⟨tb,rfl,htb⟩,hbT⟩;have hbw:=hb0.trans (hbT.mono hb0.size);have hBx:=(hbT.block w.heap.size (by omega)).trans h0;have hRx:=(hbT.block (w.heap.size+1) (by omega)).trans h1;have hzw:w.heap.size+2≤WT.heap.size:=by have:=hbT.size;omega
 have HTB2:=zz htb;clear htb;cases tb
 ·have HNO:=zz (show sb=false from HSB.out.trans (PH fun h=>by have:=HTB2.out.2 (by rw[HDP.out];exact h.1);cases this))
  have HBE:=zz hbw;have f7:=DF hRx;have d7:=AJ _ (w.heap.size+1) 0 _ _ (0,0) hRx;simp at d7;have HRX:=zz hRx;clear hbw hBx hRx hzw TW TR;gi_wp2;have hcell:(WT.setCell ⟨w.heap.size+1,0,none⟩ (.bool false)).cell? ⟨w.heap.size+1,0,none⟩=some (.bool false):=by
   have:=AJ _ (w.heap.size+1) 0 _ _ (0,0) (heap_setCell_same (i:=0) HRX.out (.bool false));simpa using this
  have hfin:Below w.heap.size w (WT.setCell ⟨w.heap.size+1,0,none⟩ (.bool false)):=HBE.out.trans (((Fr.refl (fun q=>w.heap.size≤q) WT).set (p:=⟨w.heap.size+1,0,none⟩) (.inl (Nat.le_succ _)) (.bool false)).below' HBE.out.size);refine⟨.bool false, ?_,AQ HNO.out.symm,hfin⟩
  simp[results,Tryz.results19,go_sem,hcell]
 have HREF:=zz (show dp=true∧GK M by have:=HTB2.out.1 rfl;rw[HDP.out] at this;exact this);generalize Value.bool false=r0 at hRx;clear hb0 h0 h1 hz hbT TT;gi_wp2;refine wpIn_wide.2 (MC ?_);have e0:=AJ WT w.heap.size 0 _ _ (0,0) hBx;simp at e0;have hHeld:(fun w'=>w'.cell? ⟨w.heap.size,0,none⟩=some (.pointer (some ⟨ab,0,none⟩))) (WT).drew:=e0;refine Ay (fun w'=>w'.cell? ⟨w.heap.size,0,none⟩=some (.pointer (some ⟨ab,0,none⟩))) 3 (by kernel_rfl) ?_;refine tz 0 ?_;refine tz 1 ?_;refine AR (i:=2) rfl (by kernel_rfl) (fun K hK=> ?_);go_simp;refine(TR.out _).mono ?_;rintro e w1 ⟨rfl,rfl⟩;refine hK.out _ _ (hHeld) (fun hHeld=> ?_);clear hK K
 try simp only[Act.put,sA,sB,sC,sD,sE,sF]
 refine Ag (by kernel_rfl) ?_;simp only[List.drop_succ_cons,List.drop_zero];go_wp2_with fail;refine(TW.out _).mono ?_;rintro e w1 ⟨rfl,rfl⟩;have hdz:(WT).drew.heap.size=(WT).heap.size:=rfl;obtain⟨hbW,k1,k2,hzW⟩:=PD (WT).drew (.cells #[.pointer (some ⟨ab,0,none⟩)] 26) (.cells #[idV 1] 37);rw[hdz] at hbW k1 k2 hzW⊢;generalize World.alloc (World.alloc (WT).drew _) _=W1 at hbW k1 k2 hzW⊢;have hbW:Below (WT).heap.size WT W1:=((AP).drew).trans hbW;generalize hnz:(WT).heap.size=nz at hbW k1 k2 hzW hzw⊢;have g0:(W1).heap[w.heap.size]? =some (.cells #[.pointer (some ⟨ab,0,none⟩)] 26 (0,0)):=(hbW.block _ (by omega)).trans hBx;have g1:(W1).heap[w.heap.size+1]? =some (.cells #[r0] 4 (0,0)):=(hbW.block _ (by omega)).trans hRx;have hb1:Below w.heap.size w W1:=hbw.trans (hbW.mono (by omega));have hseq:=IB ab mb c M w.heap.size 1 (nz+1) nz F xs W1 (fun W' hf=>HAR.out.below (hb1.trans (hf.below' (by omega))) AA) (AJ W1 (nz+1) 0 _ _ (0,0) k2) (AJ W1 nz 0 _ _ (0,0) k1) ⟨by omega,by omega,by omega,by omega⟩ (by decide) HKB.out HSH.out.walk HSH.out.f;have HB1:=zz hb1;have HARW:=zz (show∀W',Fr (fun q=>w.heap.size≤q) W1 W'→ArOk W' ab M from fun W' hf=>HA.out.below (hb1.trans (hf.below' (by omega))));have HBN:=zz (And.intro hnz hbW);clear k1 k2 hHeld hBx hRx hbw hbW e0 hb1 hdz hnz;go_wp2;gi_wp2;refine GL (gf:=97) rfl (enters_of Tryz.func97 (by kernel_rfl) rfl) hseq (Fr.refl _ _) rfl (fun q h=>by rcases h with h|h <;>omega) (by omega)
  (fun S pre A=>BoxI ab w.heap.size S A∧(pre.map Am.strip).all (rowB M par)=true) (fun c S _ A=>SjX sb ab w.heap.size c S A) (fun S pre x a A=>SjR ab w.heap.size S x a A∧(pre.map Am.strip).all (rowB M par)=true) (fun S pre A A' h hf=>⟨h.1.fr hf,h.2⟩) (fun c S pre A A' h hf=>⟨h.1,h.2.1.fr hf,hf.at_ h.2.2.1 (fun k=>k ((h.2.1.2.2 _).2 (.inr rfl))),h.2.2.2⟩) ?hI1 (fun S pre A h q hq=>(h.1.lt q hq).2) ?hI1l
  (fun q=>q=w.heap.size∨q=w.heap.size+1) ⟨⟨g0,⟨_,g1⟩,fun q=>Iff.rfl⟩,rfl⟩ (fun q e=>by rcases e with e|e <;>subst e <;>exact⟨by omega,by omega,by omega⟩) ?assign ?body ?done ?stop
 case hI1=>
  rintro S pre x a A A' ⟨⟨S0,blk,hi,ha,hb,hx,hS,hn⟩,hp⟩ hf;exact⟨⟨S0,blk,hi.fr (hf.imp (fun q _ h h'=>h (.inl ((hS q).2 (.inl h'))))),ha,hf.at_ hb (fun h=>h (.inl ((hS blk).2 (.inr rfl)))),(hx.fr AA hf (fun q e h=>h (.inr e))).more hf.size,hS,hn⟩,hp⟩
 case hI1l=>
  rintro S pre x a A ⟨⟨S0,blk,hi,ha,hb,hx,hS,hn⟩,hp⟩ q hq;rcases(hS q).1 hq with h|h
  ·exact(hi.lt q h).2
  ·subst h;exact(Ab.1 hb).1
 case assign=>
  intro l m S pre x A K hi hpre hx hkb hf hK;gi_wp2;refine hK (fun q=>S q∨q=A.heap.size) _ _ ⟨⟨S,A.heap.size,hi.1.fr ((Fr.refl _ _).alloc _), ?_,AZ A _,Sl.alloc hx AA _|>.more (by simp),fun q=>Iff.rfl,fun h=>by have:=(hi.1.lt _ h).2;omega⟩,hi.2⟩ ((Fr.refl _ _).alloc _) (fun q h=>h.imp (fun h=>h) (fun h=>by omega));exact⟨_,_,_,_,_,_,_,_,_,_,_,_,_,_,_,_,_,_,_,_,_,_,_,_,_,_,_,_,_,_,_,_,_,_,_,_,_,_,_,_,_,_,_,_,_,_,_,_,_,_,_,_,_,_,_,_,_,_,_,_,_,_,_,_,_,_,_,_,_,rfl⟩
 case body=>
  rintro l m S pre x a1 A ⟨⟨S0,blk,⟨hbx,⟨r0,hbr⟩,hSv⟩,ha,hb,hx,hS,hn⟩,hpo⟩ hpre hf;obtain⟨u0,u5,u6,u7,u8,u9,u10,u11,u12,u13,u14,u15,u16,u17,u18,u19,u20,u21,u22,u23,u24,u25,u26,u27,u28,u29,u30,u31,u32,u33,u34,u35,u36,u37,u38,u39,u40,u41,u42,u43,u44,u45,u46,u47,u48,u49,u50,u51,u52,u53,u54,u55,u56,u57,u58,u59,u60,u61,u62,u63,u64,u65,u66,u67,u68,u69,u70,u71,u72,rfl⟩:=ha;have hxm:x.strip∈xs:=hpre.subset (by simp);have hf2:Fr (fun q=>w.heap.size≤q) W1 A:=hf.imp (fun q _ e=>by rcases e with(e|e)|e|e <;>omega);have hAA:=HARW.out A hf2;have hTA:=HTB.out.block ((HB1.out.trans (hf2.below' (by omega))).block _ HTB.out.lt);obtain⟨xi,nd,ka,kc⟩:=x;have hxm:(xi,nd)∈xs:=hxm;have hMx:=Hg.EZ M F _ _ _ HSH.out.walk _ hxm;have hkt:=HKB.out xi nd hMx;have hnl:=HA.out.len xi;unfold ndAt at hnl;rw[hMx] at hnl;have hnl:nd.kids.length≤1000000:=hnl;have hrf:=HSH.out.rf _ hxm;have hnm:=HSH.out.nm _ hxm;dsimp only at hrf hnm;have HBAD:=zz (show rowB M par (xi,nd)=false→sb=false from fun h=>HSB.out.trans (PH fun h'=>by
   have:=List.all_eq_true.1 h'.2.1 _ hxm;rw[h] at this;cases this))
  have HRET:=zz (show sb=false→∀W:World,Fr (fun _=>False) A W→∃S',SjX sb ab w.heap.size .ret S' (W.setCell ⟨w.heap.size+1,0,none⟩ (.bool false))∧Fr S A (W.setCell ⟨w.heap.size+1,0,none⟩ (.bool false))∧∀q,S' q→S q∨A.heap.size≤q from fun hno W hf=>by
   have h1:W.heap[w.heap.size]? =some (.cells #[.pointer (some ⟨ab,0,none⟩)] 26 (0,0)):=hf.at_ hbx (fun h=>h);have h2:W.heap[w.heap.size+1]? =some (.cells #[r0] 4 (0,0)):=hf.at_ hbr (fun h=>h);have h3:(W.setCell ⟨w.heap.size+1,0,none⟩ (.bool false)).heap[w.heap.size+1]? =some (.cells #[.bool false] 4 (0,0)):=heap_setCell_same h2 _;exact⟨S0,⟨rfl,⟨(Below.heap_setCell W ⟨w.heap.size+1,0,none⟩ (.bool false) w.heap.size (by show¬w.heap.size=w.heap.size+1;omega)).trans h1,⟨_,h3⟩,hSv⟩,h3,hno⟩,(hf.imp (fun q _ e=>e.elim)).set (p:=⟨w.heap.size+1,0,none⟩) (.inl ((hS _).2 (.inl ((hSv _).2 (.inr rfl))))) _,fun q h=> .inl ((hS q).2 (.inl h))⟩)
  have HGO:=zz (show(rowB M par) (xi,nd)=true→∀W:World,Fr (fun _=>False) A W→∃S',(BoxI ab w.heap.size S' W∧((pre++[(⟨xi,nd,ka,kc⟩:Am)]).map Am.strip).all (rowB M par)=true)∧Fr S A W∧∀q,S' q→S q∨A.heap.size≤q from fun hyes W hf=>
   ⟨S0,⟨⟨hf.at_ hbx (fun h=>h),⟨r0,hf.at_ hbr (fun h=>h)⟩,hSv⟩,by rw[List.map_append,List.all_append,hpo];simp[Am.strip,hyes]⟩,hf.imp (fun q _ e=>e.elim),fun q h=> .inl ((hS q).2 (.inl h))⟩)
  obtain⟨rv,hrv⟩:∃r,r=rowB M par (xi,nd):=⟨_,rfl⟩;have HRV:=zz hrv.symm;have HROW:=zz (show rv=(decide (1≤nd.kind) && (decide (nd.kind≤20) && (Lm M nd && (Fa M nd && ((decide (nd.kind=1)==decide (xi=1)) && (!decide (nd.kind=5)||H7 M par xi nd)))))) from hrv);clear hrv;have hx:Sl A A.heap.size (.slice ka nd.kids.length kc) nd.kids.length (nd.kids.map idV):=hx;have TK0:=zz (fun(hki:1≤nd.kind∧nd.kind≤20) W (h:Below A.heap.size A W)=>(Rm ab M nd ka kc W (hAA.below h) ((hx.below h AA).more h.size) hnl hkt hki).mono (R':=fun e w'=>e= .returned (.bool (Lm M nd))∧Below W.heap.size W w') (by
   rintro e w' ⟨⟨b,rfl,hb⟩,hw⟩;exact⟨AQ (by rw[Bool.eq_iff_iff];exact hb.trans FK.symm),hw⟩))
  have TP:=zz (fun W (h:Below A.heap.size A W)=>Rx ab M nd ka kc W (hAA.below h) (hTA.block (h.block _ hTA.lt)) hrf hnm);have TQ:=zz (fun W (h:Below A.heap.size A W)=>QS ab M par HP.out xi nd ka kc W (hAA.below h) ((hx.below h AA).more h.size) hnl hkt);have hbl:=(Ab.1 hb).1;have hBl:=(Ab.1 hbx).1;have hnr:¬(fun _:Nat=>False) (w.heap.size+1):=fun h=>h;have eB:=AJ A w.heap.size 0 _ _ (0,0) hbx;have y:=fun i=>AJ A blk i _ _ (0,0) hb;have y0:=y 0;have y1:=y 1;have y2:=y 2;have y3:=y 3;have y4:=y 4;have y5:=y 5;simp at eB y0 y1 y2 y3 y4 y5;have hHeld:(fun w'=>w'.cell? ⟨w.heap.size,0,none⟩=some (.pointer (some ⟨ab,0,none⟩))∧w'.cell? ⟨blk,0,none⟩=some (.int .u8 (nd.kind:Int))∧w'.cell? ⟨blk,1,none⟩=some (strV nd.name)∧w'.cell? ⟨blk,2,none⟩=some (.int .i64 nd.num)∧w'.cell? ⟨blk,3,none⟩=some (.int .u8 (nd.type:Int))∧w'.cell? ⟨blk,4,none⟩=some (.int .u64 (nd.ref:Int))∧w'.cell? ⟨blk,5,none⟩=some (.slice ka nd.kids.length kc)) A.drew:=⟨eB,y0,y1,y2,y3,y4,y5⟩;have hHeld0:=hHeld;have HBc:=zz (Below.refl A.heap.size A);clear hpre hf hf2 hAA hTA hMx hkt eB y y0 y1 y2 y3 y4 y5 hx hpo hrf hnm hxm hnl hS hn;generalize hkb:Lm M nd=kb at HROW TK0;generalize hpb:Fa M nd=pb at HROW TP;generalize hrb:H7 M par xi nd=rb at HROW TQ;clear hkb hpb hrb;by_cases k0:nd.kind < 1
  ·have q1:decide ((nd.kind:Int) < 1)=true:=by simp;omega
   have hno:rowB M par (xi,nd)=false:=HRV.out.trans (by rw[HROW.out,decide_eq_false (by omega:¬1≤nd.kind)];rfl);clear k0 TK0 TP TQ;gi_wp2;refine BB (fun w'=>w'.cell? ⟨w.heap.size,0,none⟩=some (.pointer (some ⟨ab,0,none⟩))∧w'.cell? ⟨blk,0,none⟩=some (.int .u8 (nd.kind:Int))∧w'.cell? ⟨blk,1,none⟩=some (strV nd.name)∧w'.cell? ⟨blk,2,none⟩=some (.int .i64 nd.num)∧w'.cell? ⟨blk,3,none⟩=some (.int .u8 (nd.type:Int))∧w'.cell? ⟨blk,4,none⟩=some (.int .u64 (nd.ref:Int))∧w'.cell? ⟨blk,5,none⟩=some (.slice ka nd.kids.length kc)) 41 (by kernel_rfl) (by kernel_rfl) (by rintro⟨_,_,h⟩;exact h) ?_;refine tz 0 ?_;refine tz 1 ?_;refine tz 2 ?_;refine tz 3 ?_;refine AC (i:=4) rfl (by kernel_rfl) (fun _ _ _ h=>h) (by assumption) (Or.inr ⟨by rfl,rfl⟩) ?_
   try simp only[Act.put,sA,sB,sC,sD,sE,sF]
   refine AC (i:=5) rfl (by kernel_rfl) (fun _ _ _ h=>h) (by assumption) (Or.inr ⟨by rfl,rfl⟩) ?_
   try simp only[Act.put,sA,sB,sC,sD,sE,sF]
   refine AC (i:=6) rfl (by kernel_rfl) (fun _ _ _ h=>h) (by assumption) (Or.inr ⟨by rfl,rfl⟩) ?_
   try simp only[Act.put,sA,sB,sC,sD,sE,sF]
   refine tz 7 ?_;refine tz 8 ?_;refine AC (i:=9) rfl (by kernel_rfl) (fun _ _ _ h=>h) (by assumption) (Or.inr ⟨by rfl,rfl⟩) ?_
   try simp only[Act.put,sA,sB,sC,sD,sE,sF]
   refine AC (i:=10) rfl (by kernel_rfl) (fun _ _ _ h=>h) (by assumption) (Or.inr ⟨by rfl,rfl⟩) ?_
   try simp only[Act.put,sA,sB,sC,sD,sE,sF]
   refine AC (i:=11) rfl (by kernel_rfl) (fun _ _ _ h=>h) (by assumption) (Or.inr ⟨by rfl,rfl⟩) ?_
   try simp only[Act.put,sA,sB,sC,sD,sE,sF]
   refine AC (i:=12) rfl (by kernel_rfl) (fun _ _ _ h=>h) (by assumption) (Or.inr ⟨by rfl,rfl⟩) ?_
   try simp only[Act.put,sA,sB,sC,sD,sE,sF]
   refine tz 13 ?_;refine tz 14 ?_;refine AC (i:=15) rfl (by kernel_rfl) (fun _ _ _ h=>h) (by assumption) (Or.inr ⟨by rfl,rfl⟩) ?_
   try simp only[Act.put,sA,sB,sC,sD,sE,sF]
   refine AC (i:=16) rfl (by kernel_rfl) (fun _ _ _ h=>h) (by assumption) (Or.inr ⟨by rfl,rfl⟩) ?_
   try simp only[Act.put,sA,sB,sC,sD,sE,sF]
   refine AC (i:=17) rfl (by kernel_rfl) (fun _ _ _ h=>h) (by assumption) (Or.inr ⟨by rfl,rfl⟩) ?_
   try simp only[Act.put,sA,sB,sC,sD,sE,sF]
   refine AC (i:=18) rfl (by kernel_rfl) (fun _ _ _ h=>h) (by assumption) (Or.inr ⟨by rfl,rfl⟩) ?_
   try simp only[Act.put,sA,sB,sC,sD,sE,sF]
   refine tz 19 ?_;refine tz 20 ?_;refine AC (i:=21) rfl (by kernel_rfl) (fun _ _ _ h=>h) (by assumption) (Or.inr ⟨by rfl,rfl⟩) ?_
   try simp only[Act.put,sA,sB,sC,sD,sE,sF]
   refine AC (i:=22) rfl (by kernel_rfl) (fun _ _ _ h=>h) (by assumption) (Or.inr ⟨by rfl,rfl⟩) ?_
   try simp only[Act.put,sA,sB,sC,sD,sE,sF]
   refine AC (i:=23) rfl (by kernel_rfl) (fun _ _ _ h=>h) (by assumption) (Or.inr ⟨by rfl,rfl⟩) ?_
   try simp only[Act.put,sA,sB,sC,sD,sE,sF]
   refine AC (i:=24) rfl (by kernel_rfl) (fun _ _ _ h=>h) (by assumption) (Or.inr ⟨by rfl,rfl⟩) ?_
   try simp only[Act.put,sA,sB,sC,sD,sE,sF]
   refine AC (i:=25) rfl (by kernel_rfl) (fun _ _ _ h=>h) (by assumption) (Or.inr ⟨by rfl,rfl⟩) ?_
   try simp only[Act.put,sA,sB,sC,sD,sE,sF]
   refine AC (i:=26) rfl (by kernel_rfl) (fun _ _ _ h=>h) (by assumption) (Or.inr ⟨by rfl,rfl⟩) ?_
   try simp only[Act.put,sA,sB,sC,sD,sE,sF]
   refine AC (i:=27) rfl (by kernel_rfl) (fun _ _ _ h=>h) (by assumption) (Or.inr ⟨by rfl,rfl⟩) ?_
   try simp only[Act.put,sA,sB,sC,sD,sE,sF]
   refine AC (i:=28) rfl (by kernel_rfl) (fun _ _ _ h=>h) (by assumption) (Or.inr ⟨by rfl,rfl⟩) ?_
   try simp only[Act.put,sA,sB,sC,sD,sE,sF]
   refine tz 29 ?_;refine tz 30 ?_;refine AC (i:=31) rfl (by kernel_rfl) (fun _ _ _ h=>h) (by assumption) (Or.inr ⟨by rfl,rfl⟩) ?_
   try simp only[Act.put,sA,sB,sC,sD,sE,sF]
   refine AC (i:=32) rfl (by kernel_rfl) (fun _ _ _ h=>h) (by assumption) (Or.inr ⟨by rfl,rfl⟩) ?_
   try simp only[Act.put,sA,sB,sC,sD,sE,sF]
   refine AC (i:=33) rfl (by kernel_rfl) (fun _ _ _ h=>h) (by assumption) (Or.inr ⟨by rfl,rfl⟩) ?_
   try simp only[Act.put,sA,sB,sC,sD,sE,sF]
   refine AC (i:=34) rfl (by kernel_rfl) (fun _ _ _ h=>h) (by assumption) (Or.inr ⟨by rfl,rfl⟩) ?_
   try simp only[Act.put,sA,sB,sC,sD,sE,sF]
   refine AC (i:=35) rfl (by kernel_rfl) (fun _ _ _ h=>h) (by assumption) (Or.inr ⟨by rfl,rfl⟩) ?_
   try simp only[Act.put,sA,sB,sC,sD,sE,sF]
   refine AC (i:=36) rfl (by kernel_rfl) (fun _ _ _ h=>h) (by assumption) (Or.inr ⟨by rfl,rfl⟩) ?_
   try simp only[Act.put,sA,sB,sC,sD,sE,sF]
   refine AC (i:=37) rfl (by kernel_rfl) (fun _ _ _ h=>h) (by assumption) (Or.inr ⟨by rfl,rfl⟩) ?_
   try simp only[Act.put,sA,sB,sC,sD,sE,sF]
   refine AC (i:=38) rfl (by kernel_rfl) (fun _ _ _ h=>h) (by assumption) (Or.inr ⟨by rfl,rfl⟩) ?_
   try simp only[Act.put,sA,sB,sC,sD,sE,sF]
   refine AC (i:=39) rfl (by kernel_rfl) (fun _ _ _ h=>h) (by assumption) (Or.inr ⟨by rfl,rfl⟩) ?_
   try simp only[Act.put,sA,sB,sC,sD,sE,sF]
   refine AC (i:=40) rfl (by kernel_rfl) (fun _ _ _ h=>h) (by assumption) (Or.inr ⟨by rfl,rfl⟩) ?_
   try simp only[Act.put,sA,sB,sC,sD,sE,sF]
   refine Ag (by kernel_rfl) ?_;simp only[List.drop_succ_cons,List.drop_zero];have HFA:Fr (fun _=>False) A A.drew:=Fr.of_below HBc.out.drew;clear hHeld hHeld0;have HNO:=zz (show sb=false from HBAD.out hno);have h2:=HFA.at_ hbr hnr;have f7:=DF h2;have d7:=AJ _ (w.heap.size+1) 0 _ _ (0,0) h2;simp at d7;have l7:=(Ab.1 h2).1;have HFIN:=zz (HRET.out HNO.out _ HFA);clear HFA h2;go_wp2;gi_wp2;exact HFIN.out
  have q1:decide ((nd.kind:Int) < 1)=false:=by simp;omega
  have q4:¬nd.kind=0:=by omega
  by_cases k20:20 < nd.kind
  ·have q2:decide ((20:Int) < (nd.kind:Int))=true:=by simp;omega
   have q3:decide (20 < nd.kind)=true:=by simp;omega
   have hno:rowB M par (xi,nd)=false:=HRV.out.trans (by rw[HROW.out,decide_eq_false (by omega:¬nd.kind≤20)];simp);clear k0 k20 TK0 TP TQ;gi_wp2;refine BB (fun w'=>w'.cell? ⟨w.heap.size,0,none⟩=some (.pointer (some ⟨ab,0,none⟩))∧w'.cell? ⟨blk,0,none⟩=some (.int .u8 (nd.kind:Int))∧w'.cell? ⟨blk,1,none⟩=some (strV nd.name)∧w'.cell? ⟨blk,2,none⟩=some (.int .i64 nd.num)∧w'.cell? ⟨blk,3,none⟩=some (.int .u8 (nd.type:Int))∧w'.cell? ⟨blk,4,none⟩=some (.int .u64 (nd.ref:Int))∧w'.cell? ⟨blk,5,none⟩=some (.slice ka nd.kids.length kc)) 41 (by kernel_rfl) (by kernel_rfl) (by rintro⟨_,_,h⟩;exact h) ?_;refine tz 0 ?_;refine tz 1 ?_;refine tz 2 ?_;refine tz 3 ?_;refine tz 4 ?_;refine tz 5 ?_;refine tz 6 ?_;refine tz 7 ?_;refine tz 8 ?_;refine AC (i:=9) rfl (by kernel_rfl) (fun _ _ _ h=>h) (by assumption) (Or.inr ⟨by rfl,rfl⟩) ?_
   try simp only[Act.put,sA,sB,sC,sD,sE,sF]
   refine AC (i:=10) rfl (by kernel_rfl) (fun _ _ _ h=>h) (by assumption) (Or.inr ⟨by rfl,rfl⟩) ?_
   try simp only[Act.put,sA,sB,sC,sD,sE,sF]
   refine AC (i:=11) rfl (by kernel_rfl) (fun _ _ _ h=>h) (by assumption) (Or.inr ⟨by rfl,rfl⟩) ?_
   try simp only[Act.put,sA,sB,sC,sD,sE,sF]
   refine AC (i:=12) rfl (by kernel_rfl) (fun _ _ _ h=>h) (by assumption) (Or.inr ⟨by rfl,rfl⟩) ?_
   try simp only[Act.put,sA,sB,sC,sD,sE,sF]
   refine tz 13 ?_;refine tz 14 ?_;refine AC (i:=15) rfl (by kernel_rfl) (fun _ _ _ h=>h) (by assumption) (Or.inr ⟨by rfl,rfl⟩) ?_
   try simp only[Act.put,sA,sB,sC,sD,sE,sF]
   refine AC (i:=16) rfl (by kernel_rfl) (fun _ _ _ h=>h) (by assumption) (Or.inr ⟨by rfl,rfl⟩) ?_
   try simp only[Act.put,sA,sB,sC,sD,sE,sF]
   refine AC (i:=17) rfl (by kernel_rfl) (fun _ _ _ h=>h) (by assumption) (Or.inr ⟨by rfl,rfl⟩) ?_
   try simp only[Act.put,sA,sB,sC,sD,sE,sF]
   refine AC (i:=18) rfl (by kernel_rfl) (fun _ _ _ h=>h) (by assumption) (Or.inr ⟨by rfl,rfl⟩) ?_
   try simp only[Act.put,sA,sB,sC,sD,sE,sF]
   refine tz 19 ?_;refine tz 20 ?_;refine AC (i:=21) rfl (by kernel_rfl) (fun _ _ _ h=>h) (by assumption) (Or.inr ⟨by rfl,rfl⟩) ?_
   try simp only[Act.put,sA,sB,sC,sD,sE,sF]
   refine AC (i:=22) rfl (by kernel_rfl) (fun _ _ _ h=>h) (by assumption) (Or.inr ⟨by rfl,rfl⟩) ?_
   try simp only[Act.put,sA,sB,sC,sD,sE,sF]
   refine AC (i:=23) rfl (by kernel_rfl) (fun _ _ _ h=>h) (by assumption) (Or.inr ⟨by rfl,rfl⟩) ?_
   try simp only[Act.put,sA,sB,sC,sD,sE,sF]
   refine AC (i:=24) rfl (by kernel_rfl) (fun _ _ _ h=>h) (by assumption) (Or.inr ⟨by rfl,rfl⟩) ?_
   try simp only[Act.put,sA,sB,sC,sD,sE,sF]
   refine AC (i:=25) rfl (by kernel_rfl) (fun _ _ _ h=>h) (by assumption) (Or.inr ⟨by rfl,rfl⟩) ?_
   try simp only[Act.put,sA,sB,sC,sD,sE,sF]
   refine AC (i:=26) rfl (by kernel_rfl) (fun _ _ _ h=>h) (by assumption) (Or.inr ⟨by rfl,rfl⟩) ?_
   try simp only[Act.put,sA,sB,sC,sD,sE,sF]
   refine AC (i:=27) rfl (by kernel_rfl) (fun _ _ _ h=>h) (by assumption) (Or.inr ⟨by rfl,rfl⟩) ?_
   try simp only[Act.put,sA,sB,sC,sD,sE,sF]
   refine AC (i:=28) rfl (by kernel_rfl) (fun _ _ _ h=>h) (by assumption) (Or.inr ⟨by rfl,rfl⟩) ?_
   try simp only[Act.put,sA,sB,sC,sD,sE,sF]
   refine tz 29 ?_;refine tz 30 ?_;refine AC (i:=31) rfl (by kernel_rfl) (fun _ _ _ h=>h) (by assumption) (Or.inr ⟨by rfl,rfl⟩) ?_
   try simp only[Act.put,sA,sB,sC,sD,sE,sF]
   refine AC (i:=32) rfl (by kernel_rfl) (fun _ _ _ h=>h) (by assumption) (Or.inr ⟨by rfl,rfl⟩) ?_
   try simp only[Act.put,sA,sB,sC,sD,sE,sF]
   refine AC (i:=33) rfl (by kernel_rfl) (fun _ _ _ h=>h) (by assumption) (Or.inr ⟨by rfl,rfl⟩) ?_
   try simp only[Act.put,sA,sB,sC,sD,sE,sF]
   refine AC (i:=34) rfl (by kernel_rfl) (fun _ _ _ h=>h) (by assumption) (Or.inr ⟨by rfl,rfl⟩) ?_
   try simp only[Act.put,sA,sB,sC,sD,sE,sF]
   refine AC (i:=35) rfl (by kernel_rfl) (fun _ _ _ h=>h) (by assumption) (Or.inr ⟨by rfl,rfl⟩) ?_
   try simp only[Act.put,sA,sB,sC,sD,sE,sF]
   refine AC (i:=36) rfl (by kernel_rfl) (fun _ _ _ h=>h) (by assumption) (Or.inr ⟨by rfl,rfl⟩) ?_
   try simp only[Act.put,sA,sB,sC,sD,sE,sF]
   refine AC (i:=37) rfl (by kernel_rfl) (fun _ _ _ h=>h) (by assumption) (Or.inr ⟨by rfl,rfl⟩) ?_
   try simp only[Act.put,sA,sB,sC,sD,sE,sF]
   refine AC (i:=38) rfl (by kernel_rfl) (fun _ _ _ h=>h) (by assumption) (Or.inr ⟨by rfl,rfl⟩) ?_
   try simp only[Act.put,sA,sB,sC,sD,sE,sF]
   refine AC (i:=39) rfl (by kernel_rfl) (fun _ _ _ h=>h) (by assumption) (Or.inr ⟨by rfl,rfl⟩) ?_
   try simp only[Act.put,sA,sB,sC,sD,sE,sF]
   refine AC (i:=40) rfl (by kernel_rfl) (fun _ _ _ h=>h) (by assumption) (Or.inr ⟨by rfl,rfl⟩) ?_
   try simp only[Act.put,sA,sB,sC,sD,sE,sF]
   refine Ag (by kernel_rfl) ?_;simp only[List.drop_succ_cons,List.drop_zero];have HFA:Fr (fun _=>False) A A.drew:=Fr.of_below HBc.out.drew;clear hHeld hHeld0;have HNO:=zz (show sb=false from HBAD.out hno);have h2:=HFA.at_ hbr hnr;have f7:=DF h2;have d7:=AJ _ (w.heap.size+1) 0 _ _ (0,0) h2;simp at d7;have l7:=(Ab.1 h2).1;have HFIN:=zz (HRET.out HNO.out _ HFA);clear HFA h2;go_wp2;gi_wp2;exact HFIN.out
  have q2:decide ((20:Int) < (nd.kind:Int))=false:=by simp;omega
  have q3:decide (20 < nd.kind)=false:=by simp;omega
  have TK:=zz (TK0.out ⟨by omega,by omega⟩);have HROW:=zz (HROW.out.trans (by rw[decide_eq_true (by omega:1≤nd.kind),decide_eq_true (by omega:nd.kind≤20),Bool.true_and,Bool.true_and]));clear TK0 k0 k20;cases kb
  ·have hno:rowB M par (xi,nd)=false:=HRV.out.trans HROW.out
   clear TP TQ;gi_wp2;refine BB (fun w'=>w'.cell? ⟨w.heap.size,0,none⟩=some (.pointer (some ⟨ab,0,none⟩))∧w'.cell? ⟨blk,0,none⟩=some (.int .u8 (nd.kind:Int))∧w'.cell? ⟨blk,1,none⟩=some (strV nd.name)∧w'.cell? ⟨blk,2,none⟩=some (.int .i64 nd.num)∧w'.cell? ⟨blk,3,none⟩=some (.int .u8 (nd.type:Int))∧w'.cell? ⟨blk,4,none⟩=some (.int .u64 (nd.ref:Int))∧w'.cell? ⟨blk,5,none⟩=some (.slice ka nd.kids.length kc)) 41 (by kernel_rfl) (by kernel_rfl) (by rintro⟨_,_,h⟩;exact h) ?_;refine tz 0 ?_;refine tz 1 ?_;refine tz 2 ?_;refine tz 3 ?_;refine tz 4 ?_;refine tz 5 ?_;refine tz 6 ?_;refine tz 7 ?_;refine tz 8 ?_;refine tz 9 ?_;refine tz 10 ?_;refine AR (i:=11) rfl (by kernel_rfl) (fun K hK=> ?_);go_simp;refine Calls.mono (TK.out _ (by first|exact HBc.out|exact HBc.out.drew|exact HBc.out.drew.drew)) ?_;rintro e w5 ⟨rfl,hb5⟩;have HBc:=zz (show Below A.heap.size A w5 from by first|exact HBc.out.trans (hb5.mono HBc.out.size)|exact HBc.out.drew.trans (hb5.mono HBc.out.drew.size));clear hb5 TK;refine hK.out _ _ (⟨(HBc.out.cell (p:=⟨w.heap.size,0,none⟩) hBl).trans hHeld0.1,(HBc.out.cell (p:=⟨blk,0,none⟩) hbl).trans hHeld0.2.1,(HBc.out.cell (p:=⟨blk,1,none⟩) hbl).trans hHeld0.2.2.1,(HBc.out.cell (p:=⟨blk,2,none⟩) hbl).trans hHeld0.2.2.2.1,(HBc.out.cell (p:=⟨blk,3,none⟩) hbl).trans hHeld0.2.2.2.2.1,(HBc.out.cell (p:=⟨blk,4,none⟩) hbl).trans hHeld0.2.2.2.2.2.1,(HBc.out.cell (p:=⟨blk,5,none⟩) hbl).trans hHeld0.2.2.2.2.2.2⟩) (fun hHeld=> ?_);clear hK K
   try simp only[Act.put,sA,sB,sC,sD,sE,sF]
   refine tz 12 ?_;refine tz 13 ?_;refine tz 14 ?_;refine AC (i:=15) rfl (by kernel_rfl) (fun _ _ _ h=>h) (by assumption) (Or.inr ⟨by rfl,rfl⟩) ?_
   try simp only[Act.put,sA,sB,sC,sD,sE,sF]
   refine AC (i:=16) rfl (by kernel_rfl) (fun _ _ _ h=>h) (by assumption) (Or.inr ⟨by rfl,rfl⟩) ?_
   try simp only[Act.put,sA,sB,sC,sD,sE,sF]
   refine AC (i:=17) rfl (by kernel_rfl) (fun _ _ _ h=>h) (by assumption) (Or.inr ⟨by rfl,rfl⟩) ?_
   try simp only[Act.put,sA,sB,sC,sD,sE,sF]
   refine AC (i:=18) rfl (by kernel_rfl) (fun _ _ _ h=>h) (by assumption) (Or.inr ⟨by rfl,rfl⟩) ?_
   try simp only[Act.put,sA,sB,sC,sD,sE,sF]
   refine tz 19 ?_;refine tz 20 ?_;refine AC (i:=21) rfl (by kernel_rfl) (fun _ _ _ h=>h) (by assumption) (Or.inr ⟨by rfl,rfl⟩) ?_
   try simp only[Act.put,sA,sB,sC,sD,sE,sF]
   refine AC (i:=22) rfl (by kernel_rfl) (fun _ _ _ h=>h) (by assumption) (Or.inr ⟨by rfl,rfl⟩) ?_
   try simp only[Act.put,sA,sB,sC,sD,sE,sF]
   refine AC (i:=23) rfl (by kernel_rfl) (fun _ _ _ h=>h) (by assumption) (Or.inr ⟨by rfl,rfl⟩) ?_
   try simp only[Act.put,sA,sB,sC,sD,sE,sF]
   refine AC (i:=24) rfl (by kernel_rfl) (fun _ _ _ h=>h) (by assumption) (Or.inr ⟨by rfl,rfl⟩) ?_
   try simp only[Act.put,sA,sB,sC,sD,sE,sF]
   refine AC (i:=25) rfl (by kernel_rfl) (fun _ _ _ h=>h) (by assumption) (Or.inr ⟨by rfl,rfl⟩) ?_
   try simp only[Act.put,sA,sB,sC,sD,sE,sF]
   refine AC (i:=26) rfl (by kernel_rfl) (fun _ _ _ h=>h) (by assumption) (Or.inr ⟨by rfl,rfl⟩) ?_
   try simp only[Act.put,sA,sB,sC,sD,sE,sF]
   refine AC (i:=27) rfl (by kernel_rfl) (fun _ _ _ h=>h) (by assumption) (Or.inr ⟨by rfl,rfl⟩) ?_
   try simp only[Act.put,sA,sB,sC,sD,sE,sF]
   refine AC (i:=28) rfl (by kernel_rfl) (fun _ _ _ h=>h) (by assumption) (Or.inr ⟨by rfl,rfl⟩) ?_
   try simp only[Act.put,sA,sB,sC,sD,sE,sF]
   refine tz 29 ?_;refine tz 30 ?_;refine AC (i:=31) rfl (by kernel_rfl) (fun _ _ _ h=>h) (by assumption) (Or.inr ⟨by rfl,rfl⟩) ?_
   try simp only[Act.put,sA,sB,sC,sD,sE,sF]
   refine AC (i:=32) rfl (by kernel_rfl) (fun _ _ _ h=>h) (by assumption) (Or.inr ⟨by rfl,rfl⟩) ?_
   try simp only[Act.put,sA,sB,sC,sD,sE,sF]
   refine AC (i:=33) rfl (by kernel_rfl) (fun _ _ _ h=>h) (by assumption) (Or.inr ⟨by rfl,rfl⟩) ?_
   try simp only[Act.put,sA,sB,sC,sD,sE,sF]
   refine AC (i:=34) rfl (by kernel_rfl) (fun _ _ _ h=>h) (by assumption) (Or.inr ⟨by rfl,rfl⟩) ?_
   try simp only[Act.put,sA,sB,sC,sD,sE,sF]
   refine AC (i:=35) rfl (by kernel_rfl) (fun _ _ _ h=>h) (by assumption) (Or.inr ⟨by rfl,rfl⟩) ?_
   try simp only[Act.put,sA,sB,sC,sD,sE,sF]
   refine AC (i:=36) rfl (by kernel_rfl) (fun _ _ _ h=>h) (by assumption) (Or.inr ⟨by rfl,rfl⟩) ?_
   try simp only[Act.put,sA,sB,sC,sD,sE,sF]
   refine AC (i:=37) rfl (by kernel_rfl) (fun _ _ _ h=>h) (by assumption) (Or.inr ⟨by rfl,rfl⟩) ?_
   try simp only[Act.put,sA,sB,sC,sD,sE,sF]
   refine AC (i:=38) rfl (by kernel_rfl) (fun _ _ _ h=>h) (by assumption) (Or.inr ⟨by rfl,rfl⟩) ?_
   try simp only[Act.put,sA,sB,sC,sD,sE,sF]
   refine AC (i:=39) rfl (by kernel_rfl) (fun _ _ _ h=>h) (by assumption) (Or.inr ⟨by rfl,rfl⟩) ?_
   try simp only[Act.put,sA,sB,sC,sD,sE,sF]
   refine AC (i:=40) rfl (by kernel_rfl) (fun _ _ _ h=>h) (by assumption) (Or.inr ⟨by rfl,rfl⟩) ?_
   try simp only[Act.put,sA,sB,sC,sD,sE,sF]
   refine Ag (by kernel_rfl) ?_;simp only[List.drop_succ_cons,List.drop_zero];have HFA:Fr (fun _=>False) A _:=Fr.of_below HBc.out;clear hHeld hHeld0;have HNO:=zz (show sb=false from HBAD.out hno);have h2:=HFA.at_ hbr hnr;have f7:=DF h2;have d7:=AJ _ (w.heap.size+1) 0 _ _ (0,0) h2;simp at d7;have l7:=(Ab.1 h2).1;have HFIN:=zz (HRET.out HNO.out _ HFA);clear HFA h2;go_wp2;gi_wp2;exact HFIN.out
  cases pb
  ·have hno:rowB M par (xi,nd)=false:=HRV.out.trans HROW.out
   clear TQ;gi_wp2;refine BB (fun w'=>w'.cell? ⟨w.heap.size,0,none⟩=some (.pointer (some ⟨ab,0,none⟩))∧w'.cell? ⟨blk,0,none⟩=some (.int .u8 (nd.kind:Int))∧w'.cell? ⟨blk,1,none⟩=some (strV nd.name)∧w'.cell? ⟨blk,2,none⟩=some (.int .i64 nd.num)∧w'.cell? ⟨blk,3,none⟩=some (.int .u8 (nd.type:Int))∧w'.cell? ⟨blk,4,none⟩=some (.int .u64 (nd.ref:Int))∧w'.cell? ⟨blk,5,none⟩=some (.slice ka nd.kids.length kc)) 41 (by kernel_rfl) (by kernel_rfl) (by rintro⟨_,_,h⟩;exact h) ?_;refine tz 0 ?_;refine tz 1 ?_;refine tz 2 ?_;refine tz 3 ?_;refine tz 4 ?_;refine tz 5 ?_;refine tz 6 ?_;refine tz 7 ?_;refine tz 8 ?_;refine tz 9 ?_;refine tz 10 ?_;refine AR (i:=11) rfl (by kernel_rfl) (fun K hK=> ?_);go_simp;refine Calls.mono (TK.out _ (by first|exact HBc.out|exact HBc.out.drew|exact HBc.out.drew.drew)) ?_;rintro e w5 ⟨rfl,hb5⟩;have HBc:=zz (show Below A.heap.size A w5 from by first|exact HBc.out.trans (hb5.mono HBc.out.size)|exact HBc.out.drew.trans (hb5.mono HBc.out.drew.size));clear hb5 TK;refine hK.out _ _ (⟨(HBc.out.cell (p:=⟨w.heap.size,0,none⟩) hBl).trans hHeld0.1,(HBc.out.cell (p:=⟨blk,0,none⟩) hbl).trans hHeld0.2.1,(HBc.out.cell (p:=⟨blk,1,none⟩) hbl).trans hHeld0.2.2.1,(HBc.out.cell (p:=⟨blk,2,none⟩) hbl).trans hHeld0.2.2.2.1,(HBc.out.cell (p:=⟨blk,3,none⟩) hbl).trans hHeld0.2.2.2.2.1,(HBc.out.cell (p:=⟨blk,4,none⟩) hbl).trans hHeld0.2.2.2.2.2.1,(HBc.out.cell (p:=⟨blk,5,none⟩) hbl).trans hHeld0.2.2.2.2.2.2⟩) (fun hHeld=> ?_);clear hK K
   try simp only[Act.put,sA,sB,sC,sD,sE,sF]
   refine tz 12 ?_;refine tz 13 ?_;refine tz 14 ?_;refine tz 15 ?_;refine tz 16 ?_;refine AR (i:=17) rfl (by kernel_rfl) (fun K hK=> ?_);go_simp;refine Calls.mono (TP.out _ (by first|exact HBc.out|exact HBc.out.drew|exact HBc.out.drew.drew)) ?_;rintro e w6 ⟨rfl,hb5⟩;have HBc:=zz (show Below A.heap.size A w6 from by first|exact HBc.out.trans (hb5.mono HBc.out.size)|exact HBc.out.drew.trans (hb5.mono HBc.out.drew.size));clear hb5 TP;refine hK.out _ _ (⟨(HBc.out.cell (p:=⟨w.heap.size,0,none⟩) hBl).trans hHeld0.1,(HBc.out.cell (p:=⟨blk,0,none⟩) hbl).trans hHeld0.2.1,(HBc.out.cell (p:=⟨blk,1,none⟩) hbl).trans hHeld0.2.2.1,(HBc.out.cell (p:=⟨blk,2,none⟩) hbl).trans hHeld0.2.2.2.1,(HBc.out.cell (p:=⟨blk,3,none⟩) hbl).trans hHeld0.2.2.2.2.1,(HBc.out.cell (p:=⟨blk,4,none⟩) hbl).trans hHeld0.2.2.2.2.2.1,(HBc.out.cell (p:=⟨blk,5,none⟩) hbl).trans hHeld0.2.2.2.2.2.2⟩) (fun hHeld=> ?_);clear hK K
   try simp only[Act.put,sA,sB,sC,sD,sE,sF]
   refine tz 18 ?_;refine tz 19 ?_;refine tz 20 ?_;refine AC (i:=21) rfl (by kernel_rfl) (fun _ _ _ h=>h) (by assumption) (Or.inr ⟨by rfl,rfl⟩) ?_
   try simp only[Act.put,sA,sB,sC,sD,sE,sF]
   refine AC (i:=22) rfl (by kernel_rfl) (fun _ _ _ h=>h) (by assumption) (Or.inr ⟨by rfl,rfl⟩) ?_
   try simp only[Act.put,sA,sB,sC,sD,sE,sF]
   refine AC (i:=23) rfl (by kernel_rfl) (fun _ _ _ h=>h) (by assumption) (Or.inr ⟨by rfl,rfl⟩) ?_
   try simp only[Act.put,sA,sB,sC,sD,sE,sF]
   refine AC (i:=24) rfl (by kernel_rfl) (fun _ _ _ h=>h) (by assumption) (Or.inr ⟨by rfl,rfl⟩) ?_
   try simp only[Act.put,sA,sB,sC,sD,sE,sF]
   refine AC (i:=25) rfl (by kernel_rfl) (fun _ _ _ h=>h) (by assumption) (Or.inr ⟨by rfl,rfl⟩) ?_
   try simp only[Act.put,sA,sB,sC,sD,sE,sF]
   refine AC (i:=26) rfl (by kernel_rfl) (fun _ _ _ h=>h) (by assumption) (Or.inr ⟨by rfl,rfl⟩) ?_
   try simp only[Act.put,sA,sB,sC,sD,sE,sF]
   refine AC (i:=27) rfl (by kernel_rfl) (fun _ _ _ h=>h) (by assumption) (Or.inr ⟨by rfl,rfl⟩) ?_
   try simp only[Act.put,sA,sB,sC,sD,sE,sF]
   refine AC (i:=28) rfl (by kernel_rfl) (fun _ _ _ h=>h) (by assumption) (Or.inr ⟨by rfl,rfl⟩) ?_
   try simp only[Act.put,sA,sB,sC,sD,sE,sF]
   refine tz 29 ?_;refine tz 30 ?_;refine AC (i:=31) rfl (by kernel_rfl) (fun _ _ _ h=>h) (by assumption) (Or.inr ⟨by rfl,rfl⟩) ?_
   try simp only[Act.put,sA,sB,sC,sD,sE,sF]
   refine AC (i:=32) rfl (by kernel_rfl) (fun _ _ _ h=>h) (by assumption) (Or.inr ⟨by rfl,rfl⟩) ?_
   try simp only[Act.put,sA,sB,sC,sD,sE,sF]
   refine AC (i:=33) rfl (by kernel_rfl) (fun _ _ _ h=>h) (by assumption) (Or.inr ⟨by rfl,rfl⟩) ?_
   try simp only[Act.put,sA,sB,sC,sD,sE,sF]
   refine AC (i:=34) rfl (by kernel_rfl) (fun _ _ _ h=>h) (by assumption) (Or.inr ⟨by rfl,rfl⟩) ?_
   try simp only[Act.put,sA,sB,sC,sD,sE,sF]
   refine AC (i:=35) rfl (by kernel_rfl) (fun _ _ _ h=>h) (by assumption) (Or.inr ⟨by rfl,rfl⟩) ?_
   try simp only[Act.put,sA,sB,sC,sD,sE,sF]
   refine AC (i:=36) rfl (by kernel_rfl) (fun _ _ _ h=>h) (by assumption) (Or.inr ⟨by rfl,rfl⟩) ?_
   try simp only[Act.put,sA,sB,sC,sD,sE,sF]
   refine AC (i:=37) rfl (by kernel_rfl) (fun _ _ _ h=>h) (by assumption) (Or.inr ⟨by rfl,rfl⟩) ?_
   try simp only[Act.put,sA,sB,sC,sD,sE,sF]
   refine AC (i:=38) rfl (by kernel_rfl) (fun _ _ _ h=>h) (by assumption) (Or.inr ⟨by rfl,rfl⟩) ?_
   try simp only[Act.put,sA,sB,sC,sD,sE,sF]
   refine AC (i:=39) rfl (by kernel_rfl) (fun _ _ _ h=>h) (by assumption) (Or.inr ⟨by rfl,rfl⟩) ?_
   try simp only[Act.put,sA,sB,sC,sD,sE,sF]
   refine AC (i:=40) rfl (by kernel_rfl) (fun _ _ _ h=>h) (by assumption) (Or.inr ⟨by rfl,rfl⟩) ?_
   try simp only[Act.put,sA,sB,sC,sD,sE,sF]
   refine Ag (by kernel_rfl) ?_;simp only[List.drop_succ_cons,List.drop_zero];have HFA:Fr (fun _=>False) A _:=Fr.of_below HBc.out;clear hHeld hHeld0;have HNO:=zz (show sb=false from HBAD.out hno);have h2:=HFA.at_ hbr hnr;have f7:=DF h2;have d7:=AJ _ (w.heap.size+1) 0 _ _ (0,0) h2;simp at d7;have l7:=(Ab.1 h2).1;have HFIN:=zz (HRET.out HNO.out _ HFA);clear HFA h2;go_wp2;gi_wp2;exact HFIN.out
  have q7:((nd.kind:Int)==1)=decide (nd.kind=1):=by rw[Bool.eq_iff_iff];simp;omega
  have q8:((xi:Int)==1)=decide (xi=1):=by rw[Bool.eq_iff_iff];simp;omega
  have q5:((nd.kind:Int)==5)=decide (nd.kind=5):=by rw[Bool.eq_iff_iff];simp;omega
  have h15:decide (nd.kind=1)=true→decide (nd.kind=5)=false:=fun h=>by have:=of_decide_eq_true h;simp;omega
  generalize decide (nd.kind=1)=c1 at HROW q7 h15;generalize decide (xi=1)=c2 at HROW q8;generalize decide (nd.kind=5)=c5 at HROW q5 h15;rcases(show(c1=true∧c2=false)∨(c1=false∧c2=true)∨(c1=true∧c2=true∧c5=false)∨(c1=false∧c2=false∧c5=false)∨(c1=false∧c2=false∧c5=true) from UY h15) with⟨rfl,rfl⟩|⟨rfl,rfl⟩|⟨rfl,rfl,rfl⟩|⟨rfl,rfl,rfl⟩|⟨rfl,rfl,rfl⟩
  iterate 2
   ·have hno:rowB M par (xi,nd)=false:=HRV.out.trans HROW.out
    clear TQ h15;gi_wp2;refine BB (fun w'=>w'.cell? ⟨w.heap.size,0,none⟩=some (.pointer (some ⟨ab,0,none⟩))∧w'.cell? ⟨blk,0,none⟩=some (.int .u8 (nd.kind:Int))∧w'.cell? ⟨blk,1,none⟩=some (strV nd.name)∧w'.cell? ⟨blk,2,none⟩=some (.int .i64 nd.num)∧w'.cell? ⟨blk,3,none⟩=some (.int .u8 (nd.type:Int))∧w'.cell? ⟨blk,4,none⟩=some (.int .u64 (nd.ref:Int))∧w'.cell? ⟨blk,5,none⟩=some (.slice ka nd.kids.length kc)) 41 (by kernel_rfl) (by kernel_rfl) (by rintro⟨_,_,h⟩;exact h) ?_;refine tz 0 ?_;refine tz 1 ?_;refine tz 2 ?_;refine tz 3 ?_;refine tz 4 ?_;refine tz 5 ?_;refine tz 6 ?_;refine tz 7 ?_;refine tz 8 ?_;refine tz 9 ?_;refine tz 10 ?_;refine AR (i:=11) rfl (by kernel_rfl) (fun K hK=> ?_);go_simp;refine Calls.mono (TK.out _ (by first|exact HBc.out|exact HBc.out.drew|exact HBc.out.drew.drew)) ?_;rintro e w5 ⟨rfl,hb5⟩;have HBc:=zz (show Below A.heap.size A w5 from by first|exact HBc.out.trans (hb5.mono HBc.out.size)|exact HBc.out.drew.trans (hb5.mono HBc.out.drew.size));clear hb5 TK;refine hK.out _ _ (⟨(HBc.out.cell (p:=⟨w.heap.size,0,none⟩) hBl).trans hHeld0.1,(HBc.out.cell (p:=⟨blk,0,none⟩) hbl).trans hHeld0.2.1,(HBc.out.cell (p:=⟨blk,1,none⟩) hbl).trans hHeld0.2.2.1,(HBc.out.cell (p:=⟨blk,2,none⟩) hbl).trans hHeld0.2.2.2.1,(HBc.out.cell (p:=⟨blk,3,none⟩) hbl).trans hHeld0.2.2.2.2.1,(HBc.out.cell (p:=⟨blk,4,none⟩) hbl).trans hHeld0.2.2.2.2.2.1,(HBc.out.cell (p:=⟨blk,5,none⟩) hbl).trans hHeld0.2.2.2.2.2.2⟩) (fun hHeld=> ?_);clear hK K
    try simp only[Act.put,sA,sB,sC,sD,sE,sF]
    refine tz 12 ?_;refine tz 13 ?_;refine tz 14 ?_;refine tz 15 ?_;refine tz 16 ?_;refine AR (i:=17) rfl (by kernel_rfl) (fun K hK=> ?_);go_simp;refine Calls.mono (TP.out _ (by first|exact HBc.out|exact HBc.out.drew|exact HBc.out.drew.drew)) ?_;rintro e w6 ⟨rfl,hb5⟩;have HBc:=zz (show Below A.heap.size A w6 from by first|exact HBc.out.trans (hb5.mono HBc.out.size)|exact HBc.out.drew.trans (hb5.mono HBc.out.drew.size));clear hb5 TP;refine hK.out _ _ (⟨(HBc.out.cell (p:=⟨w.heap.size,0,none⟩) hBl).trans hHeld0.1,(HBc.out.cell (p:=⟨blk,0,none⟩) hbl).trans hHeld0.2.1,(HBc.out.cell (p:=⟨blk,1,none⟩) hbl).trans hHeld0.2.2.1,(HBc.out.cell (p:=⟨blk,2,none⟩) hbl).trans hHeld0.2.2.2.1,(HBc.out.cell (p:=⟨blk,3,none⟩) hbl).trans hHeld0.2.2.2.2.1,(HBc.out.cell (p:=⟨blk,4,none⟩) hbl).trans hHeld0.2.2.2.2.2.1,(HBc.out.cell (p:=⟨blk,5,none⟩) hbl).trans hHeld0.2.2.2.2.2.2⟩) (fun hHeld=> ?_);clear hK K
    try simp only[Act.put,sA,sB,sC,sD,sE,sF]
    refine tz 18 ?_;refine tz 19 ?_;refine tz 20 ?_;refine tz 21 ?_;refine tz 22 ?_;refine tz 23 ?_;refine tz 24 ?_;refine tz 25 ?_;refine AR (i:=26) rfl (by kernel_rfl) (fun K hK=> ?_);go_simp;refine(TR.out _).mono ?_;rintro e w8 ⟨rfl,rfl⟩;refine hK.out _ _ (hHeld) (fun hHeld=> ?_);clear hK K
    try simp only[Act.put,sA,sB,sC,sD,sE,sF]
    refine tz 27 ?_;refine tz 28 ?_;refine tz 29 ?_;refine tz 30 ?_;refine AC (i:=31) rfl (by kernel_rfl) (fun _ _ _ h=>h) (by assumption) (Or.inr ⟨by rfl,rfl⟩) ?_
    try simp only[Act.put,sA,sB,sC,sD,sE,sF]
    refine AC (i:=32) rfl (by kernel_rfl) (fun _ _ _ h=>h) (by assumption) (Or.inr ⟨by rfl,rfl⟩) ?_
    try simp only[Act.put,sA,sB,sC,sD,sE,sF]
    refine AC (i:=33) rfl (by kernel_rfl) (fun _ _ _ h=>h) (by assumption) (Or.inr ⟨by rfl,rfl⟩) ?_
    try simp only[Act.put,sA,sB,sC,sD,sE,sF]
    refine AC (i:=34) rfl (by kernel_rfl) (fun _ _ _ h=>h) (by assumption) (Or.inr ⟨by rfl,rfl⟩) ?_
    try simp only[Act.put,sA,sB,sC,sD,sE,sF]
    refine AC (i:=35) rfl (by kernel_rfl) (fun _ _ _ h=>h) (by assumption) (Or.inr ⟨by rfl,rfl⟩) ?_
    try simp only[Act.put,sA,sB,sC,sD,sE,sF]
    refine AC (i:=36) rfl (by kernel_rfl) (fun _ _ _ h=>h) (by assumption) (Or.inr ⟨by rfl,rfl⟩) ?_
    try simp only[Act.put,sA,sB,sC,sD,sE,sF]
    refine AC (i:=37) rfl (by kernel_rfl) (fun _ _ _ h=>h) (by assumption) (Or.inr ⟨by rfl,rfl⟩) ?_
    try simp only[Act.put,sA,sB,sC,sD,sE,sF]
    refine AC (i:=38) rfl (by kernel_rfl) (fun _ _ _ h=>h) (by assumption) (Or.inr ⟨by rfl,rfl⟩) ?_
    try simp only[Act.put,sA,sB,sC,sD,sE,sF]
    refine AC (i:=39) rfl (by kernel_rfl) (fun _ _ _ h=>h) (by assumption) (Or.inr ⟨by rfl,rfl⟩) ?_
    try simp only[Act.put,sA,sB,sC,sD,sE,sF]
    refine AC (i:=40) rfl (by kernel_rfl) (fun _ _ _ h=>h) (by assumption) (Or.inr ⟨by rfl,rfl⟩) ?_
    try simp only[Act.put,sA,sB,sC,sD,sE,sF]
    refine Ag (by kernel_rfl) ?_;simp only[List.drop_succ_cons,List.drop_zero];have HFA:Fr (fun _=>False) A _:=Fr.of_below HBc.out;clear hHeld hHeld0;have HNO:=zz (show sb=false from HBAD.out hno);have h2:=HFA.at_ hbr hnr;have f7:=DF h2;have d7:=AJ _ (w.heap.size+1) 0 _ _ (0,0) h2;simp at d7;have l7:=(Ab.1 h2).1;have HFIN:=zz (HRET.out HNO.out _ HFA);clear HFA h2;go_wp2;gi_wp2;exact HFIN.out
  iterate 2
   ·have hyes:rowB M par (xi,nd)=true:=HRV.out.trans HROW.out
    clear TQ h15;gi_wp2;refine BB (fun w'=>w'.cell? ⟨w.heap.size,0,none⟩=some (.pointer (some ⟨ab,0,none⟩))∧w'.cell? ⟨blk,0,none⟩=some (.int .u8 (nd.kind:Int))∧w'.cell? ⟨blk,1,none⟩=some (strV nd.name)∧w'.cell? ⟨blk,2,none⟩=some (.int .i64 nd.num)∧w'.cell? ⟨blk,3,none⟩=some (.int .u8 (nd.type:Int))∧w'.cell? ⟨blk,4,none⟩=some (.int .u64 (nd.ref:Int))∧w'.cell? ⟨blk,5,none⟩=some (.slice ka nd.kids.length kc)) 41 (by kernel_rfl) (by kernel_rfl) (by rintro⟨_,_,h⟩;exact h) ?_;refine tz 0 ?_;refine tz 1 ?_;refine tz 2 ?_;refine tz 3 ?_;refine tz 4 ?_;refine tz 5 ?_;refine tz 6 ?_;refine tz 7 ?_;refine tz 8 ?_;refine tz 9 ?_;refine tz 10 ?_;refine AR (i:=11) rfl (by kernel_rfl) (fun K hK=> ?_);go_simp;refine Calls.mono (TK.out _ (by first|exact HBc.out|exact HBc.out.drew|exact HBc.out.drew.drew)) ?_;rintro e w5 ⟨rfl,hb5⟩;have HBc:=zz (show Below A.heap.size A w5 from by first|exact HBc.out.trans (hb5.mono HBc.out.size)|exact HBc.out.drew.trans (hb5.mono HBc.out.drew.size));clear hb5 TK;refine hK.out _ _ (⟨(HBc.out.cell (p:=⟨w.heap.size,0,none⟩) hBl).trans hHeld0.1,(HBc.out.cell (p:=⟨blk,0,none⟩) hbl).trans hHeld0.2.1,(HBc.out.cell (p:=⟨blk,1,none⟩) hbl).trans hHeld0.2.2.1,(HBc.out.cell (p:=⟨blk,2,none⟩) hbl).trans hHeld0.2.2.2.1,(HBc.out.cell (p:=⟨blk,3,none⟩) hbl).trans hHeld0.2.2.2.2.1,(HBc.out.cell (p:=⟨blk,4,none⟩) hbl).trans hHeld0.2.2.2.2.2.1,(HBc.out.cell (p:=⟨blk,5,none⟩) hbl).trans hHeld0.2.2.2.2.2.2⟩) (fun hHeld=> ?_);clear hK K
    try simp only[Act.put,sA,sB,sC,sD,sE,sF]
    refine tz 12 ?_;refine tz 13 ?_;refine tz 14 ?_;refine tz 15 ?_;refine tz 16 ?_;refine AR (i:=17) rfl (by kernel_rfl) (fun K hK=> ?_);go_simp;refine Calls.mono (TP.out _ (by first|exact HBc.out|exact HBc.out.drew|exact HBc.out.drew.drew)) ?_;rintro e w6 ⟨rfl,hb5⟩;have HBc:=zz (show Below A.heap.size A w6 from by first|exact HBc.out.trans (hb5.mono HBc.out.size)|exact HBc.out.drew.trans (hb5.mono HBc.out.drew.size));clear hb5 TP;refine hK.out _ _ (⟨(HBc.out.cell (p:=⟨w.heap.size,0,none⟩) hBl).trans hHeld0.1,(HBc.out.cell (p:=⟨blk,0,none⟩) hbl).trans hHeld0.2.1,(HBc.out.cell (p:=⟨blk,1,none⟩) hbl).trans hHeld0.2.2.1,(HBc.out.cell (p:=⟨blk,2,none⟩) hbl).trans hHeld0.2.2.2.1,(HBc.out.cell (p:=⟨blk,3,none⟩) hbl).trans hHeld0.2.2.2.2.1,(HBc.out.cell (p:=⟨blk,4,none⟩) hbl).trans hHeld0.2.2.2.2.2.1,(HBc.out.cell (p:=⟨blk,5,none⟩) hbl).trans hHeld0.2.2.2.2.2.2⟩) (fun hHeld=> ?_);clear hK K
    try simp only[Act.put,sA,sB,sC,sD,sE,sF]
    refine tz 18 ?_;refine tz 19 ?_;refine tz 20 ?_;refine tz 21 ?_;refine tz 22 ?_;refine tz 23 ?_;refine tz 24 ?_;refine tz 25 ?_;refine AR (i:=26) rfl (by kernel_rfl) (fun K hK=> ?_);go_simp;refine(TR.out _).mono ?_;rintro e w8 ⟨rfl,rfl⟩;refine hK.out _ _ (hHeld) (fun hHeld=> ?_);clear hK K
    try simp only[Act.put,sA,sB,sC,sD,sE,sF]
    refine tz 27 ?_;refine tz 28 ?_;refine tz 29 ?_;refine tz 30 ?_;refine tz 31 ?_;refine tz 32 ?_;refine tz 33 ?_;refine tz 34 ?_;refine AC (i:=35) rfl (by kernel_rfl) (fun _ _ _ h=>h) (by assumption) (Or.inr ⟨by rfl,rfl⟩) ?_
    try simp only[Act.put,sA,sB,sC,sD,sE,sF]
    refine AC (i:=36) rfl (by kernel_rfl) (fun _ _ _ h=>h) (by assumption) (Or.inr ⟨by rfl,rfl⟩) ?_
    try simp only[Act.put,sA,sB,sC,sD,sE,sF]
    refine AC (i:=37) rfl (by kernel_rfl) (fun _ _ _ h=>h) (by assumption) (Or.inr ⟨by rfl,rfl⟩) ?_
    try simp only[Act.put,sA,sB,sC,sD,sE,sF]
    refine AC (i:=38) rfl (by kernel_rfl) (fun _ _ _ h=>h) (by assumption) (Or.inr ⟨by rfl,rfl⟩) ?_
    try simp only[Act.put,sA,sB,sC,sD,sE,sF]
    refine AC (i:=39) rfl (by kernel_rfl) (fun _ _ _ h=>h) (by assumption) (Or.inr ⟨by rfl,rfl⟩) ?_
    try simp only[Act.put,sA,sB,sC,sD,sE,sF]
    refine tz 40 ?_;refine Ag (by kernel_rfl) ?_;simp only[List.drop_succ_cons,List.drop_zero];have HFA:Fr (fun _=>False) A _:=Fr.of_below HBc.out;clear hHeld hHeld0;have HFIN:=zz (HGO.out hyes _ HFA);clear HFA;go_wp2;gi_wp2;exact HFIN.out
  ·clear h15
   cases rb
   ·have hno:rowB M par (xi,nd)=false:=HRV.out.trans HROW.out
    gi_wp2;refine BB (fun w'=>w'.cell? ⟨w.heap.size,0,none⟩=some (.pointer (some ⟨ab,0,none⟩))∧w'.cell? ⟨blk,0,none⟩=some (.int .u8 (nd.kind:Int))∧w'.cell? ⟨blk,1,none⟩=some (strV nd.name)∧w'.cell? ⟨blk,2,none⟩=some (.int .i64 nd.num)∧w'.cell? ⟨blk,3,none⟩=some (.int .u8 (nd.type:Int))∧w'.cell? ⟨blk,4,none⟩=some (.int .u64 (nd.ref:Int))∧w'.cell? ⟨blk,5,none⟩=some (.slice ka nd.kids.length kc)) 41 (by kernel_rfl) (by kernel_rfl) (by rintro⟨_,_,h⟩;exact h) ?_;refine tz 0 ?_;refine tz 1 ?_;refine tz 2 ?_;refine tz 3 ?_;refine tz 4 ?_;refine tz 5 ?_;refine tz 6 ?_;refine tz 7 ?_;refine tz 8 ?_;refine tz 9 ?_;refine tz 10 ?_;refine AR (i:=11) rfl (by kernel_rfl) (fun K hK=> ?_);go_simp;refine Calls.mono (TK.out _ (by first|exact HBc.out|exact HBc.out.drew|exact HBc.out.drew.drew)) ?_;rintro e w5 ⟨rfl,hb5⟩;have HBc:=zz (show Below A.heap.size A w5 from by first|exact HBc.out.trans (hb5.mono HBc.out.size)|exact HBc.out.drew.trans (hb5.mono HBc.out.drew.size));clear hb5 TK;refine hK.out _ _ (⟨(HBc.out.cell (p:=⟨w.heap.size,0,none⟩) hBl).trans hHeld0.1,(HBc.out.cell (p:=⟨blk,0,none⟩) hbl).trans hHeld0.2.1,(HBc.out.cell (p:=⟨blk,1,none⟩) hbl).trans hHeld0.2.2.1,(HBc.out.cell (p:=⟨blk,2,none⟩) hbl).trans hHeld0.2.2.2.1,(HBc.out.cell (p:=⟨blk,3,none⟩) hbl).trans hHeld0.2.2.2.2.1,(HBc.out.cell (p:=⟨blk,4,none⟩) hbl).trans hHeld0.2.2.2.2.2.1,(HBc.out.cell (p:=⟨blk,5,none⟩) hbl).trans hHeld0.2.2.2.2.2.2⟩) (fun hHeld=> ?_);clear hK K
    try simp only[Act.put,sA,sB,sC,sD,sE,sF]
    refine tz 12 ?_;refine tz 13 ?_;refine tz 14 ?_;refine tz 15 ?_;refine tz 16 ?_;refine AR (i:=17) rfl (by kernel_rfl) (fun K hK=> ?_);go_simp;refine Calls.mono (TP.out _ (by first|exact HBc.out|exact HBc.out.drew|exact HBc.out.drew.drew)) ?_;rintro e w6 ⟨rfl,hb5⟩;have HBc:=zz (show Below A.heap.size A w6 from by first|exact HBc.out.trans (hb5.mono HBc.out.size)|exact HBc.out.drew.trans (hb5.mono HBc.out.drew.size));clear hb5 TP;refine hK.out _ _ (⟨(HBc.out.cell (p:=⟨w.heap.size,0,none⟩) hBl).trans hHeld0.1,(HBc.out.cell (p:=⟨blk,0,none⟩) hbl).trans hHeld0.2.1,(HBc.out.cell (p:=⟨blk,1,none⟩) hbl).trans hHeld0.2.2.1,(HBc.out.cell (p:=⟨blk,2,none⟩) hbl).trans hHeld0.2.2.2.1,(HBc.out.cell (p:=⟨blk,3,none⟩) hbl).trans hHeld0.2.2.2.2.1,(HBc.out.cell (p:=⟨blk,4,none⟩) hbl).trans hHeld0.2.2.2.2.2.1,(HBc.out.cell (p:=⟨blk,5,none⟩) hbl).trans hHeld0.2.2.2.2.2.2⟩) (fun hHeld=> ?_);clear hK K
    try simp only[Act.put,sA,sB,sC,sD,sE,sF]
    refine tz 18 ?_;refine tz 19 ?_;refine tz 20 ?_;refine tz 21 ?_;refine tz 22 ?_;refine tz 23 ?_;refine tz 24 ?_;refine tz 25 ?_;refine AR (i:=26) rfl (by kernel_rfl) (fun K hK=> ?_);go_simp;refine(TR.out _).mono ?_;rintro e w8 ⟨rfl,rfl⟩;refine hK.out _ _ (hHeld) (fun hHeld=> ?_);clear hK K
    try simp only[Act.put,sA,sB,sC,sD,sE,sF]
    refine tz 27 ?_;refine tz 28 ?_;refine tz 29 ?_;refine tz 30 ?_;refine tz 31 ?_;refine tz 32 ?_;refine tz 33 ?_;refine tz 34 ?_;refine tz 35 ?_;refine tz 36 ?_;refine tz 37 ?_;refine AR (i:=38) rfl (by kernel_rfl) (fun K hK=> ?_);go_simp;refine Calls.mono (TQ.out _ (by first|exact HBc.out|exact HBc.out.drew|exact HBc.out.drew.drew)) ?_;rintro e w7 ⟨rfl,hb5⟩;have HBc:=zz (show Below A.heap.size A w7 from by first|exact HBc.out.trans (hb5.mono HBc.out.size)|exact HBc.out.drew.trans (hb5.mono HBc.out.drew.size));clear hb5 TQ;refine hK.out _ _ (⟨(HBc.out.cell (p:=⟨w.heap.size,0,none⟩) hBl).trans hHeld0.1,(HBc.out.cell (p:=⟨blk,0,none⟩) hbl).trans hHeld0.2.1,(HBc.out.cell (p:=⟨blk,1,none⟩) hbl).trans hHeld0.2.2.1,(HBc.out.cell (p:=⟨blk,2,none⟩) hbl).trans hHeld0.2.2.2.1,(HBc.out.cell (p:=⟨blk,3,none⟩) hbl).trans hHeld0.2.2.2.2.1,(HBc.out.cell (p:=⟨blk,4,none⟩) hbl).trans hHeld0.2.2.2.2.2.1,(HBc.out.cell (p:=⟨blk,5,none⟩) hbl).trans hHeld0.2.2.2.2.2.2⟩) (fun hHeld=> ?_);clear hK K
    try simp only[Act.put,sA,sB,sC,sD,sE,sF]
    refine tz 39 ?_;refine tz 40 ?_;refine Ag (by kernel_rfl) ?_;simp only[List.drop_succ_cons,List.drop_zero];have HFA:Fr (fun _=>False) A _:=Fr.of_below HBc.out;clear hHeld hHeld0;have HNO:=zz (show sb=false from HBAD.out hno);have h2:=HFA.at_ hbr hnr;have f7:=DF h2;have d7:=AJ _ (w.heap.size+1) 0 _ _ (0,0) h2;simp at d7;have l7:=(Ab.1 h2).1;have HFIN:=zz (HRET.out HNO.out _ HFA);clear HFA h2;go_wp2;gi_wp2;exact HFIN.out
   ·have hyes:rowB M par (xi,nd)=true:=HRV.out.trans HROW.out
    gi_wp2;refine BB (fun w'=>w'.cell? ⟨w.heap.size,0,none⟩=some (.pointer (some ⟨ab,0,none⟩))∧w'.cell? ⟨blk,0,none⟩=some (.int .u8 (nd.kind:Int))∧w'.cell? ⟨blk,1,none⟩=some (strV nd.name)∧w'.cell? ⟨blk,2,none⟩=some (.int .i64 nd.num)∧w'.cell? ⟨blk,3,none⟩=some (.int .u8 (nd.type:Int))∧w'.cell? ⟨blk,4,none⟩=some (.int .u64 (nd.ref:Int))∧w'.cell? ⟨blk,5,none⟩=some (.slice ka nd.kids.length kc)) 41 (by kernel_rfl) (by kernel_rfl) (by rintro⟨_,_,h⟩;exact h) ?_;refine tz 0 ?_;refine tz 1 ?_;refine tz 2 ?_;refine tz 3 ?_;refine tz 4 ?_;refine tz 5 ?_;refine tz 6 ?_;refine tz 7 ?_;refine tz 8 ?_;refine tz 9 ?_;refine tz 10 ?_;refine AR (i:=11) rfl (by kernel_rfl) (fun K hK=> ?_);go_simp;refine Calls.mono (TK.out _ (by first|exact HBc.out|exact HBc.out.drew|exact HBc.out.drew.drew)) ?_;rintro e w5 ⟨rfl,hb5⟩;have HBc:=zz (show Below A.heap.size A w5 from by first|exact HBc.out.trans (hb5.mono HBc.out.size)|exact HBc.out.drew.trans (hb5.mono HBc.out.drew.size));clear hb5 TK;refine hK.out _ _ (⟨(HBc.out.cell (p:=⟨w.heap.size,0,none⟩) hBl).trans hHeld0.1,(HBc.out.cell (p:=⟨blk,0,none⟩) hbl).trans hHeld0.2.1,(HBc.out.cell (p:=⟨blk,1,none⟩) hbl).trans hHeld0.2.2.1,(HBc.out.cell (p:=⟨blk,2,none⟩) hbl).trans hHeld0.2.2.2.1,(HBc.out.cell (p:=⟨blk,3,none⟩) hbl).trans hHeld0.2.2.2.2.1,(HBc.out.cell (p:=⟨blk,4,none⟩) hbl).trans hHeld0.2.2.2.2.2.1,(HBc.out.cell (p:=⟨blk,5,none⟩) hbl).trans hHeld0.2.2.2.2.2.2⟩) (fun hHeld=> ?_);clear hK K
    try simp only[Act.put,sA,sB,sC,sD,sE,sF]
    refine tz 12 ?_;refine tz 13 ?_;refine tz 14 ?_;refine tz 15 ?_;refine tz 16 ?_;refine AR (i:=17) rfl (by kernel_rfl) (fun K hK=> ?_);go_simp;refine Calls.mono (TP.out _ (by first|exact HBc.out|exact HBc.out.drew|exact HBc.out.drew.drew)) ?_;rintro e w6 ⟨rfl,hb5⟩;have HBc:=zz (show Below A.heap.size A w6 from by first|exact HBc.out.trans (hb5.mono HBc.out.size)|exact HBc.out.drew.trans (hb5.mono HBc.out.drew.size));clear hb5 TP;refine hK.out _ _ (⟨(HBc.out.cell (p:=⟨w.heap.size,0,none⟩) hBl).trans hHeld0.1,(HBc.out.cell (p:=⟨blk,0,none⟩) hbl).trans hHeld0.2.1,(HBc.out.cell (p:=⟨blk,1,none⟩) hbl).trans hHeld0.2.2.1,(HBc.out.cell (p:=⟨blk,2,none⟩) hbl).trans hHeld0.2.2.2.1,(HBc.out.cell (p:=⟨blk,3,none⟩) hbl).trans hHeld0.2.2.2.2.1,(HBc.out.cell (p:=⟨blk,4,none⟩) hbl).trans hHeld0.2.2.2.2.2.1,(HBc.out.cell (p:=⟨blk,5,none⟩) hbl).trans hHeld0.2.2.2.2.2.2⟩) (fun hHeld=> ?_);clear hK K
    try simp only[Act.put,sA,sB,sC,sD,sE,sF]
    refine tz 18 ?_;refine tz 19 ?_;refine tz 20 ?_;refine tz 21 ?_;refine tz 22 ?_;refine tz 23 ?_;refine tz 24 ?_;refine tz 25 ?_;refine AR (i:=26) rfl (by kernel_rfl) (fun K hK=> ?_);go_simp;refine(TR.out _).mono ?_;rintro e w8 ⟨rfl,rfl⟩;refine hK.out _ _ (hHeld) (fun hHeld=> ?_);clear hK K
    try simp only[Act.put,sA,sB,sC,sD,sE,sF]
    refine tz 27 ?_;refine tz 28 ?_;refine tz 29 ?_;refine tz 30 ?_;refine tz 31 ?_;refine tz 32 ?_;refine tz 33 ?_;refine tz 34 ?_;refine tz 35 ?_;refine tz 36 ?_;refine tz 37 ?_;refine AR (i:=38) rfl (by kernel_rfl) (fun K hK=> ?_);go_simp;refine Calls.mono (TQ.out _ (by first|exact HBc.out|exact HBc.out.drew|exact HBc.out.drew.drew)) ?_;rintro e w7 ⟨rfl,hb5⟩;have HBc:=zz (show Below A.heap.size A w7 from by first|exact HBc.out.trans (hb5.mono HBc.out.size)|exact HBc.out.drew.trans (hb5.mono HBc.out.drew.size));clear hb5 TQ;refine hK.out _ _ (⟨(HBc.out.cell (p:=⟨w.heap.size,0,none⟩) hBl).trans hHeld0.1,(HBc.out.cell (p:=⟨blk,0,none⟩) hbl).trans hHeld0.2.1,(HBc.out.cell (p:=⟨blk,1,none⟩) hbl).trans hHeld0.2.2.1,(HBc.out.cell (p:=⟨blk,2,none⟩) hbl).trans hHeld0.2.2.2.1,(HBc.out.cell (p:=⟨blk,3,none⟩) hbl).trans hHeld0.2.2.2.2.1,(HBc.out.cell (p:=⟨blk,4,none⟩) hbl).trans hHeld0.2.2.2.2.2.1,(HBc.out.cell (p:=⟨blk,5,none⟩) hbl).trans hHeld0.2.2.2.2.2.2⟩) (fun hHeld=> ?_);clear hK K
    try simp only[Act.put,sA,sB,sC,sD,sE,sF]
    refine tz 39 ?_;refine tz 40 ?_;refine Ag (by kernel_rfl) ?_;simp only[List.drop_succ_cons,List.drop_zero];have HFA:Fr (fun _=>False) A _:=Fr.of_below HBc.out;clear hHeld hHeld0;have HFIN:=zz (HGO.out hyes _ HFA);clear HFA;go_wp2;gi_wp2;exact HFIN.out
 case done=>
  rintro S ys W hys ⟨⟨hBx,⟨r0,hRx⟩,hSv⟩,hall⟩ hK hnS hf;rw[hys] at hall;have HALL:=zz hall;clear hall;have hbw:Below w.heap.size w W:=HB1.out.trans ((hf.imp (D':=fun q=>w.heap.size≤q) (fun q _ e=>by rcases e with(e|e)|e|e <;>omega)).below' HB1.out.size);have hW1W:W1.heap.size < W.heap.size:=(Ab.1 hK).1;have hzw2:w.heap.size+2≤W.heap.size:=by omega
  have HKD:=zz hK;have hW1:w.heap.size+2≤W1.heap.size:=by omega
  clear hys hSv hnS hf hK hzw hzW g0 g1 HB1 HARW hseq;have hzw:=hzw2;clear hzw2;gi_wp2;refine wpIn_wide.2 (MC ?_);have e0:=AJ W w.heap.size 0 _ _ (0,0) hBx;simp at e0;have hHeld:(fun w'=>w'.cell? ⟨w.heap.size,0,none⟩=some (.pointer (some ⟨ab,0,none⟩))) (W).drew:=e0;refine Ay (fun w'=>w'.cell? ⟨w.heap.size,0,none⟩=some (.pointer (some ⟨ab,0,none⟩))) 3 (by kernel_rfl) ?_;refine tz 0 ?_;refine tz 1 ?_;refine AR (i:=2) rfl (by kernel_rfl) (fun K hK=> ?_);go_simp;refine(TR.out _).mono ?_;rintro e w1 ⟨rfl,rfl⟩;refine hK.out _ _ (hHeld) (fun hHeld=> ?_);clear hK K
  try simp only[Act.put,sA,sB,sC,sD,sE,sF]
  refine Ag (by kernel_rfl) ?_;simp only[List.drop_succ_cons,List.drop_zero];go_wp2_with fail;refine(TW.out _).mono ?_;rintro e w1 ⟨rfl,rfl⟩;have hdz:(W).drew.heap.size=(W).heap.size:=rfl;obtain⟨hbW,k1,k2,hzW⟩:=PD (W).drew (.cells #[.pointer (some ⟨ab,0,none⟩)] 26) (.cells #[idV 1] 37);rw[hdz] at hbW k1 k2 hzW⊢;generalize World.alloc (World.alloc (W).drew _) _=W2 at hbW k1 k2 hzW⊢;have hbW:Below (W).heap.size W W2:=((AP).drew).trans hbW;generalize hnz:(W).heap.size=nz at hbW k1 k2 hzW hzw⊢;have g0:(W2).heap[w.heap.size]? =some (.cells #[.pointer (some ⟨ab,0,none⟩)] 26 (0,0)):=(hbW.block _ (by omega)).trans hBx;have g1:(W2).heap[w.heap.size+1]? =some (.cells #[r0] 4 (0,0)):=(hbW.block _ (by omega)).trans hRx;have hb1:Below w.heap.size w W2:=hbw.trans (hbW.mono (by omega));have hseq:=IB ab mb c M w.heap.size 1 (nz+1) nz F xs W2 (fun W' hf=>HAR.out.below (hb1.trans (hf.below' (by omega))) AA) (AJ W2 (nz+1) 0 _ _ (0,0) k2) (AJ W2 nz 0 _ _ (0,0) k1) ⟨by omega,by omega,by omega,by omega⟩ (by decide) HKB.out HSH.out.walk HSH.out.f;have HB1:=zz hb1;have HARW:=zz (show∀W',Fr (fun q=>w.heap.size≤q) W2 W'→ArOk W' ab M from fun W' hf=>HA.out.below (hb1.trans (hf.below' (by omega))));have HBN:=zz (And.intro hnz hbW);clear k1 k2 hHeld hBx hRx hbw hbW e0 hb1 hdz hnz;go_wp2;gi_wp2;have hne0:W.heap.size≠W1.heap.size:=by omega
  refine GL (gf:=97) rfl (enters_of Tryz.func97 (by kernel_rfl) rfl) hseq (Fr.refl _ _) rfl (fun q h=>by rcases h with h|h <;>omega) (by omega)
   (fun S pre A=>BoxI ab w.heap.size S A∧(pre.map Am.strip).all (dpB M)=true) (fun c S _ A=>SjX sb ab w.heap.size c S A) (fun S pre x a A=>SjQ ab w.heap.size S x a A∧(pre.map Am.strip).all (dpB M)=true) (fun S pre A A' h hf=>⟨h.1.fr hf,h.2⟩) (fun c S pre A A' h hf=>⟨h.1,h.2.1.fr hf,hf.at_ h.2.2.1 (fun k=>k ((h.2.1.2.2 _).2 (.inr rfl))),h.2.2.2⟩) ?hI1z (fun S pre A h q hq=>(h.1.lt q hq).2) ?hI1lz
   (fun q=>q=w.heap.size∨q=w.heap.size+1) ⟨⟨g0,⟨_,g1⟩,fun q=>Iff.rfl⟩,rfl⟩ (fun q e=>by rcases e with e|e <;>subst e <;>exact⟨by omega,by omega,by omega⟩) ?assignz ?bodyz ?donez ?stopz
  case hI1z=>
   rintro S pre x a A A' ⟨⟨S0,blk,hi,ha,hb,hS,hn⟩,hp⟩ hf;exact⟨⟨S0,blk,hi.fr (hf.imp (fun q _ h h'=>h (.inl ((hS q).2 (.inl h'))))),ha,hf.at_ hb (fun h=>h (.inl ((hS blk).2 (.inr rfl)))),hS,hn⟩,hp⟩
  case hI1lz=>
   rintro S pre x a A ⟨⟨S0,blk,hi,ha,hb,hS,hn⟩,hp⟩ q hq;rcases(hS q).1 hq with h|h
   ·exact(hi.lt q h).2
   ·subst h;exact(Ab.1 hb).1
  case assignz=>
   intro l m S pre x A K hi hpre hx hkb hf hK;gi_wp2;refine hK (fun q=>S q∨q=A.heap.size) _ _ ⟨⟨S,A.heap.size,hi.1.fr ((Fr.refl _ _).alloc _), ?_,AZ A _,fun q=>Iff.rfl,fun h=>by have:=(hi.1.lt _ h).2;omega⟩,hi.2⟩ ((Fr.refl _ _).alloc _) (fun q h=>h.imp (fun h=>h) (fun h=>by omega));exact⟨_,_,_,_,_,_,_,_,_,_,_,_,_,_,_,_,_,_,_,_,_,_,_,_,_,_,_,_,_,_,_,_,_,_,_,_,_,_,_,_,_,_,_,_,_,_,_,_,_,_,_,_,_,_,_,_,_,_,_,_,_,_,_,_,_,_,_,_,_,rfl⟩
  case bodyz=>
   rintro l m S pre x a1 A ⟨⟨S0,blk,⟨hbx,⟨r0,hbr⟩,hSv⟩,ha,hb,hS,hn⟩,hpo⟩ hpre hf;obtain⟨u0,u3,u4,u7,u8,u9,u10,u11,u12,u13,u14,u15,u16,u17,u18,u19,u20,u21,u22,u23,u24,u25,u26,u27,u28,u29,u30,u31,u32,u33,u34,u35,u36,u37,u38,u39,u40,u41,u42,u43,u44,u45,u46,u47,u48,u49,u50,u51,u52,u53,u54,u55,u56,u57,u58,u59,u60,u61,u62,u63,u64,u65,u66,u67,u68,u69,u70,u71,u72,rfl⟩:=ha;have hxm:x.strip∈xs:=hpre.subset (by simp);have hf2:Fr (fun q=>w.heap.size≤q) W2 A:=hf.imp (fun q _ e=>by rcases e with(e|e)|e|e <;>omega);have hAA:=HARW.out A hf2;have hid:=HSH.out.id _ hxm;obtain⟨xi,nd,ka,kc⟩:=x;have hxm:(xi,nd)∈xs:=hxm;have hid:xi < Aj:=hid;have HBAD:=zz (show dpB M (xi,nd)=false→sb=false from fun h=>HSB.out.trans (PH fun h'=>by
    have:=List.all_eq_true.1 h'.2.2 _ hxm;rw[h] at this;cases this))
   have HRET:=zz (show sb=false→∀W:World,Fr (fun _=>False) A W→∃S',SjX sb ab w.heap.size .ret S' (W.setCell ⟨w.heap.size+1,0,none⟩ (.bool false))∧Fr S A (W.setCell ⟨w.heap.size+1,0,none⟩ (.bool false))∧∀q,S' q→S q∨A.heap.size≤q from fun hno W hf=>by
    have h1:W.heap[w.heap.size]? =some (.cells #[.pointer (some ⟨ab,0,none⟩)] 26 (0,0)):=hf.at_ hbx (fun h=>h);have h2:W.heap[w.heap.size+1]? =some (.cells #[r0] 4 (0,0)):=hf.at_ hbr (fun h=>h);have h3:(W.setCell ⟨w.heap.size+1,0,none⟩ (.bool false)).heap[w.heap.size+1]? =some (.cells #[.bool false] 4 (0,0)):=heap_setCell_same h2 _;exact⟨S0,⟨rfl,⟨(Below.heap_setCell W ⟨w.heap.size+1,0,none⟩ (.bool false) w.heap.size (by show¬w.heap.size=w.heap.size+1;omega)).trans h1,⟨_,h3⟩,hSv⟩,h3,hno⟩,(hf.imp (fun q _ e=>e.elim)).set (p:=⟨w.heap.size+1,0,none⟩) (.inl ((hS _).2 (.inl ((hSv _).2 (.inr rfl))))) _,fun q h=> .inl ((hS q).2 (.inl h))⟩)
   have HGO:=zz (show(dpB M) (xi,nd)=true→∀W:World,Fr (fun _=>False) A W→∃S',(BoxI ab w.heap.size S' W∧((pre++[(⟨xi,nd,ka,kc⟩:Am)]).map Am.strip).all (dpB M)=true)∧Fr S A W∧∀q,S' q→S q∨A.heap.size≤q from fun hyes W hf=>
    ⟨S0,⟨⟨hf.at_ hbx (fun h=>h),⟨r0,hf.at_ hbr (fun h=>h)⟩,hSv⟩,by rw[List.map_append,List.all_append,hpo];simp[Am.strip,hyes]⟩,hf.imp (fun q _ e=>e.elim),fun q h=> .inl ((hS q).2 (.inl h))⟩)
   have TD:=zz (VQ ab M 201 (by omega) A xi hAA hid);have hbl:=(Ab.1 hb).1;have hnr:¬(fun _:Nat=>False) (w.heap.size+1):=fun h=>h;have eB:=AJ A w.heap.size 0 _ _ (0,0) hbx;have y0:=AJ A blk 0 _ _ (0,0) hb;simp at eB y0;have HROW:=zz (show dpB M (xi,nd)=(!decide (nd.kind=3)||decide (Dj M 201 xi≤90)) from rfl);generalize Dj M 201 xi=d at TD HROW;clear hpre hf hf2 hAA hxm hpo hS hn;by_cases k3:nd.kind=3
   ·have q3:((nd.kind:Int)==3)=true:=by simp[k3]
    by_cases hd9:d≤90
    ·have qd:decide ((90:Int) < (d:Int))=false:=by simp;omega
     have qd2:decide (90 < d)=false:=by simp;omega
     have hyes:dpB M (xi,nd)=true:=HROW.out.trans (by rw[decide_eq_true hd9];simp);clear k3 hd9;gi_wp2_with fail;refine⟨trivial,fun h=>(by cases h),(CallsIn.inRound l (callsIn_wide.2 TD.out)).mono ?_⟩;rintro e w5 ⟨rfl,hb5⟩;have HFA:Fr (fun _=>False) A w5:=Fr.of_below hb5;clear hb5 TD;have HFIN:=zz (HGO.out hyes _ HFA);clear HFA;gi_wp2;exact HFIN.out
    ·have qd:decide ((90:Int) < (d:Int))=true:=by simp;omega
     have qd2:decide (90 < d)=true:=by simp;omega
     have hno:dpB M (xi,nd)=false:=HROW.out.trans (by rw[decide_eq_false hd9,decide_eq_true k3];rfl);clear k3 hd9;gi_wp2_with fail;refine⟨trivial,fun h=>(by cases h),(CallsIn.inRound l (callsIn_wide.2 TD.out)).mono ?_⟩;rintro e w5 ⟨rfl,hb5⟩;have HFA:Fr (fun _=>False) A w5:=Fr.of_below hb5;clear hb5 TD;have HNO:=zz (show sb=false from HBAD.out hno);have h2:=HFA.at_ hbr hnr;have f7:=DF h2;have d7:=AJ _ (w.heap.size+1) 0 _ _ (0,0) h2;simp at d7;have l7:=(Ab.1 h2).1;have HFIN:=zz (HRET.out HNO.out _ HFA);clear HFA h2;gi_wp2;exact HFIN.out
   ·have q3:((nd.kind:Int)==3)=false:=by simp;omega
    have hyes:dpB M (xi,nd)=true:=HROW.out.trans (by rw[decide_eq_false k3];rfl);clear k3 TD;have HFA:Fr (fun _=>False) A A:=Fr.refl _ _;gi_wp2_with fail;refine⟨trivial, ?_⟩;have HFIN:=zz (HGO.out hyes _ HFA);clear HFA;gi_wp2;exact HFIN.out
  case donez=>
   rintro S ys W3 hys ⟨⟨hbx,⟨r0,hbr⟩,hSv⟩,hall⟩ hK hnS hf;rw[hys] at hall;have HOK:=zz (show sb=true from HSB.out.trans (FU.2 ⟨HREF.out,HALL.out,hall⟩));clear hall;have eB:=AJ W3 (w.heap.size+1) 0 _ _ (0,0) hbr;simp at eB;have fB:W3.frozen? ⟨w.heap.size+1,0,none⟩=false:=by simp[World.frozen?,hbr]
   have hl2:=(Ab.1 hbr).1;have hkW:W2.heap[W1.heap.size]? =some (.deferred (some [])):=(HBN.out.2.block _ (by have:=HBN.out.1;omega)).trans HKD.out;have hkW3:W3.heap[W1.heap.size]? =some (.deferred (some [])):=hf.at_ hkW (fun e=>by have:=HBN.out.1;rcases e with(e|e)|e|e <;>omega);have hne2:¬w.heap.size+1=W2.heap.size:=by omega
   have hne1:¬w.heap.size+1=W1.heap.size:=by omega
   have hne3:¬W1.heap.size=W2.heap.size:=by have:=HBN.out.1;omega
   have hK2:(W3.setCell ⟨w.heap.size+1,0,none⟩ (.bool true)).heap[W2.heap.size]? =some (.deferred (some [])):=(Below.heap_setCell W3 ⟨w.heap.size+1,0,none⟩ (.bool true) W2.heap.size (fun e=>hne2 e.symm)).trans hK;have hK1:(W3.setCell ⟨w.heap.size+1,0,none⟩ (.bool true)).heap[W1.heap.size]? =some (.deferred (some [])):=(Below.heap_setCell W3 ⟨w.heap.size+1,0,none⟩ (.bool true) W1.heap.size (fun e=>hne1 e.symm)).trans hkW3;have hfs:=hf.set (p:=⟨w.heap.size+1,0,none⟩) (.inl (.inl (.inr rfl))) (.bool true);have hbs:(W3.setCell ⟨w.heap.size+1,0,none⟩ (.bool true)).heap[w.heap.size+1]? =some (.cells #[.bool true] 4 (0,0)):=heap_setCell_same hbr _;have hpf:=CV (W3.setCell ⟨w.heap.size+1,0,none⟩ (.bool true)) W2.heap.size (.deferred none);have hK3:=hpf.at_ hK1 hne3;have hbs2:=hpf.at_ hbs hne2;have hpg:=CV ((W3.setCell ⟨w.heap.size+1,0,none⟩ (.bool true)).putObj W2.heap.size (.deferred none)) W1.heap.size (.deferred none);have hcell:(((W3.setCell ⟨w.heap.size+1,0,none⟩ (.bool true)).putObj W2.heap.size (.deferred none)).putObj W1.heap.size (.deferred none)).cell? ⟨w.heap.size+1,0,none⟩=some (.bool true):=by
    have:=AJ _ (w.heap.size+1) 0 _ _ (0,0) (hpg.at_ hbs2 hne1);simpa using this
   have HFIN:=zz (show Below w.heap.size w (((W3.setCell ⟨w.heap.size+1,0,none⟩ (.bool true)).putObj W2.heap.size (.deferred none)).putObj W1.heap.size (.deferred none)) from by
    have h1:=HB1.out.trans ((hfs.imp (D':=fun q=>w.heap.size≤q) (fun q _ e=>by rcases e with(e|e)|e|e <;>omega)).below' HB1.out.size);have h2:=h1.trans ((hpf.imp (D':=fun q=>w.heap.size≤q) (fun q _ e=>by omega)).below' h1.size);exact h2.trans ((hpg.imp (D':=fun q=>w.heap.size≤q) (fun q _ e=>by omega)).below' h2.size))
   clear hbx hbr hSv hf hfs hbs hpf hpg hbs2 hK hnS hkW hkW3 hK1;gi_wp2;refine⟨by simp,.inl ⟨_,_,rfl,run_takeDeferred hK2,⟨by simp,.inl ⟨_,_,rfl,run_takeDeferred hK3, ?_⟩⟩⟩⟩;refine⟨.bool true, ?_,AQ HOK.out.symm,HFIN.out⟩
   simp[results,Tryz.results19,go_sem,hcell]
  case stopz=>
   rintro c S pre W3 hpre ⟨rfl,⟨hbx,-,hSv⟩,hbr,hno⟩ hK hnS hf;have HNO:=zz hno;have hkW:W2.heap[W1.heap.size]? =some (.deferred (some [])):=(HBN.out.2.block _ (by have:=HBN.out.1;omega)).trans HKD.out;have hkW3:W3.heap[W1.heap.size]? =some (.deferred (some [])):=hf.at_ hkW (fun e=>by have:=HBN.out.1;rcases e with(e|e)|e|e <;>omega);have hne2:¬w.heap.size+1=W2.heap.size:=by omega
   have hne1:¬w.heap.size+1=W1.heap.size:=by omega
   have hne3:¬W1.heap.size=W2.heap.size:=by have:=HBN.out.1;omega
   have hpf:=CV W3 W2.heap.size (.deferred none);have hK3:=hpf.at_ hkW3 hne3;have hbs2:=hpf.at_ hbr hne2;have hpg:=CV (W3.putObj W2.heap.size (.deferred none)) W1.heap.size (.deferred none);have hcell:((W3.putObj W2.heap.size (.deferred none)).putObj W1.heap.size (.deferred none)).cell? ⟨w.heap.size+1,0,none⟩=some (.bool false):=by
    have:=AJ _ (w.heap.size+1) 0 _ _ (0,0) (hpg.at_ hbs2 hne1);simpa using this
   have HFIN:=zz (show Below w.heap.size w ((W3.putObj W2.heap.size (.deferred none)).putObj W1.heap.size (.deferred none)) from by
    have h1:=HB1.out.trans ((hf.imp (D':=fun q=>w.heap.size≤q) (fun q _ e=>by rcases e with(e|e)|e|e <;>omega)).below' HB1.out.size);have h2:=h1.trans ((hpf.imp (D':=fun q=>w.heap.size≤q) (fun q _ e=>by omega)).below' h1.size);exact h2.trans ((hpg.imp (D':=fun q=>w.heap.size≤q) (fun q _ e=>by omega)).below' h2.size))
   clear hbx hbr hSv hf hpf hpg hbs2 hnS hkW hkW3 hno;gi_wp2;refine⟨by simp,.inl ⟨_,_,rfl,run_takeDeferred hK,⟨by simp,.inl ⟨_,_,rfl,run_takeDeferred hK3, ?_⟩⟩⟩⟩;refine⟨.bool false, ?_,AQ HNO.out.symm,HFIN.out⟩
   simp[results,Tryz.results19,go_sem,hcell]
 case stop=>
  rintro c S pre W hpre ⟨rfl,⟨hbx,-,hSv⟩,hbr,hno⟩ hK hnS hf;have HNO:=zz hno;have hW1:w.heap.size+2≤W1.heap.size:=by omega
  have hne:¬w.heap.size+1=W1.heap.size:=by omega
  have hpf:=CV W W1.heap.size (.deferred none);have hcell:(W.putObj W1.heap.size (.deferred none)).cell? ⟨w.heap.size+1,0,none⟩=some (.bool false):=by
   have:=AJ _ (w.heap.size+1) 0 _ _ (0,0) (hpf.at_ hbr hne);simpa using this
  have HFIN:=zz (show Below w.heap.size w (W.putObj W1.heap.size (.deferred none)) from by
   have h1:=HB1.out.trans ((hf.imp (D':=fun q=>w.heap.size≤q) (fun q _ e=>by rcases e with(e|e)|e|e <;>omega)).below' HB1.out.size);exact h1.trans ((hpf.imp (D':=fun q=>w.heap.size≤q) (fun q _ e=>by omega)).below' h1.size))
  clear hbx hbr hSv hf hpf hno;gi_wp2;refine⟨by simp,.inl ⟨_,_,rfl,run_takeDeferred hK, ?_⟩⟩;refine⟨.bool false, ?_,AQ HNO.out.symm,HFIN.out⟩
  simp[results,Tryz.results19,go_sem,hcell]
end Go.Proofs.YtijhlanclfajiaaGreatDoor
namespace Hg
open Go.Proofs.YtijhlanclfajiaaGreatDoor (rowB Fa Lm FK dpB)
theorem Y1(r:Row):(!sc2 r)=((isNamed r.node.kind==(r.node.name !=[])) && (!isNamed r.node.kind||Go.Proofs.YtijhlanclfajiaaGreatDoor.Ga r.node.name)):=by
 unfold sc2 Go.Proofs.YtijhlanclfajiaaGreatDoor.Ga;generalize isNamed r.node.kind=a;generalize(r.node.name !=[])=b;generalize Cb r.node.name=c;generalize inL words r.node.name=d;cases a <;>cases b <;>cases c <;>cases d <;>rfl
theorem Y0(r:Row):(!sc3 r)=((CL r.node.kind==(r.node.type !=0)) && decide (r.node.type≤2)):=by
 unfold sc3;generalize CL r.node.kind=a;generalize r.node.type=t;rw[Bool.eq_iff_iff];rcases(show t=0∨t=1∨t=2∨2 < t by omega) with rfl|rfl|rfl|h
 ·cases a <;>simp
 ·cases a <;>simp
 ·cases a <;>simp
 ·have h1:decide (t=1)=false:=by simp;omega
  have h2:decide (t=2)=false:=by simp;omega
  have h3:decide (t≤2)=false:=by simp;omega
  have h4:(t !=0)=true:=by simp;omega
  have h5:t≠0:=by omega
  rw[h1,h2,h3,h4];cases a <;>simp[h5]
theorem Yu(r:Row):(!sc5 r)=(decide (E9 r.node.kind≤r.node.num) && decide (r.node.num≤EJ r.node.kind)):=by
 unfold sc5;rw[Bool.eq_iff_iff];simp
theorem Yv{l:List Row}(hz:kindOf l 0=0)(r:Row):(!sc4 l r)=((refK r.node.kind==(r.node.ref !=0)) && (!refK r.node.kind||toK r.node.kind (ndAt (rowM l) r.node.ref).kind)):=by
 have kr:(ndAt (rowM l) r.node.ref).kind=kindOf l r.node.ref:=by unfold kindOf;rw[AU]
 rw[kr];unfold sc4 refK toK;have hk0:kindOf l r.node.ref≠0→r.node.ref≠0:=fun h e=>h (by rw[e];exact hz);generalize kindOf l r.node.ref=kt at hk0;generalize r.node.ref=rf at hk0;generalize r.node.kind=kd;by_cases k7:kd=7∨kd=15
 ·have hr:(decide (kd=7)||(decide (kd=15)||decide (kd=19)))=true:=by rcases k7 with h|h <;>simp[h]
  rw[if_pos k7,hr,if_neg (by omega)];by_cases h4:kt=4∨kt=6
  ·have h5:(rf !=0)=true:=by have:=hk0 (by omega);simpa using this
   rw[h5];rcases h4 with h|h <;>simp[h]
  ·have h4':kt≠4∧kt≠6:=by omega
   rw[decide_eq_true h4']
   simp[h4'.1,h4'.2]
 rw[if_neg k7];by_cases k19:kd=19
 ·have hr:(decide (kd=7)||(decide (kd=15)||decide (kd=19)))=true:=by simp[k19]
  rw[if_pos k19,hr,if_pos k19];by_cases h4:kt=3
  ·have h5:(rf !=0)=true:=by have:=hk0 (by omega);simpa using this
   rw[h5];simp[h4]
  ·simp[h4]
 ·have hr:(decide (kd=7)||(decide (kd=15)||decide (kd=19)))=false:=by simp;omega
  rw[if_neg k19,hr];cases hrf:(rf !=0) <;>simp at hrf <;>simp[hrf]
theorem parts_eq{l:List Row}(hz:kindOf l 0=0)(r:Row):(!sc2 r && !sc3 r && !sc4 l r && !sc5 r)=Fa (rowM l) r.node:=by
 rw[Y1,Y0,Yv hz,Yu];unfold Fa;simp only[Bool.and_assoc];generalize(isNamed r.node.kind==(r.node.name !=[]))=a;generalize(!isNamed r.node.kind||Go.Proofs.YtijhlanclfajiaaGreatDoor.Ga r.node.name)=b;generalize(CL r.node.kind==(r.node.type !=0))=c;generalize decide (r.node.type≤2)=d;generalize(refK r.node.kind==(r.node.ref !=0))=e;generalize(!refK r.node.kind||toK r.node.kind (ndAt (rowM l) r.node.ref).kind)=f;generalize decide (E9 r.node.kind≤r.node.num)=g;cases a <;>cases b <;>cases c <;>cases d <;>cases e <;>cases f <;>cases g <;>simp
theorem WA{l:List Row}(hT:Tr l)(hl:l.length≤20000)(h0:0 < l.length){r:Row}(hr:r∈l)(hn:r.node.num≤9223372036854775807):Bo l r=rowB (rowM l) (parR l) (r.id,r.node):=by
 have hz:kindOf l 0=0:=by
  unfold kindOf;rw[←AU];unfold ndAt;rw[Dh (hT.rows hl)];rfl
 have hbody:decide (kindOf l (parentOf l r.id).1=3)=((ndAt (rowM l) (parR l r.id).1).kind==3):=by
  rw[Li hT hl h0];unfold kindOf;rw[AU];rw[Bool.eq_iff_iff];simp
 rw[Bool.eq_iff_iff];constructor
 ·intro h
  have ho:=Jb h;have hp:Fa (rowM l) r.node=true:=by
   rw[←parts_eq hz];rw[Gv l r hn] at h;simp only[Bool.and_eq_true] at h⊢;exact⟨⟨⟨h.1.1.1.2,h.1.1.2⟩,h.1.2⟩,h.2⟩
  unfold rowB;dsimp only;rw[decide_eq_true ho.lo,decide_eq_true ho.hi,FK.2 (Ie ho.fit ho.hi ho.lo),hp];have hroot:(decide (r.node.kind=1)==decide (r.id=1))=true:=by rw[beq_iff_eq,decide_eq_decide];exact ho.root
  rw[hroot];by_cases h5:r.node.kind=5
  ·rw[X9 hT hl h0 hr ho h5];simp
  ·rw[decide_eq_false h5];rfl
 ·intro h
  unfold rowB at h;dsimp only at h;simp only[Bool.and_eq_true,decide_eq_true_eq] at h;obtain⟨h1,h2,h3,h4,h5,h6⟩:=h;rw[beq_iff_eq] at h5;have hk:=FK.1 h3;have hfit:fits r.node.kind (classes l r.node.kids) (decide (kindOf l (parentOf l r.id).1=3))=true:=by
   rw[hbody];refine Qt hk fun k5=> ?_;rw[decide_eq_true k5] at h6;unfold H7 at h6;simpa using h6
  have hs1:sc1 l r=false:=by
   unfold sc1;rw[decide_eq_false_iff_not];rintro(e|e|e|e)
   ·omega
   ·omega
   ·exact e h5
   ·rw[hfit] at e;cases e
  rw[←parts_eq hz] at h4;rw[Gv l r hn,hs1];simpa[Bool.and_assoc] using h4
end Hg
namespace Hg
theorem Ma(M:Nat→Option Node):∀(f:Nat) (s seen:List Nat) (r:List (Nat×Node)),wk M f s seen=some r→∀i∈s,(M i).isSome=true→i∈seen∨i∈r.map Prod.fst
 |0,_,_,_,h=>by cases h
 |f+1,[],_,_,_=>by simp
 |f+1,i::s,seen,r,h=>by
   rw[EF] at h;intro j hj hm;cases hM:M i with
   |none=>
     rw[hM] at h;rcases List.mem_cons.1 hj with rfl|hj
     ·rw[hM] at hm;cases hm
     ·exact Ma M f s seen r h j hj hm
   |some n=>
     rw[hM] at h;dsimp only at h;by_cases hi:i∈seen
     ·rw[if_pos hi] at h
      rcases List.mem_cons.1 hj with rfl|hj
      ·exact .inl hi
      ·exact Ma M f s seen r h j hj hm
     ·rw[if_neg hi] at h
      obtain⟨r',hw,rfl⟩:=Option.map_eq_some_iff.1 h;rcases List.mem_cons.1 hj with rfl|hj
      ·exact .inr (by simp)
      ·rcases Ma M f _ _ r' hw j (List.mem_append_right _ hj) hm with h1|h1
       ·rcases List.mem_cons.1 h1 with rfl|h1
        ·exact .inr (by simp)
        ·exact .inl h1
       ·exact .inr (List.mem_cons_of_mem _ h1)
theorem Iu(M:Nat→Option Node):∀(f:Nat) (s seen:List Nat) (r:List (Nat×Node)),wk M f s seen=some r→∀x∈r,∀k∈x.2.kids,(M k).isSome=true→k∈seen∨k∈r.map Prod.fst
 |0,_,_,_,h=>by cases h
 |f+1,[],_,r,h=>by injection h with h;subst h;simp
 |f+1,i::s,seen,r,h=>by
   rw[EF] at h;intro x hx k hk hm;cases hM:M i with
   |none=>rw[hM] at h;exact Iu M f s seen r h x hx k hk hm
   |some n=>
     rw[hM] at h;dsimp only at h;by_cases hi:i∈seen
     ·rw[if_pos hi] at h;exact Iu M f s seen r h x hx k hk hm
     ·rw[if_neg hi] at h
      obtain⟨r',hw,rfl⟩:=Option.map_eq_some_iff.1 h;have:k∈i::seen∨k∈r'.map Prod.fst:=by
       rcases List.mem_cons.1 hx with rfl|hx
       ·exact Ma M f _ _ r' hw k (List.mem_append_left _ hk) hm
       ·exact Iu M f _ _ r' hw x hx k hk hm
      rcases this with h1|h1
      ·rcases List.mem_cons.1 h1 with rfl|h1
       ·exact .inr (by simp)
       ·exact .inl h1
      ·exact .inr (List.mem_cons_of_mem _ h1)
theorem O6{M:Nat→Option Node}{n f:Nat}{xs:List (Nat×Node)}(hT:TrM M n)(h0:0 < n)(hw:wk M f [1] []=some xs):∀i a,M i=some a→(i,a)∈xs:=by
 have hm:∀k,1≤k→k≤n→k∈xs.map Prod.fst:=by
  intro k
  induction k using Nat.strongRecOn with
  |_ k ih=>
    intro h1 hn;by_cases h:k=1
    ·subst h
     have:=Ma M f [1] [] xs hw 1 (by simp) ((hT.dom 1).2 ⟨AA,hn⟩);simpa using this
    ·obtain⟨i,a,hi,hk⟩:=hT.has k (by omega) hn
     have hlt:=(hT.kid i a hi k hk).1;have hi1:=(hT.dom i).1 (by rw[hi];rfl);obtain⟨x,hx,rfl⟩:=List.mem_map.1 (ih i hlt hi1.1 hi1.2);have hx2:=EZ M f _ _ _ hw x hx;rw[hi] at hx2;injection hx2 with hx2;have:=Iu M f [1] [] xs hw x hx k (by rw[←hx2];exact hk) ((hT.dom k).2 ⟨h1,hn⟩);simpa using this
 intro i a hi;obtain⟨x,hx,he⟩:=List.mem_map.1 (hm i ((hT.dom i).1 (by rw[hi];rfl)).1 ((hT.dom i).1 (by rw[hi];rfl)).2);have hx2:=EZ M f _ _ _ hw x hx;rw[he,hi] at hx2;injection hx2 with hx2;have:x=(i,a):=Prod.ext he hx2.symm;rw[←this];exact hx
def Jr(l:List Row)(r:Row):Prop:=r.node.ref≠0∧atI l r.node.ref=none
theorem Lc{l:List Row}:∀(ks:List Nat) (n:Nat),(∀k∈ks,atI l k≠none∧k≠1)→CJ l ks n=some (n+ks.length)
 |[],n,_=>rfl
 |k::ks,n,h=>by
   have hk:=h k (by simp);unfold CJ;rw[if_neg (by rintro(e|e);exact hk.1 e;exact hk.2 e),Lc ks (n+1) fun j hj=>h j (List.mem_cons_of_mem _ hj)]
   simp;omega
theorem La{l:List Row}:∀(rs:List Row) (n:Nat),(∀r∈rs,∀k∈r.node.kids,atI l k≠none∧k≠1)→(∀r∈rs,¬Jr l r)→CG l rs n=some (n+(rs.flatMap fun r=>r.node.kids).length)
 |[],n,_,_=>rfl
 |r::rs,n,h,hb=>by
   unfold CG;have hr:¬(r.node.ref≠0∧atI l r.node.ref=none):=hb r (by simp);rw[if_neg hr,Lc _ _ (h r (by simp))];dsimp only;rw[La rs _ (fun q hq=>h q (List.mem_cons_of_mem _ hq)) fun q hq=>hb q (List.mem_cons_of_mem _ hq)]
   simp;omega
theorem Lb{l:List Row}:∀(rs:List Row) (n:Nat),(∃r∈rs,Jr l r)→CG l rs n=none
 |[],n,h=>by obtain⟨r,hr,_⟩:=h;cases hr
 |r::rs,n,h=>by
   unfold CG;by_cases hr:r.node.ref≠0∧atI l r.node.ref=none
   ·rw[if_pos hr]
   ·rw[if_neg hr]
    cases CJ l r.node.kids n with
    |none=>rfl
    |some m=>
      obtain⟨q,hq,hb⟩:=h;rcases List.mem_cons.1 hq with rfl|hq
      ·exact absurd hb hr
      ·exact Lb rs m ⟨q,hq,hb⟩
theorem Xr{l:List Row}(hT:Tr l)(hl:l.length≤20000)(h0:0 < l.length):tree l=true↔(∀r∈l,¬Jr l r)∧0 < CQ l 200 1:=by
 have hM:=hT.trM hl h0;have hids:=hT.ids;have hat:∀k,1≤k→k≤l.length→atI l k≠none:=fun k h1 h2 e=>by
  have:=(MS l k).2 (by rw[hids,List.mem_range'_1];omega);rw[e] at this;cases this
 have hkids:∀r∈l,∀k∈r.node.kids,atI l k≠none∧k≠1:=fun r hr k hk=>by
  obtain⟨j,hj,rfl⟩:=List.getElem_of_mem hr;have:=hT.up j l[j] (AX hj) k hk;exact⟨hat k (by omega) (by omega),by omega⟩
 have hflat:(l.flatMap fun r=>r.node.kids).length+1=l.length:=by
  have:=hT.perm.length_eq;rw[List.length_range'] at this;omega
 have hwalk:(walk l 1).length=l.length:=by
  obtain⟨xs,hw,hx⟩:=MF l 1;refine Nat.le_antisymm (Mc l 1) ?_;have hall:=O6 hM h0 hw;have hsub:∀x∈List.range' 1 l.length,x∈walk l 1:=fun x hx1=>by
   rw[List.mem_range'_1] at hx1;obtain⟨a,ha⟩:=Option.isSome_iff_exists.1 ((hM.dom x).2 (by omega));rw[hx];exact List.mem_map.2 ⟨_,hall x a ha,rfl⟩
  have:=List.Nodup.length_le_of_subset (List.nodup_range' (s:=1) (n:=l.length)) (l₂:=walk l 1) hsub;simpa using this
 unfold tree;cases h1:atI l 1 with
 |none=>exact absurd h1 (hat 1 AA h0)
 |some k=>
   dsimp only;have hk1:(rowAt l k).node.kind=1:=by
    rw[←DR l 1 k h1];have hg:rowM l 1=some l[0].node:=(hT.get hl).2 ⟨l[0],AX h0,AA,rfl⟩;rw[←AU,Ar hg];exact hT.root l[0] (AX h0)
   rw[if_neg (by rw[hk1,hwalk];simp)];by_cases hb:∃r∈l,Jr l r
   ·rw[Lb l 0 hb]
    constructor
    ·intro h;cases h
    ·rintro⟨h,_⟩
     obtain⟨r,hr,hb⟩:=hb;exact absurd hb (h r hr)
   ·have hb':∀r∈l,¬Jr l r:=fun r hr h=>hb ⟨r,hr,h⟩
    rw[La l 0 hkids hb'];dsimp only;rw[Nat.zero_add,decide_eq_true hflat,Bool.true_and,decide_eq_true_iff];exact⟨fun h=>⟨hb',h⟩,fun h=>h.2⟩
end Hg
namespace Hg
open Go.Proofs.YtijhlanclfajiaaGreatDoor (rowB Fa Lm FK dpB shpB FU)
theorem IJ(l:List Row):∀rs,Bp l rs=rs.all (Bo l)
 |[]=>rfl
 |r::rs=>by
   unfold Bp;rw[List.all_cons,←IJ l rs];cases Bo l r <;>simp
theorem Pg{l:List Row}:∀rs:List Row,(∀r∈rs,Good l r.id)→Bv l rs=some (rs.all fun r=>dpB (rowM l) (r.id,r.node))
 |[],_=>rfl
 |r::rs,h=>by
   have ih:=Pg rs fun q hq=>h q (List.mem_cons_of_mem _ hq);unfold Bv;rw[List.all_cons];unfold dpB at ih⊢;dsimp only at ih⊢;by_cases k3:r.node.kind=3
   ·rw[if_pos k3]
    obtain⟨d,hd⟩:=Ik l 201 r.id (Fj l 200 r.id (h r (by simp)));rw[hd,Ov 201 r.id d hd];dsimp only;by_cases h9:90 < d
    ·rw[if_pos h9,decide_eq_true k3,decide_eq_false (by omega:¬d≤90)];rfl
    ·rw[if_neg h9,ih,decide_eq_true (by omega:d≤90),Bool.or_true,Bool.true_and]
   ·rw[if_neg k3,ih,decide_eq_false k3,Bool.not_false,Bool.true_or,Bool.true_and]
theorem Nl{l:List Row}(hT:Tr l)(hl:l.length≤20000)(h0:0 < l.length){f:Nat}{xs:List (Nat×Node)}(hw:wk (rowM l) f [1] []=some xs)(p:Nat×Node→Bool):l.all (fun r=>p (r.id,r.node))=xs.all p:=by
 have hR:=hT.rows hl;rw[Bool.eq_iff_iff,List.all_eq_true,List.all_eq_true];constructor
 ·intro h x hx
  obtain⟨r,hr,e1,e2⟩:=(BS hR).1 (EZ _ _ _ _ _ hw x hx);have:=h r hr;rw[e1,e2] at this;exact this
 ·intro h r hr
  exact h _ (O6 (hT.trM hl h0) h0 hw r.id r.node ((BS hR).2 ⟨r,hr,rfl,rfl⟩))
theorem YA{l:List Row}(hT:Tr l)(hl:l.length≤20000):GK (rowM l)↔∀r∈l,¬Jr l r:=by
 have hR:=hT.rows hl;have hs:∀i,(rowM l i).isSome=false↔atI l i=none:=fun i=>by
  unfold rowM;rw[Ig];cases ha:atI l i with
  |none=>simp
  |some k=>
    have hk:k < l.length:=by
     unfold atI at ha;exact(List.findIdx?_eq_some_iff_getElem.1 ha).1
    simp[AX hk]
 unfold GK Ns;unfold Jr;constructor
 ·intro h r hr hb
  have hm:=(BS hR).2 ⟨r,hr,rfl,rfl⟩;have hlt:r.id < 18446744073709551616:=by
   obtain⟨k,hk,rfl⟩:=List.getElem_of_mem hr;have:=hT.rid k l[k] (AX hk);omega
  exact h r.id r.node hlt hm ⟨hb.1,(hs _).2 hb.2⟩
 ·intro h i nd _ hm hb
  obtain⟨r,hr,_,e⟩:=(BS hR).1 hm;rw[←e] at hb;exact h r hr ⟨hb.1,(hs _).1 hb.2⟩
theorem Ug{l:List Row}(hT:Tr l)(hl:l.length≤20000)(h0:0 < l.length)(hn:∀r∈l,r.node.num≤9223372036854775807){dp:Bool}(hdp:dp=true↔0 < CQ l 200 1){f:Nat}{xs:List (Nat×Node)}(hw:wk (rowM l) f [1] []=some xs):
 shaped l=some (shpB (rowM l) (parR l) dp xs):=by
 have ht:=Xr hT hl h0;have hrow:l.all (Bo l)=xs.all (rowB (rowM l) (parR l)):=by
  rw[←Nl hT hl h0 hw];rw[Bool.eq_iff_iff,List.all_eq_true,List.all_eq_true];exact⟨fun h r hr=>by rw[←WA hT hl h0 hr (hn r hr)];exact h r hr,fun h r hr=>by rw[WA hT hl h0 hr (hn r hr)];exact h r hr⟩
 rw[←hdp,←YA hT hl] at ht;unfold shaped;cases hb:shpB (rowM l) (parR l) dp xs with
 |true=>
   obtain⟨⟨h1,h2⟩,h3,h4⟩:=FU.1 hb;have htr:=ht.2 ⟨h2,h1⟩;rw[if_neg (by rw[htr];simp),IJ,hrow,h3,if_neg (by simp),Pg l (Iz htr).2,Nl hT hl h0 hw,h4]
 |false=>
   by_cases htr:tree l=true
   ·rw[if_neg (by rw[htr];simp),IJ,hrow]
    by_cases h3:xs.all (rowB (rowM l) (parR l))=true
    ·rw[h3,if_neg (by simp),Pg l (Iz htr).2,Nl hT hl h0 hw]
     cases h4:xs.all (dpB (rowM l)) with
     |false=>rfl
     |true=>
       have:=FU.2 ⟨⟨(ht.1 htr).2,(ht.1 htr).1⟩,h3,h4⟩;rw[hb] at this;cases this
    ·rw[if_pos (by simpa using h3)]
   ·rw[if_pos (by simpa using htr)]
end Hg
namespace Hg
def visible(l:List Row)(k:Nat):Bool:=kindOf l k==6||kindOf l k==4
def Vd(l:List Row)(fn n id:Nat)(seen:List Nat):Prop:=∃v v',Cz l fn n v id seen=some v'∧v'.hidden=false∧v'.wrong=false
def Yn(V:Vis→Nat→List Nat→Option Vis):Prop:=∀v k s v',V v k s=some v'→(v'.hidden=false→v.hidden=false)∧(v'.wrong=false→v.wrong=false)
theorem FD{l:List Row}{V:Vis→Nat→List Nat→Option Vis}(hV:Yn V):∀(ks s:List Nat) (v v':Vis),Dz l V ks s v=some v'→(v'.hidden=false→v.hidden=false)∧(v'.wrong=false→v.wrong=false)
 |[],s,v,v',h=>by injection h with h;subst h;exact⟨id,id⟩
 |k::ks,s,v,v',h=>by
   unfold Dz at h;cases h1:V v k s with
   |none=>rw[h1] at h;cases h
   |some w=>
     rw[h1] at h;obtain⟨a,b⟩:=FD hV ks _ w v' h;obtain⟨c,d⟩:=hV _ _ _ _ h1;exact⟨fun h=>c (a h),fun h=>d (b h)⟩
theorem Fs(l:List Row)(fn:Nat):∀n,Yn (Cz l fn n)
 |0,v,k,s,v',h=>by cases h
 |n+1,v,k,s,v',h=>by
   unfold Cz at h;obtain⟨a,b⟩:=FD (Fs l fn n) _ _ _ _ h;refine⟨fun h=> ?_,fun h=> ?_⟩
   ·have:=a h;simp at this;exact this.1
   ·have:=b h;simp at this;exact this.1
theorem LW{l:List Row}{fn n:Nat}:∀(ks s:List Nat) (v v':Vis),Dz l (Cz l fn n) ks s v=some v'→v'.hidden=false→v'.wrong=false→
 ∀j k,ks[j]? =some k→Vd l fn n k (s++(ks.take j).filter (visible l))
 |[],s,v,v',h,_,_,j,k,hk=>by simp at hk
 |q::ks,s,v,v',h,hh,hw,j,k,hk=>by
   unfold Dz at h;cases h1:Cz l fn n v q s with
   |none=>rw[h1] at h;cases h
   |some w=>
     rw[h1] at h;have hm:=FD (Fs l fn n) _ _ _ _ h;cases j with
     |zero=>
       simp at hk;subst hk;exact⟨v,w,by simpa using h1,hm.1 hh,hm.2 hw⟩
     |succ j=>
       have:=LW ks _ w v' h hh hw j k (by simpa using hk);rw[List.take_succ_cons,List.filter_cons];by_cases hc:kindOf l q=6∨kindOf l q=4
       ·rw[if_pos hc] at this
        rw[if_pos (by unfold visible;simpa using hc)];simpa using this
       ·rw[if_neg hc] at this
        rw[if_neg (by unfold visible;simpa using hc)];exact this
theorem Vd.node{l:List Row}{fn n id:Nat}{seen:List Nat}(h:Vd l fn (n+1) id seen):((AL l id).kind=7∨(AL l id).kind=15→(AL l id).ref∈seen)∧BD l (AL l id) fn=false∧
 ∀j k,(AL l id).kids[j]? =some k→Vd l fn n k (seen++((AL l id).kids.take j).filter (visible l)):=by
 obtain⟨v,v',h,hh,hw⟩:=h;unfold Cz at h;obtain⟨a,b⟩:=FD (Fs l fn n) _ _ _ _ h;have a:=a hh;have b:=b hw;simp at a b;refine⟨fun hk=> ?_,b.2,LW _ _ _ _ h hh hw⟩;have:=a.2 hk;unfold isIn at this;simpa using this
theorem Km{l:List Row}:∀(fs:List Nat) (fn:List Str) (a:Alls) (r:List Str×Alls),Cy l fs fn a=some r→r.2.clash=false→r.2.vis.hidden=false→r.2.vis.wrong=false→
 a.clash=false∧a.vis.hidden=false∧a.vis.wrong=false∧r.1=fn++fs.map (fun f=>(AL l f).name)∧∀f∈fs,twice (CW l f)=false∧Vd l f 201 f []
 |[],fn,a,r,h,hc,hh,hw=>by
   injection h with h;subst h;exact⟨hc,hh,hw,by simp,fun f hf=>by simp at hf⟩
 |f::fs,fn,a,r,h,hc,hh,hw=>by
   unfold Cy at h;cases hv:Cz l f 201 a.vis f [] with
   |none=>rw[hv] at h;cases h
   |some v=>
     rw[hv] at h;obtain⟨h1,h2,h3,h4,h5⟩:=Km fs _ _ r h hc hh hw;simp only[Bool.or_eq_false_iff] at h1;obtain⟨m1,m2⟩:=Fs l f 201 _ _ _ _ hv;refine⟨h1.1,m1 h2,m2 h3,by rw[h4];simp,fun g hg=> ?_⟩;rcases List.mem_cons.1 hg with e|e
     ·subst e;exact⟨h1.2,_,v,hv,h2,h3⟩
     ·exact h5 g e
theorem L6{l:List Row}:∀(ms:List Nat) (mn:List Str) (a:Alls) (r:List Str×Alls),D7 l ms mn a=some r→r.2.clash=false→r.2.vis.hidden=false→r.2.vis.wrong=false→
 a.clash=false∧a.vis.hidden=false∧a.vis.wrong=false∧r.1=mn++ms.map (fun m=>(AL l m).name)∧∀m∈ms,twice ((AL l m).kids.map fun f=>(AL l f).name)=false∧∀f∈(AL l m).kids,twice (CW l f)=false∧Vd l f 201 f []
 |[],mn,a,r,h,hc,hh,hw=>by
   injection h with h;subst h;exact⟨hc,hh,hw,by simp,fun f hf=>by simp at hf⟩
 |m::ms,mn,a,r,h,hc,hh,hw=>by
   unfold D7 at h;cases hv:Cy l (AL l m).kids [] a with
   |none=>rw[hv] at h;cases h
   |some p=>
     obtain⟨fs,b⟩:=p;rw[hv] at h;obtain⟨h1,h2,h3,h4,h5⟩:=L6 ms _ _ r h hc hh hw;simp only[Bool.or_eq_false_iff] at h1;obtain⟨k1,k2,k3,k4,k5⟩:=Km _ _ _ _ hv h1.1 h2 h3;refine⟨k1,k2,k3,by rw[h4];simp,fun g hg=> ?_⟩;rcases List.mem_cons.1 hg with e|e
     ·subst e
      refine⟨?_,k5⟩;have k4:fs=[]++(AL l g).kids.map fun f=>(AL l f).name:=k4;rw[List.nil_append] at k4;rw[←k4];exact h1.2
     ·exact h5 g e
theorem Lf{l:List Row}(h:D5 l=some 0):shaped l=some true∧twice ((AL l 1).kids.map fun m=>(AL l m).name)=false∧
 (∀m∈(AL l 1).kids,twice ((AL l m).kids.map fun f=>(AL l f).name)=false∧∀f∈(AL l m).kids,twice (CW l f)=false∧Vd l f 201 f [])∧IX l≠0:=by
 unfold D5 at h;cases hs:shaped l with
 |none=>rw[hs] at h;cases h
 |some b=>
   rw[hs] at h;cases b with
   |false=>simp at h
   |true=>
     simp only at h;cases ha:IA l with
     |none=>rw[ha] at h;cases h
     |some a=>
       rw[ha] at h;injection h with h;by_cases c1:a.clash=true
       ·rw[if_pos c1] at h;cases h
       rw[if_neg c1] at h;by_cases c2:a.vis.hidden=true
       ·rw[if_pos c2] at h;cases h
       rw[if_neg c2] at h;by_cases c3:a.vis.wrong=true
       ·rw[if_pos c3] at h;cases h
       rw[if_neg c3] at h;by_cases c4:IX l=0
       ·rw[if_pos c4] at h;cases h
       unfold IA at ha;cases hm:D7 l (AL l 1).kids [] ⟨false,⟨false,false⟩⟩ with
       |none=>rw[hm] at ha;cases ha
       |some p=>
         obtain⟨mods,b⟩:=p;rw[hm] at ha;injection ha with ha;subst ha;have c1:(b.clash||twice mods)=false:=by simpa using c1
         simp only[Bool.or_eq_false_iff] at c1;obtain⟨_,_,_,h4,h5⟩:=L6 _ _ _ _ hm c1.1 (by simpa using c2) (by simpa using c3);have h4:mods=[]++(AL l 1).kids.map fun m=>(AL l m).name:=h4;rw[List.nil_append] at h4;exact⟨rfl,by rw[←h4];exact c1.2,h5,c4⟩
theorem P8{s:List Str}(h:twice s=false):s.Nodup:=by
 unfold twice at h;rw[List.any_eq_false] at h;refine List.pairwise_iff_getElem.2 fun i j hi hj hij e=> ?_;have:=h j (by simpa using hj);apply this;unfold inL;rw[List.any_eq_true];refine⟨s[i], ?_, ?_⟩
 ·rw[List.mem_take_iff_getElem]
  exact⟨i,by omega,rfl⟩
 ·simp[List.getD,AX hj,e]
def dupB(l:List Str):Bool:= !decide l.Nodup
def Ey(M:Nat→Option Node)(nms:Nat→List Str):Bool:=
 dupB ((Bj M).map (Ce M))||(Bj M).any fun m=>dupB ((BI M m).map (Ce M))||(BI M m).any fun f=>dupB (nms f)
def Nq(M:Nat→Option Node)(nms:Nat→List Str):Prop:=∀m∈Bj M,∀f∈BI M m,∃F xs,wk M F [f] []=some xs∧F≤1000000∧nms f=Bh xs
end Hg
namespace Go.Proofs.YtijhlanclfajiaaGreatDoor
open Go.RowKit Go.Lib
open Hg (GT gl wk isK ndAt Bf Bj BI KB Ce CS Bh dupB Ey Nq)
theorem Mj{x y:List UInt8}(h1:x≤y)(h2:y≤x):x=y:=List.le_antisymm h1 h2
theorem QI(l:List (List UInt8)):(l.mergeSort fun x y=>decide (x≤y)).Pairwise (fun x y=>x≤y):=by
 have:=List.pairwise_mergeSort (le:=fun x y:List UInt8=>decide (x≤y)) (fun a b c h1 h2=>by
  simp only[decide_eq_true_eq] at*;exact List.le_trans h1 h2) (fun a b=>by
  rcases List.le_total a b with h|h
  ·simp[h]
  ·simp[h]) l
 exact this.imp (fun h=>by simpa using h)
theorem Sq{l:List (List UInt8)}(hs:l.Pairwise (fun x y=>x≤y)):decide ((compactUpTo l.toArray l.toArray.size).length < l.length)=dupB l:=by
 unfold dupB;by_cases hn:l.Nodup
 ·rw[JV hn];simp[hn]
 ·have hlt:(compactUpTo l.toArray l.toArray.size).length < l.length:=by
   unfold compactUpTo;rw[List.length_map];refine Nat.lt_of_lt_of_eq (List.length_filter_lt_length_iff_exists.2 ?_) (by simp);rcases Classical.em (∃j∈List.range l.toArray.size,¬keeps l.toArray j=true) with h|h
   ·exact h
   ·refine absurd ?_ hn
    have hk:∀j,j+1 < l.length→l[j]! ≠l[j+1]! :=fun j hj e=>h ⟨j+1,by simpa using hj,by
     unfold keeps;rw[decide_eq_true_iff];rintro(h0|h1)
     ·omega
     ·apply h1
      simpa using e.symm⟩
    rw[List.Nodup,List.pairwise_iff_getElem];intro i j hi hj hij e;have h1:=List.pairwise_iff_getElem.1 hs;have hi1:i+1 < l.length:=by omega
    have a1:l[i]≤l[i+1]:=h1 i (i+1) hi hi1 (by omega);have a2:l[i+1]≤l[j]:=by
     by_cases hj1:i+1=j
     ·subst hj1;exact List.le_refl _
     ·exact h1 (i+1) j hi1 hj (by omega)
    rw[←e] at a2;have:=hk i hi1;rw[getElem!_pos l i hi,getElem!_pos l (i+1) hi1] at this;exact this (Mj a1 a2)
  rw[decide_eq_true hlt]
  simp[hn]
theorem Rl(B:Nat)(v:Value)(l:List (List UInt8))(w:World)(hl:l.length≤1000000)(ho:w.ownsRow B 9 1 v l.length (l.map strV)):
 Calls Tryz.prog 50 #[v] w fun e w'=>e= .returned (.bool (dupB l))∧Fr (fun q=>v.ownBlock=some q) w w':=by
 rcases ho.2 with⟨h0,h1⟩|⟨g,cap,cur,hv,hg,hh,hc1,hc2,hc3,ht⟩
 ·subst h0
  have hl0:l=[]:=by simpa using h1
  subst hl0;exact UR B _ [] w List.nodup_nil (by simp) ho
 ·subst hv
  rw[Nat.mul_one] at ht;have hperm:(l.mergeSort fun x y=>decide (x≤y)).Perm l:=List.mergeSort_perm l _;have hsor:=QI l;have hdup:dupB (l.mergeSort fun x y=>decide (x≤y))=dupB l:=by unfold dupB;simp[hperm.nodup_iff]
  have hlen:(l.mergeSort fun x y=>decide (x≤y)).length=l.length:=hperm.length_eq;generalize hT:(l.mergeSort fun x y=>decide (x≤y))=ts at hsor hdup hlen;have hcl:=Sq hsor;rw[hdup,hlen] at hcl;have HCL:=zz hcl;have hgl:g < w.heap.size:=(Ab.1 hh).1;have T1:=zz ((Tryz.slices_Sort_string g 0 cap l w (holds_of_block hh ht) hgl (by omega)).mono (R':=fun e w'=>e= .returned (.tuple #[])∧w'.ownsRow B 9 1 (.slice (some ⟨g,0,none⟩) l.length cap) l.length (ts.map strV)∧Fr (fun q=>q=g) w w') (by
   rintro e w' ⟨rfl,n,os,rfl⟩;rw[hT];exact⟨rfl,ownsRow_sorted hlen hg hh (by simpa using hc1) hc2 hc3,Fr.EQ (grownBy_sorted _) (fun q e=>by injection e with e;exact e.symm)⟩))
  have T2:=zz (fun(W:World) (h:W.ownsRow B 9 1 (.slice (some ⟨g,0,none⟩) l.length cap) l.length (ts.map strV))=>show Calls Tryz.prog 107 #[.slice (some ⟨g,0,none⟩) l.length cap] W fun e w'=>e= .returned (.slice (some ⟨g,0,none⟩) (compactUpTo ts.toArray ts.toArray.size).length cap)∧Fr (fun q=>q=g) W w' from by
   rcases h.2 with⟨h0,_⟩|⟨g',cap',cur',hv',hg',hh',hc1',hc2',hc3',ht'⟩
   ·cases h0
   ·injection hv' with e1 e2 e3
    injection e1 with e1;injection e1 with e1;subst e1;subst e3;rw[Nat.mul_one,←hlen] at ht';have:=AnyE.slices_Compact Tryz.lCmp encStr (fun x=>rfl) (XH _) (WZ _) [] (fun W=>by kernel_rfl) g 0 cap ts.toArray W (holds_of_block hh' ht') (by simp;omega) (by simp;omega);have hsz:ts.toArray.size=l.length:=by simpa using hlen
    have h4:=this.mono (R':=fun e w'=>e= .returned (.slice (some ⟨g,0,none⟩) (compactUpTo ts.toArray ts.toArray.size).length cap)∧Fr (fun q=>q=g) W w') (by
     rintro e w' ⟨rfl,q,rfl⟩;exact⟨rfl,frE encStr _⟩)
    rw[hsz] at h4⊢;exact h4)
  generalize(compactUpTo ts.toArray ts.toArray.size).length=cn at T2 HCL;have hq:decide ((cn:Int) < (l.length:Int))=decide (cn < l.length):=by rw[decide_eq_decide];omega
  generalize hdb:dupB l=db at HCL;have hq2:=HCL.out;rw[hq2] at hq;clear hdb ho hh hg hc1 hc2 hc3 ht hdup hcl hsor HCL;go_enter Tryz.func50,Tryz.ntmps50;go_wp2_with fail;refine T1.out.mono ?_;rintro e w1 ⟨rfl,ho1,hf1⟩;have T3:=zz (T2.out w1 ho1);have HF1:=zz hf1;clear T1 T2 ho1 hf1;go_wp2_with fail;refine T3.out.mono ?_;rintro e w2 ⟨rfl,hf2⟩;have HF2:=zz (HF1.out.trans hf2);clear T3 hf2;go_wp2;go_ret;exact⟨rfl,HF2.out.imp (fun q _ e=>by subst e;rfl)⟩
end Go.Proofs.YtijhlanclfajiaaGreatDoor
namespace Hg
theorem Mf(s:List Str):twice s=dupB s:=by
 unfold dupB;by_cases hn:s.Nodup
 ·rw[decide_eq_true hn]
  unfold twice;rw[Bool.not_true,List.any_eq_false];intro i hi hm;rw[List.mem_range] at hi;have hg:s.getD i []=s[i]:=by simp[List.getD,AX hi]
  rw[hg] at hm;have hm2:s[i]∈s.take i:=by
   unfold inL at hm;simpa using hm
  obtain⟨j,hj,e⟩:=List.getElem_of_mem hm2;rw[List.getElem_take] at e;have hji:j < i:=by simp at hj;omega
  exact(List.pairwise_iff_getElem.1 hn) j i (by omega) hi hji e
 ·rw[decide_eq_false hn]
  cases h:twice s with
  |true=>rfl
  |false=>exact absurd (P8 h) hn
theorem Td{M:Nat→Option Node}{id:Nat}:∀(ks:List Nat) (deep:List (Nat×Nat)) (next:List Nat) (r:List (Nat×Nat)×List Nat),JL M id ks deep next=some r→EB M id ks deep next=some (some r)
 |[],deep,next,r,h=>by unfold JL at h;unfold EB;rw[Option.some.inj h]
 |k::ks,deep,next,r,h=>by
   unfold JL at h
   split at h
   ·cases h
   ·rename_i hc
    simp only[not_or] at hc;obtain⟨c1,c2,c3,c4,c5⟩:=hc;unfold EB;rw[if_neg (by simp only[not_or];exact⟨c1,c2,c4,c5⟩),if_neg c3];exact Td ks _ _ r h
theorem QD{M:Nat→Option Node}:∀(ids:List Nat) (deep:List (Nat×Nat)) (next:List Nat) (r:List (Nat×Nat)×List Nat),FT M ids deep next=some r→Ca M ids deep next=some (some r)
 |[],deep,next,r,h=>by unfold FT at h;unfold Ca;rw[Option.some.inj h]
 |id::ids,deep,next,r,h=>by
   unfold FT at h
   split at h
   ·cases h
   ·rename_i hc
    unfold Ca;rw[if_neg hc];cases hk:JL M id (ndAt M id).kids deep next with
    |none=>rw[hk] at h;cases h
    |some r2=>
      rw[hk] at h;rw[Td _ _ _ _ hk];exact QD ids _ _ r h
theorem Vx{M:Nat→Option Node}:∀(f:Nat) (ids:List Nat) (deep R:List (Nat×Nat)),tRun M f ids deep=some R→D8 M f ids deep=some (some R)
 |0,_,_,_,h=>by cases h
 |f+1,[],deep,R,h=>by unfold tRun at h;unfold D8;rw[Option.some.inj h]
 |f+1,i::l,deep,R,h=>by
   unfold tRun at h;unfold D8;cases hk:FT M (i::l) deep [] with
   |none=>rw[hk] at h;cases h
   |some r2=>
     rw[hk] at h;rw[QD _ _ _ _ hk];exact Vx f _ _ R h
def dpt(deep:List (Nat×Nat))(i:Nat):Nat:=(gl deep i).getD 0
def Mono(a b:List (Nat×Nat)):Prop:=∀i d,gl a i=some d→gl b i=some d
theorem Mono.dpt{a b:List (Nat×Nat)}(h:Mono a b){i:Nat}(hi:(gl a i).isSome=true):dpt b i=dpt a i:=by
 obtain⟨d,hd⟩:=Option.isSome_iff_exists.1 hi;unfold Hg.dpt;rw[h i d hd,hd]
theorem Mono.some{a b:List (Nat×Nat)}(h:Mono a b){i:Nat}(hi:(gl a i).isSome=true):(gl b i).isSome=true:=by
 obtain⟨d,hd⟩:=Option.isSome_iff_exists.1 hi;rw[h i d hd];rfl
theorem OD{M:Nat→Option Node}{id:Nat}:∀(ks:List Nat) (deep:List (Nat×Nat)) (next:List Nat) (r:List (Nat×Nat)×List Nat),EB M id ks deep next=some (some r)→(gl deep id).isSome=true→
 Mono deep r.1∧(∀k∈ks,gl r.1 k=some (dpt deep id+1)∧dpt deep id < 200)∧r.2=next++ks∧∀i,(gl r.1 i).isSome=true→(gl deep i).isSome=true∨i∈ks
 |[],deep,next,r,h,_=>by
   unfold EB at h;have:=Option.some.inj (Option.some.inj h);subst this;exact⟨fun _ _ h=>h,fun k hk=>(by cases hk),by simp,fun i h=> .inl h⟩
 |k::ks,deep,next,r,h,hid=>by
   unfold EB at h
   split at h
   ·cases h
   ·rename_i hc
    simp only[not_or] at hc
    split at h
    ·cases h
    ·rename_i h2
     have hk0:gl deep k=none:=by simpa using hc.1
     have hne:k≠id:=fun e=>by rw[e] at hk0;rw[hk0] at hid;cases hid
     have hmono:Mono deep ((k,(gl deep id).getD 0+1)::deep):=fun i d hi=>by
      rw[Cn,if_neg (by simp;intro e;rw[e,hi] at hk0;cases hk0)];exact hi
     have hd:dpt ((k,(gl deep id).getD 0+1)::deep) id=dpt deep id:=hmono.dpt hid;obtain⟨m1,m2,m3,m4⟩:=OD ks _ _ r h (hmono.some hid);rw[hd] at m2;refine⟨fun i d hi=>m1 i d (hmono i d hi),fun j hj=> ?_,by rw[m3];simp,fun i hi=> ?_⟩
     ·rcases List.mem_cons.1 hj with rfl|hj
      ·exact⟨m1 _ _ (by rw[Cn,if_pos (by simp)];rfl),by unfold dpt;omega⟩
      ·exact m2 j hj
     ·rcases m4 i hi with h4|h4
      ·rw[Cn] at h4
       by_cases e:k=i
       ·exact .inr (by simp[e])
       ·rw[if_neg (by simpa using e)] at h4;exact .inl h4
      ·exact .inr (List.mem_cons_of_mem _ h4)
theorem RP{α β:Type}{t:Option (Option α)}{k:α→Option (Option β)}{b:β}(h:bnd t k=some (some b)):∃a,t=some (some a)∧k a=some (some b):=by
 rcases t with _|_|a
 ·cases h
 ·cases h
 ·exact⟨a,rfl,h⟩
theorem Mi{M:Nat→Option Node}:∀(ids:List Nat) (deep:List (Nat×Nat)) (next:List Nat) (r:List (Nat×Nat)×List Nat),Ca M ids deep next=some (some r)→(∀i∈ids,(gl deep i).isSome=true)→
 Mono deep r.1∧(∀i∈ids,∀k∈kd M i,gl r.1 k=some (dpt deep i+1)∧dpt deep i < 200)∧r.2=next++ids.flatMap (kd M)∧∀i,(gl r.1 i).isSome=true→(gl deep i).isSome=true∨i∈ids.flatMap (kd M)
 |[],deep,next,r,h,_=>by
   unfold Ca at h;have:=Option.some.inj (Option.some.inj h);subst this;exact⟨fun _ _ h=>h,fun k hk=>(by cases hk),by simp,fun i h=> .inl h⟩
 |id::ids,deep,next,r,h,hid=>by
   unfold Ca at h
   split at h
   ·cases h
   ·obtain⟨r1,h1,h2⟩:=RP h
    obtain⟨a1,a2,a3,a4⟩:=OD _ _ _ _ h1 (hid id (by simp));obtain⟨b1,b2,b3,b4⟩:=Mi ids _ _ r h2 (fun i hi=>a1.some (hid i (List.mem_cons_of_mem _ hi)));refine⟨fun i d hi=>b1 i d (a1 i d hi),fun i hi k hk=> ?_,by rw[b3,a3];simp[kd],fun i hi=> ?_⟩
    ·rcases List.mem_cons.1 hi with rfl|hi
     ·exact⟨b1 _ _ (a2 k hk).1,(a2 k hk).2⟩
     ·have:=b2 i hi k hk
      rw[a1.dpt (hid i (List.mem_cons_of_mem _ hi))] at this;exact this
    ·rcases b4 i hi with h4|h4
     ·rcases a4 i h4 with h5|h5
      ·exact .inl h5
      ·exact .inr (by simp only[List.flatMap_cons,List.mem_append];exact .inl h5)
     ·exact .inr (by simp only[List.flatMap_cons,List.mem_append];exact .inr h4)
theorem QC{M:Nat→Option Node}:∀(f:Nat) (ids:List Nat) (deep R:List (Nat×Nat)),D8 M f ids deep=some (some R)→(∀i∈ids,(gl deep i).isSome=true)→
 Mono deep R∧∀i,(gl R i).isSome=true→((gl deep i).isSome=true∧i∉ids)∨∀k∈kd M i,gl R k=some (dpt R i+1)∧dpt R i < 200
 |0,_,_,_,h,_=>by cases h
 |f+1,[],deep,R,h,_=>by
   unfold D8 at h;have:=Option.some.inj (Option.some.inj h);subst this;exact⟨fun _ _ h=>h,fun i hi=> .inl ⟨hi,by simp⟩⟩
 |f+1,j::l,deep,R,h,hid=>by
   unfold D8 at h;obtain⟨r1,h1,h2⟩:=RP h;obtain⟨a1,a2,a3,a4⟩:=Mi _ _ _ _ h1 hid;rw[List.nil_append] at a3;have hin:∀i∈r1.2,(gl r1.1 i).isSome=true:=fun i hi=>by
    rw[a3] at hi;obtain⟨q,hq,hk⟩:=List.mem_flatMap.1 hi;rw[(a2 q hq i hk).1];rfl
   obtain⟨b1,b2⟩:=QC f _ _ R h2 hin;refine⟨fun i d hi=>b1 i d (a1 i d hi),fun i hi=> ?_⟩;rcases b2 i hi with⟨h3,h4⟩|h3
   ·rcases a4 i h3 with h5|h5
    ·by_cases him:i∈j::l
     ·refine .inr fun k hk=> ?_
      have:=a2 i him k hk;have e:dpt R i=dpt deep i:=(b1.dpt h3).trans (a1.dpt h5);rw[e];exact⟨b1 _ _ this.1,this.2⟩
     ·exact .inl ⟨h5,him⟩
    ·exact absurd (a3 ▸ h5) h4
   ·exact .inr h3
theorem LF{l:List Row}{i:Nat}(hi:(rowM l i).isSome=true):CU l ((atI l i).getD 0)=kd (rowM l) i:=by
 obtain⟨a,ha⟩:=Option.isSome_iff_exists.1 hi;have e:AL l i=a:=by rw[←AU];unfold ndAt;rw[ha];rfl
 unfold kd;rw[AU];cases hk:atI l i with
 |none=>unfold rowM at ha;rw[Ig,hk] at ha;cases ha
 |some j=>rw[DR l i j hk];rfl
theorem RJ{l:List Row}{F:Nat}{R:List (Nat×Nat)}(h:D8 (rowM l) F [1] [(1,1)]=some (some R))(hall:∀i,(gl R i).isSome=true→(rowM l i).isSome=true):0 < CQ l 200 1:=by
 have h11:gl [((1:Nat),(1:Nat))] 1=some 1:=by rw[Cn,if_pos (by simp)]
 obtain⟨hm,hg⟩:=QC F [1] [(1,1)] R h (fun i hi=>by
  have:i=1:=by simpa using hi
  subst this;rw[h11];rfl)
 have good:∀i,(gl R i).isSome=true→∀k∈kd (rowM l) i,gl R k=some (dpt R i+1)∧dpt R i < 200:=fun i hi=>by
  rcases hg i hi with⟨h1,h2⟩|h1
  ·exfalso
   rw[Cn] at h1;by_cases e:1=i
   ·exact h2 (by simp[e])
   ·rw[if_neg (by simpa using e)] at h1;simp[gl] at h1
  ·exact h1
 have key:∀n i d,gl R i=some d→d+n=200→0 < CQ l (n+1) i:=by
  intro n
  induction n with
  |zero=>
    intro i d hi hd;rw[Ee,LF (hall i (by rw[hi];rfl))];intro k hk;have:=(good i (by rw[hi];rfl) k hk).2;unfold dpt at this;rw[hi] at this;simp at this;omega
  |succ n ih=>
    intro i d hi hd;rw[Ee,LF (hall i (by rw[hi];rfl))];intro k hk;have:=(good i (by rw[hi];rfl) k hk).1;unfold dpt at this;rw[hi] at this;exact ih k (d+1) this (by omega)
 exact key 199 1 1 (hm 1 1 h11) (by omega)
def Gt(M:Nat→Option Node)(id:Nat):List Nat→List (Nat×Nat)→List Nat→Option (List (Nat×Nat)×List Nat)
 |[],deep,next=>some (deep,next)
 |k::ks,deep,next=>if (gl deep k).isSome∨(M k).isNone∨1000000≤deep.length∨1000000≤next.length then none else Gt M id ks ((k,(gl deep id).getD 0+1)::deep) (next++[k])
def Eg(M:Nat→Option Node):List Nat→List (Nat×Nat)→List Nat→Option (List (Nat×Nat)×List Nat)
 |[],deep,next=>some (deep,next)
 |id::ids,deep,next=>if (M id).isNone then none else match Gt M id (ndAt M id).kids deep next with
   |none=>none
   |some r=>Eg M ids r.1 r.2
def N9(M:Nat→Option Node):Nat→List Nat→List (Nat×Nat)→Option (List (Nat×Nat))
 |0,_,_=>none
 |_+1,[],deep=>some deep
 |f+1,i::l,deep=>match Eg M (i::l) deep [] with
   |none=>none
   |some r=>N9 M f r.2 r.1
theorem QG{M:Nat→Option Node}{id:Nat}:∀(ks:List Nat) (deep:List (Nat×Nat)) (next:List Nat) (r:List (Nat×Nat)×List Nat),Gt M id ks deep next=some r→EB M id ks deep next=some (some r)∨EB M id ks deep next=some none
 |[],deep,next,r,h=>by unfold Gt at h;unfold EB;rw[Option.some.inj h];exact .inl rfl
 |k::ks,deep,next,r,h=>by
   unfold Gt at h
   split at h
   ·cases h
   ·rename_i hc
    unfold EB;rw[if_neg hc];split
    ·exact .inr rfl
    ·exact QG ks _ _ r h
theorem OB{M:Nat→Option Node}:∀(ids:List Nat) (deep:List (Nat×Nat)) (next:List Nat) (r:List (Nat×Nat)×List Nat),Eg M ids deep next=some r→Ca M ids deep next=some (some r)∨Ca M ids deep next=some none
 |[],deep,next,r,h=>by unfold Eg at h;unfold Ca;rw[Option.some.inj h];exact .inl rfl
 |id::ids,deep,next,r,h=>by
   unfold Eg at h
   split at h
   ·cases h
   ·rename_i hc
    unfold Ca;rw[if_neg hc];cases hk:Gt M id (ndAt M id).kids deep next with
    |none=>rw[hk] at h;cases h
    |some r2=>
      rw[hk] at h;rcases QG _ _ _ _ hk with e|e
      ·rw[e];exact OB ids _ _ r h
      ·rw[e];exact .inr rfl
theorem Tc{M:Nat→Option Node}:∀(f:Nat) (ids:List Nat) (deep R:List (Nat×Nat)),N9 M f ids deep=some R→D8 M f ids deep=some (some R)∨D8 M f ids deep=some none
 |0,_,_,_,h=>by cases h
 |f+1,[],deep,R,h=>by unfold N9 at h;unfold D8;rw[Option.some.inj h];exact .inl rfl
 |f+1,i::l,deep,R,h=>by
   unfold N9 at h;unfold D8;cases hk:Eg M (i::l) deep [] with
   |none=>rw[hk] at h;cases h
   |some r2=>
     rw[hk] at h;rcases OB _ _ _ _ hk with e|e
     ·rw[e];exact Tc f _ _ R h
     ·rw[e];exact .inr rfl
section
variable {M:Nat→Option Node} {n:Nat} (hT:TrM M n) (hn:n≤20000)
include hT hn in
theorem OC{id:Nat}{nd:Node}(hid:M id=some nd){Dn:Nat→Prop}(hD:¬Dn id):
 ∀(ks pre:List Nat) (deep:List (Nat×Nat)) (next:List Nat),nd.kids=pre++ks→Lv M n (fun _ _=>True) Dn (next) deep→(∀k∈ks,k∉next)→(gl deep id).isSome=true→next.length < deep.length→
   ∃deep',Gt M id ks deep next=some (deep',next++ks)∧Lv M n (fun _ _=>True) Dn (next++ks) deep'∧(next++ks).length < deep'.length
 |[],pre,deep,next,hk,hL,_,hv,hlen=>⟨deep,by simp[Gt],by simpa using hL,by simpa using hlen⟩
 |k::ks,pre,deep,next,hk,hL,hnx,hv,hlen=>by
   have hkm:k∈nd.kids:=by rw[hk];simp
   obtain⟨hk1,hkn⟩:=hT.kid id nd hid k hkm;have hidp:=(hT.dom id).1 (by rw[hid];rfl);have hknew:(gl deep k).isSome=false:=by
    cases h:(gl deep k).isSome with
    |false=>rfl
    |true=>
      rcases(hL.vis k).1 h with h|⟨p,a,hp,ha,hka⟩|h
      ·omega
      ·exact absurd (hT.par p id a nd k ha hid hka hkm ▸ hp) hD
      ·exact absurd h (hnx k (by simp))
   have hMk:(M k).isNone=false:=by
    have:=(hT.dom k).2 (by omega);cases hm:M k with
    |none=>rw[hm] at this;cases this
    |some _=>rfl
   obtain⟨d0,hd0⟩:=Option.isSome_iff_exists.1 hv;have hkey:k∉deep.map Prod.fst:=fun h=>by rw[(Bi deep k).2 h] at hknew;cases hknew
   have hdl:deep.length+1≤n:=by
    have:=GY n (k::deep.map Prod.fst) (List.nodup_cons.2 ⟨hkey,hL.keys⟩) (fun x hx=>by
     rcases List.mem_cons.1 hx with e|e
     ·subst e;omega
     ·obtain⟨p,hp,rfl⟩:=List.mem_map.1 e
      exact hL.bnd p hp)
    simpa using this
   unfold Gt;rw[if_neg (by rw[hknew,hMk];simp;omega),hd0];have hL':Lv M n (fun _ _=>True) Dn (next++[k]) ((k,(some d0).getD 0+1)::deep):=by
    refine⟨fun i=> ?_,List.nodup_cons.2 ⟨hkey,hL.keys⟩,fun p hp=> ?_,fun i d hi=> ?_⟩
    ·rw[Cn]
     by_cases e:k=i
     ·subst e;simp
     ·rw[if_neg (by simpa using e),hL.vis i]
      constructor
      ·rintro(h|h|h)
       ·exact .inl h
       ·exact .inr (.inl h)
       ·exact .inr (.inr (by simp[h]))
      ·rintro(h|h|h)
       ·exact .inl h
       ·exact .inr (.inl h)
       ·rcases List.mem_append.1 h with h|h
        ·exact .inr (.inr h)
        ·simp at h;exact absurd h.symm e
    ·rcases List.mem_cons.1 hp with e|e
     ·subst e;exact⟨by omega,hkn⟩
     ·exact hL.bnd p e
    ·rw[Cn] at hi
     by_cases e:k=i
     ·subst e
      rw[if_pos (by simp)] at hi;injection hi with hi;subst hi;refine⟨by simp, ?_⟩;trivial
     ·rw[if_neg (by simpa using e)] at hi
      exact hL.dep i d hi
   have hkd:(nd.kids).Nodup:=hT.nodup id nd hid;obtain⟨deep',h1,h2,h3⟩:=OC hid hD ks (pre++[k]) ((k,(some d0).getD 0+1)::deep) (next++[k]) (by rw[hk];simp) hL' (fun j hj hm=>by
    rcases List.mem_append.1 hm with h|h
    ·exact hnx j (by simp[hj]) h
    ·simp at h
     subst h;rw[hk] at hkd;have:=(List.nodup_append.1 hkd).2.1;exact(List.nodup_cons.1 this).1 hj) (by
    rw[Cn];by_cases e:k=id
    ·omega
    ·rw[if_neg (by simpa using e)];exact hv) (by simp;omega)
   exact⟨deep',by rw[h1];simp,by simpa using h2,by simpa using h3⟩
include hT hn in
theorem Mh{Dn:Nat→Prop}:∀(ids done:List Nat) (deep:List (Nat×Nat)),(done++ids).Nodup→(∀i∈ids,¬Dn i∧(gl deep i).isSome=true)→Lv M n (fun _ _=>True) Dn (done.flatMap (kd M)) deep→(done.flatMap (kd M)).length < deep.length→
 ∃deep',Eg M ids deep (done.flatMap (kd M))=some (deep',(done++ids).flatMap (kd M))∧Lv M n (fun _ _=>True) Dn ((done++ids).flatMap (kd M)) deep'∧∀i,(gl deep i).isSome=true→(gl deep' i).isSome=true
 |[],done,deep,hd,hi,hL,hlen=>⟨deep,by simp[Eg],by simpa using hL,fun i h=>h⟩
 |id::ids,done,deep,hd,hi,hL,hlen=>by
   obtain⟨hD,hv⟩:=hi id (by simp);have hid:∃nd,M id=some nd:=by
    have:=hL.bnd;obtain⟨d,hg⟩:=Option.isSome_iff_exists.1 hv;have hm:=(Bi deep id).1 hv;obtain⟨p,hp,rfl⟩:=List.mem_map.1 hm;exact Option.isSome_iff_exists.1 ((hT.dom p.1).2 (hL.bnd p hp))
   obtain⟨nd,hid⟩:=hid;have hkd:kd M id=nd.kids:=by unfold kd ndAt;rw[hid];rfl
   have hnot:id∉done:=by
    intro h;have:=(List.nodup_append.1 hd).2.2 id h id (by simp);exact this rfl
   obtain⟨deep1,h1,h2,h3⟩:=OC hT hn hid hD nd.kids [] deep (done.flatMap (kd M)) rfl hL (fun k hk hm=>by
    obtain⟨q,hq,hkq⟩:=List.mem_flatMap.1 hm;obtain⟨b,hb,hkb⟩:=Da.2 hkq;exact hnot (hT.par q id b nd k hb hid hkb hk ▸ hq)) hv hlen
   have e:done.flatMap (kd M)++nd.kids=(done++[id]).flatMap (kd M):=by rw[List.flatMap_append];simp[hkd]
   rw[e] at h1 h2 h3;have hmono:∀i,(gl deep i).isSome=true→(gl deep1 i).isSome=true:=fun i h=>by
    rw[h2.vis i];rcases(hL.vis i).1 h with h|h|h
    ·exact .inl h
    ·exact .inr (.inl h)
    ·exact .inr (.inr (by rw[←e];exact List.mem_append_left _ h))
   obtain⟨deep',k1,k2,k3⟩:=Mh ids (done++[id]) deep1 (by simpa using hd) (fun i h=>⟨(hi i (by simp[h])).1,hmono i (hi i (by simp[h])).2⟩) h2 h3;refine⟨deep', ?_,by simpa using k2,fun i h=>k3 i (hmono i h)⟩;unfold Eg;rw[show(M id).isNone=false by rw[hid];rfl,if_neg (by simp),show(ndAt M id).kids=nd.kids by unfold ndAt;rw[hid];rfl,h1];simpa using k1
include hT hn in
theorem QB:∀(m:Nat) (Dl ids:List Nat) (deep:List (Nat×Nat)),n-Dl.length≤m→(Dl++ids).Nodup→(∀i,(gl deep i).isSome=true↔i∈Dl++ids)→Lv M n (fun _ _=>True) (· ∈Dl) [] deep→0 < deep.length→
 ∃R,N9 M (m+2) ids deep=some R∧∀i,(gl R i).isSome=(M i).isSome
 |m,Dl,[],deep,hm,hd,hv,hL,h0=>by
   refine⟨deep,rfl,fun i=> ?_⟩;have hall:∀i,1≤i→i≤n→(gl deep i).isSome=true:=fun i=>by
    induction i using Nat.strongRecOn with
    |_ i ih=>
      intro h1 h2;by_cases e:i=1
      ·exact(hL.vis i).2 (.inl e)
      ·obtain⟨p,a,ha,hk⟩:=hT.has i (by omega) h2
       have hlt:=(hT.kid p a ha i hk).1;have hp:=(hT.dom p).1 (by rw[ha];rfl);have:=(hv p).1 (ih p hlt hp.1 (by omega));exact(hL.vis i).2 (.inr (.inl ⟨p,a,by simpa using this,ha,hk⟩))
   rw[Bool.eq_iff_iff];constructor
   ·intro h
    have hm:=(Bi deep i).1 h;obtain⟨p,hp,rfl⟩:=List.mem_map.1 hm;exact(hT.dom p.1).2 (hL.bnd p hp)
   ·intro h
    have:=(hT.dom i).1 h;exact hall i this.1 this.2
 |m,Dl,id::ids,deep,hm,hd,hv,hL,h0=>by
   have hbnd:∀x∈Dl++(id::ids),1≤x∧x≤n:=fun x hx=>by
    have:=(Bi deep x).1 ((hv x).2 hx);obtain⟨p,hp,rfl⟩:=List.mem_map.1 this;exact hL.bnd p hp
   have hlen:=GY n _ hd hbnd;simp only[List.length_append,List.length_cons] at hlen;have hdis:∀i∈id::ids,i∉Dl:=fun i hi h=>(List.nodup_append.1 hd).2.2 i h i hi rfl;obtain⟨deep',h1,h2,h3⟩:=Mh hT hn (Dn:=(· ∈Dl)) (id::ids) [] deep (by simpa using(List.nodup_append.1 hd).2.1) (fun i hi=>⟨hdis i hi,(hv i).2 (List.mem_append_right _ hi)⟩) hL h0;simp only[List.nil_append,List.flatMap_nil] at h1 h2;cases m with
   |zero=>exfalso;omega
   |succ m=>
   have hkn:∀k,k∈(id::ids).flatMap (kd M)→k∉Dl++(id::ids):=fun k hk hm=>by
    obtain⟨q,hq,hkq⟩:=List.mem_flatMap.1 hk;obtain⟨b,hb,hkb⟩:=Da.2 hkq;have h4:=(hT.kid q b hb k hkb).1;have hq1:=(hT.dom q).1 (by rw[hb];rfl);rcases(hL.vis k).1 ((hv k).2 hm) with h|⟨p,a,hp,ha,hka⟩|h
    ·omega
    ·exact hdis q hq (hT.par p q a b k ha hb hka hkb ▸ hp)
    ·simp at h
   have hnd:((id::ids).flatMap (kd M)).Nodup:=by
    refine List.pairwise_flatMap.2 ⟨fun q hq=> ?_, ?_⟩
    ·obtain⟨b,hb⟩:=Option.isSome_iff_exists.1 ((hT.dom q).2 (hbnd q (List.mem_append_right _ hq)))
     have:kd M q=b.kids:=by unfold kd ndAt;rw[hb];rfl
     rw[this];exact hT.nodup q b hb
    ·refine List.Pairwise.imp ?_ (List.nodup_append.1 hd).2.1
     intro p q hpq x hx y hy e;subst e;obtain⟨a,ha,hxa⟩:=Da.2 hx;obtain⟨b,hb,hxb⟩:=Da.2 hy;exact hpq (hT.par p q a b x ha hb hxa hxb)
   have hvis':∀i,(gl deep' i).isSome=true↔i∈(Dl++(id::ids))++(id::ids).flatMap (kd M):=fun i=>by
    rw[h2.vis i,List.mem_append,←hv i,hL.vis i];constructor
    ·rintro(h|h|h)
     ·exact .inl (.inl h)
     ·exact .inl (.inr (.inl h))
     ·exact .inr h
    ·rintro((h|h|h)|h)
     ·exact .inl h
     ·exact .inr (.inl h)
     ·simp at h
     ·exact .inr (.inr h)
   obtain⟨R,hR,hall⟩:=QB m (Dl++(id::ids)) ((id::ids).flatMap (kd M)) deep' (by simp;omega) (List.nodup_append.2 ⟨hd,hnd,fun a ha b hb e=>hkn b hb (e ▸ ha)⟩) hvis' ⟨fun i=>by
    rw[h2.vis i];constructor
    ·rintro(h|⟨p,a,hp,ha⟩|h)
     ·exact .inl h
     ·exact .inr (.inl ⟨p,a,List.mem_append_left _ hp,ha⟩)
     ·obtain⟨q,hq,hkq⟩:=List.mem_flatMap.1 h
      obtain⟨b,hb,hkb⟩:=Da.2 hkq;exact .inr (.inl ⟨q,b,List.mem_append_right _ hq,hb,hkb⟩)
    ·rintro(h|⟨p,a,hp,ha,hk⟩|h)
     ·exact .inl h
     ·rcases List.mem_append.1 hp with hp|hp
      ·exact .inr (.inl ⟨p,a,hp,ha,hk⟩)
      ·exact .inr (.inr (List.mem_flatMap.2 ⟨p,hp,Da.1 ⟨a,ha,hk⟩⟩))
     ·simp at h,h2.keys,h2.bnd,h2.dep⟩ (by
    have:(gl deep' id).isSome=true:=(hvis' id).2 (by simp);cases deep' with
    |nil=>simp[gl] at this
    |cons _ _=>simp)
   refine⟨R, ?_,hall⟩;show(match Eg M (id::ids) deep [] with|none=>none|some r=>N9 M (m+2) r.2 r.1)=some R;rw[h1];exact hR
end
theorem Vs{l:List Row}(hT:Tr l)(hl:l.length≤20000)(h0:0 < l.length)(href:∀r∈l,r.node.ref < 18446744073709551616):∃F ot,RX (rowM l) F ot∧(ot.isSome=true↔0 < CQ l 200 1):=by
 have hM:=hT.trM hl h0;have hv:∀i,(gl [((1:Nat),(1:Nat))] i).isSome=true↔i∈[]++[1]:=fun i=>by rw[Bi];simp
 have hroot:∃nd,rowM l 1=some nd∧nd.kind=1:=by
  have hg:rowM l 1=some l[0].node:=(hT.get hl).2 ⟨l[0],AX h0,AA,rfl⟩;exact⟨_,hg,hT.root l[0] (AX h0)⟩
 have hrf:∀i nd,rowM l i=some nd→nd.ref < 18446744073709551616:=fun i a ha=>by
  obtain⟨r,hr,_,rfl⟩:=(BS (hT.rows hl)).1 ha;exact href r hr
 obtain⟨R,hR,hall⟩:=QB hM hl l.length [] [1] [(1,1)] (by simp) (by simp) hv ⟨fun i=>by rw[Bi];simp,by simp,fun p hp=>by simp at hp;subst hp;exact⟨AA,h0⟩,fun i d hd=>by
  rw[Cn] at hd;by_cases e:1=i
  ·subst e
   simp at hd;subst hd;exact⟨AA,trivial⟩
  ·rw[if_neg (by simpa using e)] at hd
   simp[gl] at hd⟩ (by simp)
 rcases Tc _ _ _ _ hR with e|e
 ·refine⟨_,some R,⟨hroot,e,fun R' h i=>by injection h with h;subst h;exact hall i,hrf⟩,fun _=> ?_,fun _=>rfl⟩
  exact RJ e fun i hi=>by rw[←hall i];exact hi
 ·refine⟨_,none,⟨hroot,e,(fun R' h=>by cases h),hrf⟩,(fun h=>by cases h),fun hd=> ?_⟩
  obtain⟨R2,hR2,_⟩:=Ta hM hl (H:=fun j i=>0 < CQ l j i) (fun i h=>by simp[CQ] at h) (fun j i a ha h k hk=>(Ee l j i).1 h k (by rw[LF (by rw[ha];rfl)];exact Da.1 ⟨a,ha,hk⟩))
   l.length [] [1] [(1,1)] (by simp) (by simp) hv ⟨fun i=>by rw[Bi];simp,by simp,fun p hp=>by simp at hp;subst hp;exact⟨AA,h0⟩,fun i d hd2=>by
    rw[Cn] at hd2;by_cases e:1=i
    ·subst e
     simp at hd2;subst hd2;exact⟨AA,hd⟩
    ·rw[if_neg (by simpa using e)] at hd2
     simp[gl] at hd2⟩ (by simp)
  have:=Vx _ _ _ _ hR2;rw[e] at this;cases this
end Hg
namespace Hg
open Go.Proofs.YtijhlanclfajiaaGreatDoor (idxI Dx DK Gy Ht DecR UJ Nn WG MV Aj Ga)
structure Rt (l:List Row):Prop where
 tr:Tr l
 len:l.length≤20000
 name:∀r∈l,r.node.name.length≤1000000
 num:∀r∈l,r.node.num≤9223372036854775807
 right:D5 l=some 0
section
variable {l:List Row} (h:Rt l)
include h
theorem Rt.shaped:shaped l=some true:=(Lf h.right).1
theorem Rt.pos:0 < l.length:=by
 have ht:=(FV h.shaped).1;unfold tree at ht;cases l with
 |nil=>simp[atI] at ht
 |cons _ _=>simp
theorem Rt.trM:TrM (rowM l) l.length:=h.tr.trM h.len h.pos
theorem Rt.rows:Fq l:=h.tr.rows h.len
theorem Rt.row{i:Nat}{a:Node}(ha:rowM l i=some a):∃r∈l,r.id=i∧r.node=a∧UI l r:=by
 obtain⟨r,hr,h1,h2⟩:=(BS h.rows).1 ha;exact⟨r,hr,h1,h2,Jb ((FV h.shaped).2.1 r hr)⟩
theorem Rt.kids{i:Nat}{a:Node}(ha:rowM l i=some a):BC (rowM l) a:=by
 obtain⟨r,_,_,rfl,ho⟩:=h.row ha;exact Ie ho.fit ho.hi ho.lo
theorem Rt.kidK{i:Nat}{a:Node}(ha:rowM l i=some a){j k:Nat}(hj:a.kids[j]? =some k):
 (kindOf l k=6→a.kind=5)∧(kindOf l k=4→a.kind=3)∧(a.kind=1→kindOf l k=2)∧(a.kind=2→kindOf l k=3)∧(3≤a.kind→4≤kindOf l k):=by
 obtain⟨hlt,he⟩:=Af.1 hj;have hk:kindOf l k=kk (rowM l) a j:=by rw[←LD];simp[List.getD,hj]
 rw[hk];obtain⟨r,_,_,rfl,ho⟩:=h.row ha;have hlo:=ho.lo;have hhi:=ho.hi;have hK:=h.kids ha;unfold BC at hK;rcases hK with⟨a1,a2⟩|⟨a1,a2⟩|⟨a1,a2,a3,a4⟩|⟨a1,a2⟩|⟨a1,a2,a3,a4⟩|⟨a1,a2,a3,a4,a5⟩|⟨a1,a2,a3,a4⟩|⟨a1,a2,a3⟩|⟨a1,a2,a3⟩|⟨a1,a2,a3,a4⟩|⟨a1,a2⟩|⟨a1,a2⟩
 ·have:=a2 j hlt;omega
 ·have:=a2 j hlt;omega
 ·by_cases e:j=r.node.kids.length-1
  ·rw[e,a4];omega
  ·have:=a3 j (by omega);omega
 ·omega
 ·by_cases e:j=r.node.kids.length-1
  ·rw[e];unfold stP at a4;omega
  ·have:=a3 j (by omega);unfold stP at this;omega
 ·unfold exP at a3
  match j,hlt with
  |0,_=>omega
  |1,_=>omega
  |2,_=>omega
  |n+3,hlt=>omega
 ·unfold exP at a3
  match j,hlt with
  |0,_=>omega
  |1,_=>omega
  |n+2,hlt=>omega
 ·obtain rfl:j=0:=by omega
  omega
 ·obtain rfl:j=0:=by omega
  unfold exP at a3;omega
 ·unfold exP at a3 a4
  match j,hlt with
  |0,_=>omega
  |1,_=>omega
  |n+2,hlt=>omega
 ·have:=a2 j hlt;unfold exP at this;omega
 ·omega
def JY(l:List Row)(id:Nat)(A:List Nat):Prop:=∀F seen out,id < F→(∀i∈seen,id < i)→ED (rowM l) (parR l) F id seen out=some (A++out)
def kSum(l:List Row)(i:Nat):Nat:=((List.range i).flatMap (kd (rowM l))).length
omit h in
theorem LG(l:List Row)(i:Nat):kSum l (i+1)=kSum l i+(kd (rowM l) i).length:=by unfold kSum;rw[List.range_succ,List.flatMap_append];simp
omit h in
theorem Tx(l:List Row){i j:Nat}(hij:i≤j):kSum l i≤kSum l j:=by
 obtain⟨k,rfl⟩:=Nat.exists_eq_add_of_le hij;clear hij
 induction k with
 |zero=>exact AA
 |succ k ih=>rw[←Nat.add_assoc,LG];omega
theorem Rt.kLe(i:Nat):kSum l i≤20000:=by
 have hM:=h.trM;refine AO (GY l.length _ ?_ fun x hx=> ?_) h.len
 ·refine List.pairwise_flatMap.2 ⟨fun q _=> ?_, ?_⟩
  ·cases hq:rowM l q with
   |none=>unfold kd ndAt;rw[hq];exact List.Pairwise.nil
   |some b=>unfold kd;rw[Ar hq];exact hM.nodup q b hq
  ·refine List.Pairwise.imp ?_ (List.nodup_range (n:=i))
   intro p q hpq x hx y hy e;subst e;obtain⟨a,ha,hxa⟩:=Da.2 hx;obtain⟨b,hb,hxb⟩:=Da.2 hy;exact hpq (hM.par p q a b x ha hb hxa hxb)
 ·obtain⟨q,_,hk⟩:=List.mem_flatMap.1 hx
  obtain⟨b,hb,hkb⟩:=Da.2 hk;have:=hM.kid q b hb x hkb;have:=(hM.dom q).1 (by rw[hb];rfl);omega
theorem Rt.Gi{p k:Nat}{a:Node}{A:List Nat}(ha:rowM l p=some a)(hk:k∈a.kids)(hA:JY l p A):JY l k (A++Em (rowM l) a (idxI a.kids k).toNat):=by
 obtain⟨e1,e2⟩:=M3 h.tr h.len h.pos ha hk;have hlt:=(h.trM.kid p a ha k hk).1;intro F seen out hF hs;cases F with
 |zero=>omega
 |succ F=>
   unfold ED;rw[if_neg (fun hm=>by have:=hs k hm;omega),e1,ha];dsimp only;rw[e2,hA F _ _ (by omega) (fun i hi=>by
    rcases List.mem_cons.1 hi with e|e
    ·omega
    ·have:=hs i e;omega)]
   rw[List.append_assoc]
theorem Rt.anc:∀id,∃A,JY l id A∧A.length≤kSum l id:=by
 intro id
 induction id using Nat.strongRecOn with
 |_ id ih=>
 rcases DK h.rows id with⟨h1,_,h3⟩|⟨h1,_,⟨b,hb,he,h5⟩,_⟩
 ·refine⟨[],fun F seen out hF hs=> ?_,Nat.zero_le _⟩
  cases F with
  |zero=>omega
  |succ F=>
    unfold ED;rw[if_neg (fun hm=>by have:=hs id hm;omega),h1,Dh h.rows];rfl
 ·have hk:id∈b.kids:=(DW _ _).1 (by rw[he];exact h5)
  have hlt:=(h.trM.kid _ b hb id hk).1;obtain⟨A,hA,hlen⟩:=ih _ hlt;refine⟨_,h.Gi hb hk hA, ?_⟩;have h7:(Em (rowM l) b (idxI b.kids id).toNat).length≤b.kids.length:=by
   unfold Em;refine AO (List.length_filter_le _ _) ?_;rw[List.length_take];omega
  have h8:=LG l (parR l id).1;have h9:=Tx l (show(parR l id).1+1≤id from hlt);rw[show kd (rowM l) (parR l id).1=b.kids by unfold kd;rw[Ar hb]] at h8;rw[List.length_append];omega
theorem Rt.inFn:∀x a,rowM l x=some a→3≤a.kind→∃m S fn A,Vd l fn (m+1) x S∧JY l x A∧A.length≤20000∧(∀y∈S,y∈A)∧(∀f,x < f→abvL l f x=fn):=by
 intro x
 induction x using Nat.strongRecOn with
 |_ x ih=>
 intro a ha h3;have hM:=h.trM;have hx:=(hM.dom x).1 (by rw[ha];rfl);have hx2:2≤x:=by
  rcases Nat.lt_or_ge 1 x with e|e
  ·exact e
  ·exfalso
   obtain rfl:x=1:=by omega
   obtain⟨r,_,h1,rfl,ho⟩:=h.row ha;have:=ho.root.2 h1;omega
 obtain⟨p,b,hb,hk⟩:=hM.has x hx2 hx.2;have hlt:=(hM.kid p b hb x hk).1;obtain⟨j,hj⟩:=List.getElem?_of_mem hk;have hkx:kindOf l x=a.kind:=by unfold kindOf;rw[←AU,Ar ha]
 obtain⟨k6,k4,k1,k2,k5⟩:=h.kidK hb hj;rw[hkx] at k6 k4 k1 k2 k5;have hp1:=(hM.dom p).1 (by rw[hb];rfl);have hb1:1≤b.kind:=by obtain⟨r,_,_,rfl,ho⟩:=h.row hb;exact ho.lo
 rcases Nat.lt_or_ge b.kind 3 with hb3|hb3
 ·have hb2:b.kind=2:=by
   rcases Nat.lt_or_ge b.kind 2 with e|e
   ·have:=k1 (by omega);omega
   ·omega
  have hp2:2≤p:=by
   rcases Nat.lt_or_ge 1 p with e|e
   ·exact e
   ·exfalso
    obtain rfl:p=1:=by omega
    obtain⟨r,_,h1,rfl,ho⟩:=h.row hb;have:=ho.root.2 h1;omega
  obtain⟨q,c,hc,hkp⟩:=hM.has p hp2 hp1.2;obtain⟨i,hi⟩:=List.getElem?_of_mem hkp;have hkp':kindOf l p=b.kind:=by unfold kindOf;rw[←AU,Ar hb]
  obtain⟨c6,c4,c1,c2,c5⟩:=h.kidK hc hi;rw[hkp',hb2] at c6 c4 c1 c2 c5;have hc1:c.kind=1:=by
   have:1≤c.kind:=by obtain⟨r,_,_,rfl,ho⟩:=h.row hc;exact ho.lo
   rcases Nat.lt_or_ge c.kind 3 with e|e
   ·rcases Nat.lt_or_ge c.kind 2 with e2|e2
    ·omega
    ·have:=c2 (by omega);omega
   ·have:=c5 e;omega
  have hq1:q=1:=by obtain⟨r,_,h1,rfl,ho⟩:=h.row hc;rw[←h1];exact ho.root.1 hc1
  subst hq1;have hm:p∈(AL l 1).kids:=by rw[←AU,Ar hc];exact hkp
  have hf:x∈(AL l p).kids:=by rw[←AU,Ar hb];exact hk
  obtain⟨A,hA,hAl⟩:=h.anc x;have hS:=h.kLe x;refine⟨200,[],x,A,((Lf h.right).2.2.1 p hm).2 x hf|>.2,hA,by omega,fun y hy=>by simp at hy,fun f hf=> ?_⟩;cases f with
  |zero=>omega
  |succ f=>
    unfold abvL;rw[if_neg (by omega),ha];dsimp only;rw[if_pos (k2 hb2)]
 ·obtain⟨m,S,fn,A,hV,hA,hAl,hSA,hab⟩:=ih p hlt b hb hb3
  have hn:=hV.node;have eb:AL l p=b:=by rw[←AU,Ar hb]
  rw[eb] at hn;have hV2:=hn.2.2 j x hj;obtain⟨m2,rfl⟩:∃k,m=k+1:=by
   cases m with
   |zero=>obtain⟨v,v',hh,_⟩:=hV2;cases hh
   |succ k=>exact⟨k,rfl⟩
  have hij:(idxI b.kids x).toNat=j:=by
   have hnd:=hM.nodup p b hb;unfold idxI;cases hfi:b.kids.findIdx? (· ==x) with
   |none=>
     simp only[List.findIdx?_eq_none_iff] at hfi;have:=hfi x hk;simp at this
   |some i=>
     obtain⟨hi,he,_⟩:=List.findIdx?_eq_some_iff_getElem.1 hfi;obtain⟨hjl,hje⟩:=Af.1 hj;have:b.kids[i]=b.kids[j]:=by rw[hje];simpa using he
     show i=j;rcases Nat.lt_trichotomy i j with e|e|e
     ·exact absurd this (List.pairwise_iff_getElem.1 hnd i j hi hjl e)
     ·exact e
     ·exact absurd this.symm (List.pairwise_iff_getElem.1 hnd j i hjl hi e)
  have hA2:=h.Gi hb hk hA;rw[hij] at hA2;obtain⟨A',hA',hAl'⟩:=h.anc x;have hS:=h.kLe x;have e1:=hA2 (x+1) [] [] (by omega) (fun i hi=>by simp at hi);have e2:=hA' (x+1) [] [] (by omega) (fun i hi=>by simp at hi);rw[e1] at e2;have e3:=Option.some.inj e2;rw[List.append_nil,List.append_nil] at e3;refine⟨m2,_,fn,_,hV2,hA2,by rw[e3];omega,fun y hy=> ?_,fun f hf=> ?_⟩
  ·rcases List.mem_append.1 hy with e|e
   ·exact List.mem_append_left _ (hSA y e)
   ·refine List.mem_append_right _ ?_
    unfold Em;obtain⟨ht,hv⟩:=List.mem_filter.1 e;refine List.mem_filter.2 ⟨ht, ?_⟩;have hym:=List.mem_of_mem_take ht;obtain⟨i,hi⟩:=List.getElem?_of_mem hym;obtain⟨y6,y4,_,_,_⟩:=h.kidK hb hi;unfold Cr;rw[AU];show _=true;unfold visible at hv;unfold kindOf at hv y6 y4;simp only[Bool.or_eq_true,beq_iff_eq,Bool.and_eq_true,decide_eq_true_eq] at hv⊢;rcases hv with e|e
    ·exact .inl ⟨y6 e,e⟩
    ·exact .inr ⟨y4 e,e⟩
  ·cases f with
   |zero=>omega
   |succ f=>
     unfold abvL;have hk3:¬a.kind=3:=by have:=k5 hb3;omega
     rw[if_neg (by omega),ha];dsimp only;rw[if_neg hk3,(M3 h.tr h.len h.pos hb hk).1];exact hab f (by omega)
end
end Hg
