/-
  Part of the proof of CheckLists.
-/
import Derived.Test.YtljmibnfmilfbaaGreatDoorKeBJ
set_option linter.all false
set_option maxHeartbeats 32000000
set_option maxRecDepth 100000
namespace Go.Proofs.YtljmibnfmilfbaaGreatDoor
open Go.RowKit
open Hg (GT gl wk isK ndAt CS KB Cx Nb Fs)
attribute [local go_sem] Oper.semAt_some
theorem KJ(B:Nat)(v:Value)(ids:List Nat)(id:Nat)(w:World)(hs:Sl w B v ids.length (ids.map idV))(hl:ids.length≤1000000000000)(hl2:ids.length≤1000000):
 Calls Tryz.prog 79 #[v,.int .u64 (id:Int)] w fun e w'=>e= .returned (.bool (decide (0≤idxI ids id)))∧w=w':=by
 have TI:=zz (Nz B v ids id w hs hl2);clear hs;go_enter Tryz.func79,Tryz.ntmps79;go_wp2_with fail;refine TI.out.mono ?_;rintro e w1 ⟨rfl,rfl⟩;clear TI;go_wp2;go_ret;exact⟨rfl,rfl⟩
theorem Lb{P:Program}{c:Code}{K:Act→World→Prop}{Q':Exit→Act→World→Prop}{a:Act}{w:World}(h:c.wp P (Exit.then K (fun _ _ _=>False)) a w):c.wp P (Exit.then K Q') a w:=
 wp_mono h (fun e a w h=>by cases e <;>first|exact h|exact h.elim)
def BoxI(ab B:Nat)(S:Nat→Prop)(A:World):Prop:=A.heap[B]? =some (.cells #[.pointer (some ⟨ab,0,none⟩)] 27 (0,0))∧(∃r,A.heap[B+1]? =some (.cells #[r] 4 (0,0)))∧∀q,S q↔q=B∨q=B+1
theorem BoxI.fr{ab B:Nat}{S:Nat→Prop}{A A':World}(h:BoxI ab B S A)(hf:Fr (fun q=>¬S q) A A'):BoxI ab B S A':=by
 obtain⟨h1,⟨r,h2⟩,h3⟩:=h;exact⟨hf.at_ h1 (fun h=>h ((h3 B).2 (.inl rfl))),⟨r,hf.at_ h2 (fun h=>h ((h3 (B+1)).2 (.inr rfl)))⟩,h3⟩
theorem BoxI.lt{ab B:Nat}{S:Nat→Prop}{A:World}(h:BoxI ab B S A):∀q,S q→B≤q∧q < A.heap.size:=by
 obtain⟨h1,⟨r,h2⟩,h3⟩:=h;intro q hq;have l1:=(Array.getElem?_eq_some_iff.1 h1).1;have l2:=(Array.getElem?_eq_some_iff.1 h2).1;rcases(h3 q).1 hq with e|e <;>subst e <;>exact⟨by omega,by omega⟩
def hidA(p1 p2 p3 p4:Value)(a:Act):Prop:=∃u0 u5 u6 u7 u8 u9 u10 u11 u12 u13 u14 u15 u16 u17 u18 u19 u20 u21 u22 u23 u24 u25 u26 u27:Value,a={tmps:= #[u0,p1,p2,p3,p4,u5,u6,u7,u8,u9,u10,u11,u12,u13,u14,u15,u16,u17,u18,u19,u20,u21,u22,u23,u24,u25,u26,u27],defers:=[]}
def HidR(ab B:Nat)(S:Nat→Prop)(x:Aj)(a:Act)(A:World):Prop:=
 ∃S0 blk,BoxI ab B S0 A∧hidA (.pointer (some ⟨B,0,none⟩)) (.pointer (some ⟨B+1,0,none⟩)) (idV x.id) (.pointer (some ⟨blk,0,none⟩)) a∧A.heap[blk]? =some (.cells (AA x.nd x.ka x.kc) 33 (0,0))∧(∀q,S q↔S0 q∨q=blk)∧¬S0 blk
theorem Re(ab:Nat)(M:Nat→Option Hg.Node)(par:Nat→Nat×Int)(hp:LZ M par)(F F2:Nat)(xs:List (Nat×Hg.Node))(w:World)(hA:ArOk w ab M)(hxs:wk M F [1] []=some xs)(hF:F≤1000000)(hF2:F2≤1000000)(hid:∀x∈xs,x.1 < Ae)
 (hall:∀x∈xs,x.2.kind=15∨x.2.kind=7→∃R,Fs M par F2 x.1 [] []=some R∧0≤idxI R x.2.ref∧R.length≤1000000):
 Calls Tryz.prog 47 #[.pointer (some ⟨ab,0,none⟩)] w fun e w'=>e= .returned (.bool false)∧Below w.heap.size w w':=by
 have HA:=zz hA;have HP:=zz hp;have HALL:=zz (And.intro hid hall);have TW:=zz (Jl ab 1);have TR:=zz (IQ ab);clear hp hid hall;refine(callsIn_wide (n:=5)).1 (callsIn_of_wp_marks Tryz.func47 rfl trivial ?_ rfl);simp only[Tryz.ntmps47,List.size_toArray,List.length_cons,List.length_nil,Nat.reduceAdd,Nat.reduceSub,Array.replicate_succ,Array.replicate_zero,List.push_toArray,List.append_toArray,List.nil_append,List.cons_append];gi_wp2;refine wpIn_wide.2 (Lb ?_);have hb0:Below w.heap.size w ((w.alloc (.cells #[.pointer (some ⟨ab,0,none⟩)] 27)).alloc (.cells #[.bool false] 4)):=((Below.refl _ _).alloc (Nat.le_refl _) _).alloc (by simp) _;have h0:((w.alloc (.cells #[.pointer (some ⟨ab,0,none⟩)] 27)).alloc (.cells #[.bool false] 4)).heap[w.heap.size]? =some (.cells #[.pointer (some ⟨ab,0,none⟩)] 27 (0,0)):=(heap_alloc_old _ _ (by simp)).trans (heap_alloc_new w _);have h1:((w.alloc (.cells #[.pointer (some ⟨ab,0,none⟩)] 27)).alloc (.cells #[.bool false] 4)).heap[w.heap.size+1]? =some (.cells #[.bool false] 4 (0,0)):=by
  have:=heap_alloc_new (w.alloc (.cells #[.pointer (some ⟨ab,0,none⟩)] 27)) (.cells #[.bool false] 4);rw[show(w.alloc (.cells #[.pointer (some ⟨ab,0,none⟩)] 27)).heap.size=w.heap.size+1 by simp] at this;exact this
 have hz:((w.alloc (.cells #[.pointer (some ⟨ab,0,none⟩)] 27)).alloc (.cells #[.bool false] 4)).heap.size=w.heap.size+2:=by simp
 generalize World.alloc (World.alloc w _) _=W0 at hb0 h0 h1 hz⊢;have e0:=cell_of_row W0 w.heap.size 0 _ _ (0,0) h0;simp at e0;have hHeld:(fun w'=>w'.cell? ⟨w.heap.size,0,none⟩=some (.pointer (some ⟨ab,0,none⟩))) W0.drew:=e0;refine AR (fun w'=>w'.cell? ⟨w.heap.size,0,none⟩=some (.pointer (some ⟨ab,0,none⟩))) 3 (by kernel_rfl) ?_;refine tz 0 _ _ _ ?_;refine tz 1 _ _ _ ?_;refine AB (i:=2) rfl (by kernel_rfl) (fun K hK=> ?_);go_simp;refine(TR.out _).mono ?_;rintro e w1 ⟨rfl,rfl⟩;refine hK.out _ _ (hHeld) (fun hHeld=> ?_);clear hK K
 try simp only[Act.put,sA,sB,sC,sD,sE,sF]
 refine AL (by kernel_rfl) ?_;simp only[List.drop_succ_cons,List.drop_zero];go_wp2_with fail;refine(TW.out _).mono ?_;rintro e w1 ⟨rfl,rfl⟩;have hz':W0.drew.heap.size=w.heap.size+2:=hz;rw[hz'];have hbW:Below W0.heap.size W0 ((W0.drew.alloc (.cells #[.pointer (some ⟨ab,0,none⟩)] 27)).alloc (.cells #[idV 1] 30)):=(((Below.refl _ _).drew).alloc (Nat.le_refl _) _).alloc (by simp) _;have k1:((W0.drew.alloc (.cells #[.pointer (some ⟨ab,0,none⟩)] 27)).alloc (.cells #[idV 1] 30)).heap[w.heap.size+2]? =some (.cells #[.pointer (some ⟨ab,0,none⟩)] 27 (0,0)):=by
  have:=heap_alloc_new W0.drew (.cells #[.pointer (some ⟨ab,0,none⟩)] 27);rw[hz'] at this;exact(heap_alloc_old _ _ (by simp[hz'])).trans this
 have k2:((W0.drew.alloc (.cells #[.pointer (some ⟨ab,0,none⟩)] 27)).alloc (.cells #[idV 1] 30)).heap[w.heap.size+2+1]? =some (.cells #[idV 1] 30 (0,0)):=by
  have:=heap_alloc_new (W0.drew.alloc (.cells #[.pointer (some ⟨ab,0,none⟩)] 27)) (.cells #[idV 1] 30);rw[show(W0.drew.alloc (.cells #[.pointer (some ⟨ab,0,none⟩)] 27)).heap.size=w.heap.size+2+1 by simp[hz']] at this;exact this
 have hzW:((W0.drew.alloc (.cells #[.pointer (some ⟨ab,0,none⟩)] 27)).alloc (.cells #[idV 1] 30)).heap.size=w.heap.size+4:=by simp[hz']
 generalize World.alloc (World.alloc W0.drew _) _=W1 at hbW k1 k2 hzW⊢;have g0:W1.heap[w.heap.size]? =some (.cells #[.pointer (some ⟨ab,0,none⟩)] 27 (0,0)):=(hbW.block _ (by omega)).trans h0;have g1:W1.heap[w.heap.size+1]? =some (.cells #[.bool false] 4 (0,0)):=(hbW.block _ (by omega)).trans h1;have hb1:Below w.heap.size w W1:=hb0.trans (hbW.mono (by omega));obtain⟨⟨mb,c,hAr⟩,hkb⟩:=HA.out;have hseq:=IK ab mb c M w.heap.size 1 (w.heap.size+2+1) (w.heap.size+2) F xs W1 (fun W' hf=>hAr.below (hb1.trans (hf.below' (by omega))) (Nat.le_refl _)) (cell_of_row W1 (w.heap.size+2+1) 0 _ _ (0,0) k2) (cell_of_row W1 (w.heap.size+2) 0 _ _ (0,0) k1) ⟨by omega,by omega,by omega,by omega⟩ (by decide) hkb hxs hF;have HB1:=zz hb1;have HARW:=zz (show∀W',Fr (fun q=>w.heap.size≤q) W1 W'→ArOk W' ab M from fun W' hf=>HA.out.below (hb1.trans (hf.below' (by omega))));clear hA hAr hkb k1 k2 hHeld h0 h1 hb0 hbW e0 TW TR hb1;go_wp2;gi_wp2;refine Gd (gf:=63) rfl (enters_of Tryz.func63 (by kernel_rfl) rfl) hseq (Fr.refl _ _) rfl (fun q h=>by rcases h with h|h <;>omega) (by omega)
  (fun S _ A=>BoxI ab w.heap.size S A) (fun _ _ _ _=>False) (fun S _ x a A=>HidR ab w.heap.size S x a A) (fun S pre A A' h hf=>h.fr hf) (fun _ _ _ _ _ h _=>h) ?hI1 (fun S pre A h q hq=>(h.lt q hq).2) ?hI1l
  (fun q=>q=w.heap.size∨q=w.heap.size+1) ⟨g0,⟨_,g1⟩,fun q=>Iff.rfl⟩ (fun q e=>by rcases e with e|e <;>subst e <;>exact⟨by omega,by omega,by omega⟩) ?assign ?body ?done ?stop
 case hI1=>
  rintro S pre x a A A' ⟨S0,blk,hi,ha,hb,hS,hn⟩ hf;exact⟨S0,blk,hi.fr (hf.imp (fun q _ h h'=>h (.inl ((hS q).2 (.inl h'))))),ha,hf.at_ hb (fun h=>h (.inl ((hS blk).2 (.inr rfl)))),hS,hn⟩
 case hI1l=>
  rintro S pre x a A ⟨S0,blk,hi,ha,hb,hS,hn⟩ q hq;rcases(hS q).1 hq with h|h
  ·exact(hi.lt q h).2
  ·subst h;exact(Array.getElem?_eq_some_iff.1 hb).1
 case assign=>
  intro l m S pre x A K hi hpre hx hkb hf hK;gi_wp2;refine hK (fun q=>S q∨q=A.heap.size) _ _ ⟨S,A.heap.size,hi.fr ((Fr.refl _ _).alloc _), ?_,heap_alloc_new A _,fun q=>Iff.rfl,fun h=>by have:=(hi.lt _ h).2;omega⟩ ((Fr.refl _ _).alloc _) (fun q h=>h.imp (fun h=>h) (fun h=>by omega));exact⟨_,_,_,_,_,_,_,_,_,_,_,_,_,_,_,_,_,_,_,_,_,_,_,_,rfl⟩
 case body=>
  rintro l m S pre x a1 A ⟨S0,blk,⟨hbx,⟨r0,hbr⟩,hSv⟩,ha,hb,hS,hn⟩ hpre hf;obtain⟨u0,u5,u6,u7,u8,u9,u10,u11,u12,u13,u14,u15,u16,u17,u18,u19,u20,u21,u22,u23,u24,u25,u26,u27,rfl⟩:=ha;have hxm:x.strip∈xs:=hpre.subset (by simp);have hf2:Fr (fun q=>w.heap.size≤q) W1 A:=hf.imp (fun q _ e=>by rcases e with(e|e)|e|e <;>omega);have HAA:=zz (HARW.out A hf2);have HX:=zz (And.intro (HALL.out.1 x.strip hxm) (HALL.out.2 x.strip hxm));have e0:=cell_of_row A blk 0 _ _ (0,0) hb;have e4:=cell_of_row A blk 4 _ _ (0,0) hb;have eB:=cell_of_row A w.heap.size 0 _ _ (0,0) hbx;have hbl:=(Array.getElem?_eq_some_iff.1 hb).1;have hBl:=(Array.getElem?_eq_some_iff.1 hbx).1;simp at e0 e4 eB;have hnx:¬(fun _:Nat=>False) w.heap.size:=fun h=>h;have hnr:¬(fun _:Nat=>False) (w.heap.size+1):=fun h=>h;generalize hnd:x.nd=nd at e0 e4;generalize hxi:x.id=xi;have hX:xi < Ae∧(nd.kind=15∨nd.kind=7→∃R,Fs M par F2 xi [] []=some R∧0≤idxI R nd.ref∧R.length≤1000000):=by
   have:=HX.out;rw[←hnd,←hxi];exact this
  have hHeld:(fun w'=>w'.cell? ⟨w.heap.size,0,none⟩=some (.pointer (some ⟨ab,0,none⟩))∧w'.cell? ⟨blk,0,none⟩=some (.int .u8 (nd.kind:Int))∧w'.cell? ⟨blk,4,none⟩=some (.int .u64 (nd.ref:Int))) A.drew:=⟨eB,e0,e4⟩;clear HX hpre hf hf2 hxm;gi_wp2;by_cases hk:nd.kind=15∨nd.kind=7
  ·obtain⟨R,hR,hix,hRl⟩:=hX.2 hk
   have hdi:decide (0≤idxI R nd.ref)=true:=by simpa using hix
   have TS:=zz (Vj ab M par HP.out xi F2 R A.drew (HAA.out.below (Below.refl _ _).drew) hX.1 hR hF2);by_cases k15:nd.kind=15
   ·have q15:((nd.kind:Int)==15)=true:=by simp[k15]
    clear hk k15 hR hix;refine Bq (fun w'=>w'.cell? ⟨w.heap.size,0,none⟩=some (.pointer (some ⟨ab,0,none⟩))∧w'.cell? ⟨blk,0,none⟩=some (.int .u8 (nd.kind:Int))∧w'.cell? ⟨blk,4,none⟩=some (.int .u64 (nd.ref:Int))) 16 (by kernel_rfl) (by kernel_rfl) (by rintro⟨_,_,h⟩;exact h) ?_;refine tz 0 _ _ _ ?_;refine tz 1 _ _ _ ?_;refine tz 2 _ _ _ ?_;refine tz 3 _ _ _ ?_;refine Au (i:=4) rfl (by kernel_rfl) (fun _ _ _ h=>h) (by assumption) (Or.inr ⟨by rfl,rfl⟩) ?_
    try simp only[Act.put,sA,sB,sC,sD,sE,sF]
    refine Au (i:=5) rfl (by kernel_rfl) (fun _ _ _ h=>h) (by assumption) (Or.inr ⟨by rfl,rfl⟩) ?_
    try simp only[Act.put,sA,sB,sC,sD,sE,sF]
    refine Au (i:=6) rfl (by kernel_rfl) (fun _ _ _ h=>h) (by assumption) (Or.inr ⟨by rfl,rfl⟩) ?_
    try simp only[Act.put,sA,sB,sC,sD,sE,sF]
    refine tz 7 _ _ _ ?_;refine tz 8 _ _ _ ?_;refine tz 9 _ _ _ ?_;refine tz 10 _ _ _ ?_;refine tz 12 _ _ _ ?_;refine tz 13 _ _ _ ?_;refine AB (i:=11) rfl (by kernel_rfl) (fun K hK=> ?_);go_simp;refine TS.out.mono ?_;rintro e W5 ⟨⟨v5,rfl,ho5⟩,hb5⟩;have HO5:=zz ho5;have HB5:=zz hb5;clear ho5 TS;refine hK.out _ _ (⟨(hb5.cell (p:=⟨w.heap.size,0,none⟩) hBl).trans hHeld.1,(hb5.cell (p:=⟨blk,0,none⟩) hbl).trans hHeld.2.1,(hb5.cell (p:=⟨blk,4,none⟩) hbl).trans hHeld.2.2⟩) (fun hHeld=> ?_);clear hK K
    try simp only[Act.put,sA,sB,sC,sD,sE,sF]
    refine AB (i:=14) rfl (by kernel_rfl) (fun K hK=> ?_);go_simp;have TC:=KJ W5.heap.size v5 R nd.ref W5 (Sl.AX HO5.out) (by omega) hRl;rw[hdi] at TC;refine TC.mono ?_;rintro e W6 ⟨rfl,rfl⟩;refine hK.out _ _ (hHeld) (fun hHeld=> ?_);clear hK K
    try simp only[Act.put,sA,sB,sC,sD,sE,sF]
    refine tz 15 _ _ _ ?_;refine AL (by kernel_rfl) ?_;simp only[List.drop_succ_cons,List.drop_zero];have HFA:Fr (fun _=>False) A W5:=(Fr.refl _ A).drew.trans (Fr.of_below HB5.out);have HFR:=zz HFA;clear HFA;go_wp2;gi_wp2;exact⟨S0,⟨HFR.out.at_ hbx hnx,⟨r0,HFR.out.at_ hbr hnr⟩,hSv⟩,HFR.out.imp (fun q _ e=>e.elim),fun q h=> .inl ((hS q).2 (.inl h))⟩
   ·have q15:((nd.kind:Int)==15)=false:=by simp;omega
    have q7:((nd.kind:Int)==7)=true:=by
     have:nd.kind=7:=by omega
     simp[this]
    clear hk k15 hR hix;refine Bq (fun w'=>w'.cell? ⟨w.heap.size,0,none⟩=some (.pointer (some ⟨ab,0,none⟩))∧w'.cell? ⟨blk,0,none⟩=some (.int .u8 (nd.kind:Int))∧w'.cell? ⟨blk,4,none⟩=some (.int .u64 (nd.ref:Int))) 16 (by kernel_rfl) (by kernel_rfl) (by rintro⟨_,_,h⟩;exact h) ?_;refine tz 0 _ _ _ ?_;refine tz 1 _ _ _ ?_;refine tz 2 _ _ _ ?_;refine tz 3 _ _ _ ?_;refine tz 4 _ _ _ ?_;refine tz 5 _ _ _ ?_;refine tz 6 _ _ _ ?_;refine tz 7 _ _ _ ?_;refine tz 8 _ _ _ ?_;refine tz 9 _ _ _ ?_;refine tz 10 _ _ _ ?_;refine tz 12 _ _ _ ?_;refine tz 13 _ _ _ ?_;refine AB (i:=11) rfl (by kernel_rfl) (fun K hK=> ?_);go_simp;refine TS.out.mono ?_;rintro e W5 ⟨⟨v5,rfl,ho5⟩,hb5⟩;have HO5:=zz ho5;have HB5:=zz hb5;clear ho5 TS;refine hK.out _ _ (⟨(hb5.cell (p:=⟨w.heap.size,0,none⟩) hBl).trans hHeld.1,(hb5.cell (p:=⟨blk,0,none⟩) hbl).trans hHeld.2.1,(hb5.cell (p:=⟨blk,4,none⟩) hbl).trans hHeld.2.2⟩) (fun hHeld=> ?_);clear hK K
    try simp only[Act.put,sA,sB,sC,sD,sE,sF]
    refine AB (i:=14) rfl (by kernel_rfl) (fun K hK=> ?_);go_simp;have TC:=KJ W5.heap.size v5 R nd.ref W5 (Sl.AX HO5.out) (by omega) hRl;rw[hdi] at TC;refine TC.mono ?_;rintro e W6 ⟨rfl,rfl⟩;refine hK.out _ _ (hHeld) (fun hHeld=> ?_);clear hK K
    try simp only[Act.put,sA,sB,sC,sD,sE,sF]
    refine tz 15 _ _ _ ?_;refine AL (by kernel_rfl) ?_;simp only[List.drop_succ_cons,List.drop_zero];have HFA:Fr (fun _=>False) A W5:=(Fr.refl _ A).drew.trans (Fr.of_below HB5.out);have HFR:=zz HFA;clear HFA;go_wp2;gi_wp2;exact⟨S0,⟨HFR.out.at_ hbx hnx,⟨r0,HFR.out.at_ hbr hnr⟩,hSv⟩,HFR.out.imp (fun q _ e=>e.elim),fun q h=> .inl ((hS q).2 (.inl h))⟩
  ·have q15:((nd.kind:Int)==15)=false:=by simp;omega
   have q7:((nd.kind:Int)==7)=false:=by simp;omega
   clear hk;refine Bq (fun w'=>w'.cell? ⟨w.heap.size,0,none⟩=some (.pointer (some ⟨ab,0,none⟩))∧w'.cell? ⟨blk,0,none⟩=some (.int .u8 (nd.kind:Int))∧w'.cell? ⟨blk,4,none⟩=some (.int .u64 (nd.ref:Int))) 16 (by kernel_rfl) (by kernel_rfl) (by rintro⟨_,_,h⟩;exact h) ?_;refine tz 0 _ _ _ ?_;refine tz 1 _ _ _ ?_;refine tz 2 _ _ _ ?_;refine tz 3 _ _ _ ?_;refine tz 4 _ _ _ ?_;refine tz 5 _ _ _ ?_;refine tz 6 _ _ _ ?_;refine tz 7 _ _ _ ?_;refine tz 8 _ _ _ ?_;refine Au (i:=9) rfl (by kernel_rfl) (fun _ _ _ h=>h) (by assumption) (Or.inr ⟨by rfl,rfl⟩) ?_
   try simp only[Act.put,sA,sB,sC,sD,sE,sF]
   refine Au (i:=10) rfl (by kernel_rfl) (fun _ _ _ h=>h) (by assumption) (Or.inr ⟨by rfl,rfl⟩) ?_
   try simp only[Act.put,sA,sB,sC,sD,sE,sF]
   refine Au (i:=11) rfl (by kernel_rfl) (fun _ _ _ h=>h) (by assumption) (Or.inr ⟨by rfl,rfl⟩) ?_
   try simp only[Act.put,sA,sB,sC,sD,sE,sF]
   refine Au (i:=12) rfl (by kernel_rfl) (fun _ _ _ h=>h) (by assumption) (Or.inr ⟨by rfl,rfl⟩) ?_
   try simp only[Act.put,sA,sB,sC,sD,sE,sF]
   refine Au (i:=13) rfl (by kernel_rfl) (fun _ _ _ h=>h) (by assumption) (Or.inr ⟨by rfl,rfl⟩) ?_
   try simp only[Act.put,sA,sB,sC,sD,sE,sF]
   refine Au (i:=14) rfl (by kernel_rfl) (fun _ _ _ h=>h) (by assumption) (Or.inr ⟨by rfl,rfl⟩) ?_
   try simp only[Act.put,sA,sB,sC,sD,sE,sF]
   refine Au (i:=15) rfl (by kernel_rfl) (fun _ _ _ h=>h) (by assumption) (Or.inr ⟨by rfl,rfl⟩) ?_
   try simp only[Act.put,sA,sB,sC,sD,sE,sF]
   refine AL (by kernel_rfl) ?_;simp only[List.drop_succ_cons,List.drop_zero];have HFA:Fr (fun _=>False) A A.drew:=(Fr.refl _ A).drew;have HFR:=zz HFA;clear HFA;go_wp2;gi_wp2;exact⟨S0,⟨HFR.out.at_ hbx hnx,⟨r0,HFR.out.at_ hbr hnr⟩,hSv⟩,HFR.out.imp (fun q _ e=>e.elim),fun q h=> .inl ((hS q).2 (.inl h))⟩
 case done=>
  rintro S ys W hys ⟨hbx,⟨r0,hbr⟩,hSv⟩ hK hnS hf;have eB:=cell_of_row W (w.heap.size+1) 0 _ _ (0,0) hbr;simp at eB;have fB:W.frozen? ⟨w.heap.size+1,0,none⟩=false:=by simp[World.frozen?,hbr]
  have hl2:=(Array.getElem?_eq_some_iff.1 hbr).1;have hne:¬w.heap.size+1=W1.heap.size:=by omega
  have hK2:(W.setCell ⟨w.heap.size+1,0,none⟩ (.bool false)).heap[W1.heap.size]? =some (.deferred (some [])):=(Below.heap_setCell W ⟨w.heap.size+1,0,none⟩ (.bool false) W1.heap.size (fun e=>hne e.symm)).trans hK;have hfs:=hf.set (p:=⟨w.heap.size+1,0,none⟩) (.inl (.inl (.inr rfl))) (.bool false);have hbs:(W.setCell ⟨w.heap.size+1,0,none⟩ (.bool false)).heap[w.heap.size+1]? =some (.cells #[.bool false] 4 (0,0)):=heap_setCell_same hbr _;have hpf:=DY (W.setCell ⟨w.heap.size+1,0,none⟩ (.bool false)) W1.heap.size (.deferred none);have hcell:((W.setCell ⟨w.heap.size+1,0,none⟩ (.bool false)).putObj W1.heap.size (.deferred none)).cell? ⟨w.heap.size+1,0,none⟩=some (.bool false):=by
   have:=cell_of_row _ (w.heap.size+1) 0 _ _ (0,0) (hpf.at_ hbs hne);simpa using this
  have HFIN:=zz (show Below w.heap.size w ((W.setCell ⟨w.heap.size+1,0,none⟩ (.bool false)).putObj W1.heap.size (.deferred none)) from by
   have h1:=HB1.out.trans ((hfs.imp (D':=fun q=>w.heap.size≤q) (fun q _ e=>by rcases e with(e|e)|e|e <;>omega)).below' (by omega));exact h1.trans ((hpf.imp (D':=fun q=>w.heap.size≤q) (fun q _ e=>by omega)).below' h1.size))
  clear hbx hbr hSv hf hfs hbs hpf;gi_wp2;refine⟨by simp,.inl ⟨_,_,rfl,run_takeDeferred hK2, ?_⟩⟩;refine⟨.bool false, ?_,rfl,HFIN.out⟩
  simp[results,Tryz.results47,go_sem,hcell]
 case stop=>
  intro c S pre W hpre h;exact h.elim
end Go.Proofs.YtljmibnfmilfbaaGreatDoor
namespace Hg
def MI(M:Nat→Option Node)(n:Node):List Nat:=if n.num≤9 then[1,1] else if n.num≤11 then[Dh M (n.kids.getD 0 0),Dh M (n.kids.getD 0 0)] else[2,2]
def De(M:Nat→Option Node)(abv:Nat→Nat)(id:Nat)(n:Node):List Nat:=
 if n.kind=6 then[n.type]
 else if n.kind=7 then[(ndAt M n.ref).type]
 else if n.kind=8∨n.kind=9∨n.kind=16 then[2]
 else if n.kind=17 then[1]
 else if n.kind=10 then[(ndAt M (abv id)).type]
 else if n.kind=18 then MI M n
 else if n.kind=19 then(CS M n.ref 4).map fun p=>(ndAt M p).type
 else[]
end Hg
namespace Go.Proofs.YtljmibnfmilfbaaGreatDoor
open Go.RowKit
open Hg (GT gl wk isK ndAt CS KB Dh MI De)
theorem R6:(Tryz.prog.info? 5).map (fun i=>(i.zero,i.size,i.bytes))=some (some (.int .u8 0),1,1):=by kernel_rfl
@[reducible] def u8V(t:Nat):Value:= .int .u8 (t:Int)
def Lp(w:World)(l:List Nat)(e:Ending)(w':World):Prop:=(∃v,e= .returned v∧w'.ownsRow w.heap.size 5 1 v l.length (l.map u8V))∧Below w.heap.size w w'
theorem GG{w w1:World}{k:Nat}(hb:Below w.heap.size w w1)(t:Nat)(hk:w1.heap.size=k):Lp w [t] (.returned (.slice (some ⟨k,0,none⟩) 1 1)) (w1.alloc (.cells #[u8V t] 5)):=by
 subst hk;exact⟨⟨_,rfl,⟨rfl,.inr ⟨w1.heap.size,1,#[u8V t],rfl,hb.size,heap_alloc_new w1 _,Nat.le_refl _,by unfold maxLen;omega,rfl,rfl⟩⟩⟩,hb.alloc hb.size _⟩
theorem NC{w w1:World}{k:Nat}(hb:Below w.heap.size w w1)(s t:Nat)(hk:w1.heap.size=k):Lp w [s,t] (.returned (.slice (some ⟨k,0,none⟩) 2 2)) (w1.alloc (.cells #[u8V s,u8V t] 5)):=by
 subst hk;exact⟨⟨_,rfl,⟨rfl,.inr ⟨w1.heap.size,2,#[u8V s,u8V t],rfl,hb.size,heap_alloc_new w1 _,Nat.le_refl _,by unfold maxLen;omega,rfl,rfl⟩⟩⟩,hb.alloc hb.size _⟩
theorem Vs(ab:Nat)(M:Nat→Option Hg.Node)(n:Hg.Node)(ka:Option Addr)(kc:Nat)(w:World)(hA:ArOk w ab M)(hs:Sl w w.heap.size (.slice ka n.kids.length kc) n.kids.length (n.kids.map idV))(hk:0 < n.kids.length)(h0:n.kids.getD 0 0 < Ae)(href:(ndAt M (n.kids.getD 0 0)).ref < Ae):
 Calls Tryz.prog 124 #[.pointer (some ⟨ab,0,none⟩),ndV n ka kc] w (Lp w (MI M n)):=by
 generalize hr:MI M n=r;unfold MI at hr;have hba:Below w.heap.size w (w.alloc (.cells (AA n ka kc) 33)):=(Below.refl _ _).alloc (Nat.le_refl _) _;have HB:=zz hba;have TT:=zz (Lu ab M (n.kids.getD 0 0) _ (hA.below hba) h0 href);obtain⟨b,o,rfl,hbl,kcl⟩:=hs.mapAt hk;have hg0:n.kids[0]=n.kids.getD 0 0:=by simp[List.getD,hk]
 rw[hg0,Nat.add_zero] at kcl;generalize n.kids.getD 0 0=x at kcl TT hr h0 href;clear hA hs hg0;by_cases h9:n.num≤9
 ·rw[if_pos h9] at hr
  subst hr;go_enter Tryz.func124,Tryz.ntmps124;go_wp2;go_ret;exact NC HB.out 1 1 (by simp)
 ·rw[if_neg h9] at hr
  by_cases h11:n.num≤11
  ·rw[if_pos h11] at hr
   subst hr;go_enter Tryz.func124,Tryz.ntmps124;go_wp2_with fail;refine TT.out.mono ?_;rintro e w1 ⟨rfl,hb1⟩;have HB1:=zz (HB.out.trans (hb1.mono HB.out.size));clear TT hb1;go_wp2;go_ret;exact NC HB1.out _ _ (by simp)
  ·rw[if_neg h11] at hr
   subst hr;clear TT;go_enter Tryz.func124,Tryz.ntmps124;go_wp2;go_ret;exact NC HB.out 2 2 (by simp)
structure Tf (M:Nat→Option Hg.Node) (abv:Nat→Nat):Prop where
 zero:M 0=none
 kind:∀i n,M i=some n→n.kind≤255
 dec:∀i n p k,M i=some n→ET M i (fun i=>i < Ae) p k→p < i∨p=0
 chain:∀id,id≤1000000→JR M 3 id (abv id)
 lt:∀id,abv id < Ae
theorem Ti(ab:Nat)(M:Nat→Option Hg.Node)(abv:Nat→Nat)(hV:Tf M abv)(id:Nat)(n:Hg.Node)(ka:Option Addr)(kc:Nat)(w:World)(hA:ArOk w ab M)(hid:id≤1000000)(hs:Sl w w.heap.size (.slice ka n.kids.length kc) n.kids.length (n.kids.map idV))(href:n.ref < Ae)
 (hb18:n.kind=18→0 < n.kids.length∧n.kids.getD 0 0 < Ae∧(ndAt M (n.kids.getD 0 0)).ref < Ae):
 Calls Tryz.prog 81 #[.pointer (some ⟨ab,0,none⟩),idV id,ndV n ka kc] w (Lp w (De M abv id n)):=by
 obtain⟨i0,hi0,hz0,hz1,hz2⟩:=info_parts R6;generalize hr:De M abv id n=r;unfold De at hr;have hba:Below w.heap.size w (w.alloc (.cells (AA n ka kc) 33)):=(Below.refl _ _).alloc (Nat.le_refl _) _;have HA:=zz hA;have HV:=zz hV;have HS:=zz hs;have H18:=zz hb18;have TG:=zz ((hA.below hba).getN href);have HB:=zz hba;have HR:=zz hr;have hnew:=heap_alloc_new w (.cells (AA n ka kc) 33);clear hA hs hb18 hba hV hr;go_enter Tryz.func81,Tryz.ntmps81;go_wp2_with fail;refine TG.out.mono ?_;rintro e w1 ⟨ka1,kc1,rfl,ho1,hb1⟩;have hw1:w1.heap[w.heap.size]? =some (.cells (AA n ka kc) 33 (0,0)):=(hb1.block _ (by simp)).trans hnew;have hlw:w.heap.size < w1.heap.size:=(Array.getElem?_eq_some_iff.1 hw1).1;have e0:=cell_of_row w1 w.heap.size 0 _ _ (0,0) hw1;have e1:=cell_of_row w1 w.heap.size 1 _ _ (0,0) hw1;have e2:=cell_of_row w1 w.heap.size 2 _ _ (0,0) hw1;have e3:=cell_of_row w1 w.heap.size 3 _ _ (0,0) hw1;have e4:=cell_of_row w1 w.heap.size 4 _ _ (0,0) hw1;have e5:=cell_of_row w1 w.heap.size 5 _ _ (0,0) hw1;simp at e0 e1 e2 e3 e4 e5;have HB1:=zz (HB.out.trans (hb1.mono HB.out.size));have HB2:=zz (HB1.out.alloc HB1.out.size (.cells (AA (ndAt M n.ref) ka1 kc1) 33));clear TG ho1 hb1 hnew hw1;generalize hto:ndAt M n.ref=tn at HR HB2⊢;have HTO:=zz hto;clear hto;obtain⟨kd,hkd⟩:∃kd,n.kind=kd:=⟨_,rfl⟩;rw[hkd] at e0;have H18b:=zz (show kd=18→0 < n.kids.length∧n.kids.getD 0 0 < Ae∧(ndAt M (n.kids.getD 0 0)).ref < Ae from fun h=>H18.out (hkd.trans h));rw[hkd] at HR;have HKD:=zz hkd;clear H18 hkd;by_cases k6:kd=6
 ·subst k6
  go_wp2;go_ret;have hr:=HR.out;simp at hr;subst hr;exact GG HB2.out _ (by simp)
 by_cases k7:kd=7
 ·subst k7
  go_wp2;go_ret;have hr:=HR.out;simp at hr;subst hr;exact GG HB2.out _ (by simp)
 by_cases k8:kd=8
 ·subst k8
  go_wp2;go_ret;have hr:=HR.out;simp at hr;subst hr;exact GG HB2.out _ (by simp)
 by_cases k9:kd=9
 ·subst k9
  go_wp2;go_ret;have hr:=HR.out;simp at hr;subst hr;exact GG HB2.out _ (by simp)
 by_cases k16:kd=16
 ·subst k16
  go_wp2;go_ret;have hr:=HR.out;simp at hr;subst hr;exact GG HB2.out _ (by simp)
 by_cases k17:kd=17
 ·subst k17
  go_wp2;go_ret;have hr:=HR.out;simp at hr;subst hr;exact GG HB2.out _ (by simp)
 by_cases k10:kd=10
 ·subst k10
  obtain⟨⟨mb,cc,hAr⟩,hkb⟩:=HA.out;have TA:=zz (VM ab mb cc M 3 id (abv id) (w1.alloc (.cells (AA tn ka1 kc1) 33)) (hAr.below HB2.out (Nat.le_refl _)) HV.out.zero hid HV.out.kind (by decide) HV.out.dec (HV.out.chain id hid));clear hAr hkb;go_wp2_with fail;refine TA.out.mono ?_;rintro e w3 ⟨rfl,hb3⟩;have HB3:=zz (HB2.out.trans (hb3.mono HB2.out.size));have TG2:=zz ((HA.out.below HB3.out).getN (HV.out.lt id));clear TA hb3;go_wp2_with fail;refine TG2.out.mono ?_;rintro e w4 ⟨ka4,kc4,rfl,ho4,hb4⟩;have HB4:=zz (HB3.out.trans (hb4.mono HB3.out.size));have HB5:=zz (HB4.out.alloc HB4.out.size (.cells (AA (ndAt M (abv id)) ka4 kc4) 33));clear TG2 ho4 hb4;go_wp2;go_ret;have hr:=HR.out;simp at hr;subst hr;exact GG HB5.out _ (by simp)
 by_cases k18:kd=18
 ·subst k18
  obtain⟨h1,h2,h3⟩:=H18b.out rfl;have hsW:=(HS.out.below HB2.out (Nat.le_refl _)).more HB2.out.size;have TPR:=zz (Vs ab M n ka kc (w1.alloc (.cells (AA tn ka1 kc1) 33)) (HA.out.below HB2.out) hsW h1 h2 h3);have hnk:n.kind=18:=HKD.out;have hq:(n.kind:Int)=18:=by omega
  rw[show ndV n ka kc= .agg #[.int .u8 18,strV n.name,.int .i64 n.num,.int .u8 (n.type:Int),.int .u64 (n.ref:Int),.slice ka n.kids.length kc] from by simp[ndV,hq]] at TPR;clear hsW h1 h2 h3 hq hnk;go_wp2_with fail;refine TPR.out.mono ?_;rintro e w3 ⟨⟨v,rfl,ho3⟩,hb3⟩;have HO3:=zz (Cm ho3 (show w.heap.size≤_ from HB2.out.size));have HB3:=zz (HB2.out.trans (hb3.mono HB2.out.size));clear TPR ho3 hb3;go_wp2;go_ret;have hr:=HR.out;simp only[show¬(18:Nat)=6 by decide,show¬(18:Nat)=7 by decide,show¬((18:Nat)=8∨(18:Nat)=9∨(18:Nat)=16) by decide,show¬(18:Nat)=17 by decide,show¬(18:Nat)=10 by decide,if_false,if_true] at hr;subst hr;exact⟨⟨v,rfl,HO3.out⟩,HB3.out⟩
 by_cases k19:kd=19
 ·subst k19
  have hr:=HR.out;simp only[show¬(19:Nat)=6 by decide,show¬(19:Nat)=7 by decide,show¬((19:Nat)=8∨(19:Nat)=9∨(19:Nat)=16) by decide,show¬(19:Nat)=17 by decide,show¬(19:Nat)=10 by decide,show¬(19:Nat)=18 by decide,if_false,if_true] at hr;have HR2:=zz hr;have TK:=zz (J6 ab M n.ref 4 (w1.alloc (.cells (AA tn ka1 kc1) 33)) (HA.out.below HB2.out) href);have hkl:=HA.out.lenK n.ref 4;have HKI:=zz (HA.out.2.kids n.ref 4);generalize CS M n.ref 4=ps at TK hkl HKI HR2;clear hr HR H18b;go_wp2_with fail;refine TK.out.mono ?_;rintro e w3 ⟨⟨v,rfl,ho3⟩,hb3⟩;obtain⟨a3,c3,rfl⟩:=(Sl.AX ho3).form;have HS3:=zz (Sl.AX ho3);have HB3:=zz (HB2.out.trans (hb3.mono HB2.out.size));clear TK ho3 hb3 e0 e1 e2 e3 e4 e5;go_wp2
  go_loopw [11,68] (fun p q wr=>∃(k:Nat) (u:Value),p=u∧q= .int .i64 (k:Int)∧k≤ps.length∧wr.ownsRow w3.heap.size 5 1 u k ((ps.take k).map (fun x=>u8V (ndAt M x).type))∧Below w3.heap.size w3 wr) (fun _ q wr=>ps.length-(intOf q).toNat)
  case atStart=>exact⟨0,_,rfl,rfl,Nat.zero_le _,⟨rfl,.inl ⟨rfl,rfl⟩⟩,Below.refl _ _⟩
  case round=>
   obtain⟨k,u,hu,rfl,hk,ho,hb⟩:=hrel;have hu:=hu.symm;subst hu;have HBr:=zz hb;have HO:=zz ho;by_cases hlt:k < ps.length
   ·obtain⟨b,o,rfl,_,kcx⟩:=(HS3.out.below HBr.out (Nat.le_refl _)).mapAt hlt
    have TN:=zz ((HA.out.below (HB3.out.trans (hb.mono HB3.out.size))).getN (HKI.out _ (List.getElem_mem hlt)));have htk:ps.take (k+1)=ps.take k++[ps[k]]:=List.take_succ_eq_append_getElem hlt;generalize ps[k]=x at kcx TN htk;have HTK:=zz htk;clear hb ho htk;go_wp2_with fail;refine TN.out.mono ?_;rintro e w4 ⟨ka4,kc4,rfl,ho4,hb4⟩;have HB4:=zz ((HBr.out.trans (hb4.mono HBr.out.size)).alloc (by have:=hb4.size;have:=HBr.out.size;omega) (.cells (AA (ndAt M x) ka4 kc4) 33));have HO4:=zz ((Aa HO.out (Fr.of_below (D:=fun _=>False) hb4) (fun _ _ e=>e)).alloc (.cells (AA (ndAt M x) ka4 kc4) 33));have hsz:w3.heap.size≤w4.heap.size:=by have:=HBr.out.size;have:=hb4.size;omega
    clear ho4 hb4 TN
    go_wp2_with (at_builtin;refine wpList_append_own_at _ rfl (.tmp 78) (.tmp 81) _ rfl w3.heap.size 5 i0 _ 1 1 Tryz.underlying137 hi0 hz0 hz1 hz2 rfl (by decide) _ k ((ps.take k).map (fun x=>u8V (ndAt M x).type)) rfl (HO4.out.alloc _) ⟨w4.heap.size+1,0,none⟩ 1 1 [u8V (ndAt M x).type] rfl rfl ?_ ?_ ?_ ?_ ?_ ?_)
    all_goals first
     |intro v5 W5 own5 g5 _ at5
     |exact GD _ _ _ _
     |(unfold maxLen;omega)
     |omega
     |(simp;omega)
     |(intro u hu;simp only[List.mem_singleton] at hu;subst hu;rfl)
    have HO5:=zz (show W5.ownsRow w3.heap.size 5 1 v5 (k+1) ((ps.take (k+1)).map (fun x=>u8V (ndAt M x).type)) from by rw[HTK.out,List.map_append,List.map_take];exact own5);have HB5:=zz (show Below w3.heap.size w3 W5 from(HB4.out.alloc HB4.out.size _).grown g5 (by have:=HB4.out.size;simp at this⊢;omega) (fun q hq=>(HO4.out.lt q hq).1));clear own5 g5 at5;go_wp2;go_roundw
    case rel=>exact⟨k+1,v5,rfl,by go_num,by omega,HO5.out,HB5.out⟩
    case measure=>simp[intOf];omega
   ·obtain rfl:k=ps.length:=by omega
    rw[List.take_length] at ho;have HO2:=zz ho;clear hb ho;go_wp2;go_ret;have hr:=HR2.out;subst hr;refine⟨⟨_,rfl, ?_⟩,HB3.out.trans (HBr.out.mono HB3.out.size)⟩;rw[List.length_map,List.map_map];exact Cm HO2.out HB3.out.size
 have hq:∀m:Nat,kd≠m→((kd:Int)==(m:Int))=false:=fun m h=>by simpa using(show¬(kd:Int)=(m:Int) by omega)
 have q6:=hq 6 k6;have q7:=hq 7 k7;have q8:=hq 8 k8;have q9:=hq 9 k9;have q16:=hq 16 k16;have q17:=hq 17 k17;have q10:=hq 10 k10;have q18:=hq 18 k18;have q19:=hq 19 k19;have hr:=HR.out;rw[if_neg k6,if_neg k7,if_neg (by omega),if_neg k17,if_neg k10,if_neg k18,if_neg k19] at hr;subst hr;clear hq HR;go_wp2;go_ret;exact⟨⟨_,rfl,⟨rfl,.inl ⟨rfl,rfl⟩⟩⟩,HB2.out⟩
end Go.Proofs.YtljmibnfmilfbaaGreatDoor
namespace Hg
def okT(M:Nat→Option Node)(abv:Nat→Nat)(x:Nat×Node):Bool:=
 (!(x.2.kind==19)||(De M abv x.1 x.2).length==x.2.kids.length) && (De M abv x.1 x.2).zipIdx.all fun p=>Dh M (x.2.kids.getD p.2 0)==p.1
theorem Xi(M:Nat→Option Node)(abv:Nat→Nat)(x:Nat×Node):okT M abv x=true↔(x.2.kind=19→(De M abv x.1 x.2).length=x.2.kids.length)∧∀i t,(De M abv x.1 x.2)[i]? =some t→Dh M (x.2.kids.getD i 0)=t:=by
 unfold okT;rw[Bool.and_eq_true,List.all_eq_true];constructor
 ·rintro⟨h1,h2⟩
  refine⟨fun hk=> ?_,fun i t hi=> ?_⟩
  ·rw[hk] at h1
   simpa using h1
  ·have:=h2 (t,i) (List.mem_zipIdx_iff_getElem?.2 hi)
   simpa using this
 ·rintro⟨h1,h2⟩
  refine⟨?_,fun p hp=> ?_⟩
  ·by_cases hk:x.2.kind=19
   ·simp[hk,h1 hk]
   ·simp[hk]
  ·obtain⟨t,i⟩:=p
   have:=h2 i t (List.mem_zipIdx_iff_getElem?.1 hp);simpa using this
def RB(M:Nat→Option Node):Prop:=∀i nd,M i=some nd→nd.ref < 18446744073709551616
theorem RB.at{M:Nat→Option Node}(h:RB M)(i:Nat):(ndAt M i).ref < 18446744073709551616:=by
 unfold ndAt;cases hM:M i with
 |none=>simp[Node.zero]
 |some nd=>exact h i nd hM
theorem Lr(M:Nat→Option Node):∀(f:Nat) (s seen:List Nat) (r:List (Nat×Node)),wk M f s seen=some r→∀x∈r,M x.1=some x.2
 |0,_,_,_,h=>by cases h
 |f+1,[],_,r,h=>by rw[Qx] at h;injection h with h;subst h;intro x hx;simp at hx
 |f+1,i::s,seen,r,h=>by
   rw[D7] at h;cases hM:M i with
   |none=>rw[hM] at h;exact Lr M f s seen r h
   |some n=>
     rw[hM] at h;dsimp only at h;by_cases hi:i∈seen
     ·rw[if_pos hi] at h;exact Lr M f s seen r h
     ·rw[if_neg hi] at h
      cases hw:wk M f (n.kids++s) (i::seen) with
      |none=>rw[hw] at h;cases h
      |some r'=>
        rw[hw] at h;have h:(i,n)::r'=r:=Option.some.inj h;intro x hx;rw[←h] at hx;rcases List.mem_cons.1 hx with e|e
        ·subst e;exact hM
        ·exact Lr M f _ _ r' hw x e
end Hg
namespace Go.Proofs.YtljmibnfmilfbaaGreatDoor
open Go.RowKit
open Hg (GT gl wk isK ndAt CS KB Dh MI De okT RB)
attribute [local go_sem] Oper.semAt_some
def typA(p1 p2 p3 p4:Value)(a:Act):Prop:=∃u0 u5 u6 u7 u8 u9 u10 u11 u12 u13 u14 u15 u16 u17 u18 u19 u20 u21 u22 u23 u24 u25 u26 u27 u28 u29 u30 u31 u32 u33 u34 u35 u36 u37 u38 u39 u40 u41 u42 u43 u44 u45:Value,a={tmps:= #[u0,p1,p2,p3,p4,u5,u6,u7,u8,u9,u10,u11,u12,u13,u14,u15,u16,u17,u18,u19,u20,u21,u22,u23,u24,u25,u26,u27,u28,u29,u30,u31,u32,u33,u34,u35,u36,u37,u38,u39,u40,u41,u42,u43,u44,u45],defers:=[]}
def TypR(ab B:Nat)(S:Nat→Prop)(x:Aj)(a:Act)(A:World):Prop:=
 ∃S0 blk,BoxI ab B S0 A∧typA (.pointer (some ⟨B,0,none⟩)) (.pointer (some ⟨B+1,0,none⟩)) (idV x.id) (.pointer (some ⟨blk,0,none⟩)) a∧A.heap[blk]? =some (.cells (AA x.nd x.ka x.kc) 33 (0,0))∧x.At A∧(∀q,S q↔S0 q∨q=blk)∧¬S0 blk
def TypX(M:Nat→Option Hg.Node)(abv:Nat→Nat)(xs:List (Nat×Hg.Node))(ab B:Nat)(c:Code)(S:Nat→Prop)(A:World):Prop:=c= .ret∧BoxI ab B S A∧A.heap[B+1]? =some (.cells #[.bool false] 4 (0,0))∧xs.all (okT M abv)=false
theorem Tp(ab:Nat)(M:Nat→Option Hg.Node)(abv:Nat→Nat)(hV:Tf M abv)(hRB:RB M)(F:Nat)(xs:List (Nat×Hg.Node))(w:World)(hA:ArOk w ab M)(hxs:wk M F [1] []=some xs)(hF:F≤1000000)(hid:∀x∈xs,x.1≤1000000)
 (h18:∀x∈xs,x.2.kind=18→0 < x.2.kids.length) (hidx:∀x∈xs,x.2.kind≠19→(De M abv x.1 x.2).length≤x.2.kids.length):
 Calls Tryz.prog 48 #[.pointer (some ⟨ab,0,none⟩)] w fun e w'=>e= .returned (.bool (xs.all (okT M abv)))∧Below w.heap.size w w':=by
 have HA:=zz hA;have HV:=zz hV;have HRB:=zz hRB;have HALL:=zz (And.intro hid (And.intro h18 hidx));have TW:=zz (Jl ab 1);have TR:=zz (IQ ab);have HMM:=zz (Hg.Lr M F _ _ _ hxs);clear hV hRB hid h18 hidx;refine(callsIn_wide (n:=5)).1 (callsIn_of_wp_marks Tryz.func48 rfl trivial ?_ rfl);simp only[Tryz.ntmps48,List.size_toArray,List.length_cons,List.length_nil,Nat.reduceAdd,Nat.reduceSub,Array.replicate_succ,Array.replicate_zero,List.push_toArray,List.append_toArray,List.nil_append,List.cons_append];gi_wp2;refine wpIn_wide.2 (Lb ?_);have hb0:Below w.heap.size w ((w.alloc (.cells #[.pointer (some ⟨ab,0,none⟩)] 27)).alloc (.cells #[.bool false] 4)):=((Below.refl _ _).alloc (Nat.le_refl _) _).alloc (by simp) _;have h0:((w.alloc (.cells #[.pointer (some ⟨ab,0,none⟩)] 27)).alloc (.cells #[.bool false] 4)).heap[w.heap.size]? =some (.cells #[.pointer (some ⟨ab,0,none⟩)] 27 (0,0)):=(heap_alloc_old _ _ (by simp)).trans (heap_alloc_new w _);have h1:((w.alloc (.cells #[.pointer (some ⟨ab,0,none⟩)] 27)).alloc (.cells #[.bool false] 4)).heap[w.heap.size+1]? =some (.cells #[.bool false] 4 (0,0)):=by
  have:=heap_alloc_new (w.alloc (.cells #[.pointer (some ⟨ab,0,none⟩)] 27)) (.cells #[.bool false] 4);rw[show(w.alloc (.cells #[.pointer (some ⟨ab,0,none⟩)] 27)).heap.size=w.heap.size+1 by simp] at this;exact this
 have hz:((w.alloc (.cells #[.pointer (some ⟨ab,0,none⟩)] 27)).alloc (.cells #[.bool false] 4)).heap.size=w.heap.size+2:=by simp
 generalize World.alloc (World.alloc w _) _=W0 at hb0 h0 h1 hz⊢;have e0:=cell_of_row W0 w.heap.size 0 _ _ (0,0) h0;simp at e0;have hHeld:(fun w'=>w'.cell? ⟨w.heap.size,0,none⟩=some (.pointer (some ⟨ab,0,none⟩))) W0.drew:=e0;refine AR (fun w'=>w'.cell? ⟨w.heap.size,0,none⟩=some (.pointer (some ⟨ab,0,none⟩))) 3 (by kernel_rfl) ?_;refine tz 0 _ _ _ ?_;refine tz 1 _ _ _ ?_;refine AB (i:=2) rfl (by kernel_rfl) (fun K hK=> ?_);go_simp;refine(TR.out _).mono ?_;rintro e w1 ⟨rfl,rfl⟩;refine hK.out _ _ (hHeld) (fun hHeld=> ?_);clear hK K
 try simp only[Act.put,sA,sB,sC,sD,sE,sF]
 refine AL (by kernel_rfl) ?_;simp only[List.drop_succ_cons,List.drop_zero];go_wp2_with fail;refine(TW.out _).mono ?_;rintro e w1 ⟨rfl,rfl⟩;have hz':W0.drew.heap.size=w.heap.size+2:=hz;rw[hz'];have hbW:Below W0.heap.size W0 ((W0.drew.alloc (.cells #[.pointer (some ⟨ab,0,none⟩)] 27)).alloc (.cells #[idV 1] 30)):=(((Below.refl _ _).drew).alloc (Nat.le_refl _) _).alloc (by simp) _;have k1:((W0.drew.alloc (.cells #[.pointer (some ⟨ab,0,none⟩)] 27)).alloc (.cells #[idV 1] 30)).heap[w.heap.size+2]? =some (.cells #[.pointer (some ⟨ab,0,none⟩)] 27 (0,0)):=by
  have:=heap_alloc_new W0.drew (.cells #[.pointer (some ⟨ab,0,none⟩)] 27);rw[hz'] at this;exact(heap_alloc_old _ _ (by simp[hz'])).trans this
 have k2:((W0.drew.alloc (.cells #[.pointer (some ⟨ab,0,none⟩)] 27)).alloc (.cells #[idV 1] 30)).heap[w.heap.size+2+1]? =some (.cells #[idV 1] 30 (0,0)):=by
  have:=heap_alloc_new (W0.drew.alloc (.cells #[.pointer (some ⟨ab,0,none⟩)] 27)) (.cells #[idV 1] 30);rw[show(W0.drew.alloc (.cells #[.pointer (some ⟨ab,0,none⟩)] 27)).heap.size=w.heap.size+2+1 by simp[hz']] at this;exact this
 have hzW:((W0.drew.alloc (.cells #[.pointer (some ⟨ab,0,none⟩)] 27)).alloc (.cells #[idV 1] 30)).heap.size=w.heap.size+4:=by simp[hz']
 generalize World.alloc (World.alloc W0.drew _) _=W1 at hbW k1 k2 hzW⊢;have g0:W1.heap[w.heap.size]? =some (.cells #[.pointer (some ⟨ab,0,none⟩)] 27 (0,0)):=(hbW.block _ (by omega)).trans h0;have g1:W1.heap[w.heap.size+1]? =some (.cells #[.bool false] 4 (0,0)):=(hbW.block _ (by omega)).trans h1;have hb1:Below w.heap.size w W1:=hb0.trans (hbW.mono (by omega));obtain⟨⟨mb,c,hAr⟩,hkb⟩:=HA.out;have hseq:=IK ab mb c M w.heap.size 1 (w.heap.size+2+1) (w.heap.size+2) F xs W1 (fun W' hf=>hAr.below (hb1.trans (hf.below' (by omega))) (Nat.le_refl _)) (cell_of_row W1 (w.heap.size+2+1) 0 _ _ (0,0) k2) (cell_of_row W1 (w.heap.size+2) 0 _ _ (0,0) k1) ⟨by omega,by omega,by omega,by omega⟩ (by decide) hkb hxs hF;have HB1:=zz hb1;have HARW:=zz (show∀W',Fr (fun q=>w.heap.size≤q) W1 W'→ArOk W' ab M from fun W' hf=>HA.out.below (hb1.trans (hf.below' (by omega))));clear hA hAr hkb k1 k2 hHeld h0 h1 hb0 hbW e0 TW TR hb1;go_wp2;gi_wp2;refine Gd (gf:=63) rfl (enters_of Tryz.func63 (by kernel_rfl) rfl) hseq (Fr.refl _ _) rfl (fun q h=>by rcases h with h|h <;>omega) (by omega)
  (fun S pre A=>BoxI ab w.heap.size S A∧(pre.map Aj.strip).all (okT M abv)=true) (fun c S _ A=>TypX M abv xs ab w.heap.size c S A) (fun S pre x a A=>TypR ab w.heap.size S x a A∧(pre.map Aj.strip).all (okT M abv)=true) (fun S pre A A' h hf=>⟨h.1.fr hf,h.2⟩) (fun c S pre A A' h hf=>⟨h.1,h.2.1.fr hf,hf.at_ h.2.2.1 (fun k=>k ((h.2.1.2.2 _).2 (.inr rfl))),h.2.2.2⟩) ?hI1 (fun S pre A h q hq=>(h.1.lt q hq).2) ?hI1l
  (fun q=>q=w.heap.size∨q=w.heap.size+1) ⟨⟨g0,⟨_,g1⟩,fun q=>Iff.rfl⟩,rfl⟩ (fun q e=>by rcases e with e|e <;>subst e <;>exact⟨by omega,by omega,by omega⟩) ?assign ?body ?done ?stop
 case hI1=>
  rintro S pre x a A A' ⟨⟨S0,blk,hi,ha,hb,hx,hS,hn⟩,hp⟩ hf;exact⟨⟨S0,blk,hi.fr (hf.imp (fun q _ h h'=>h (.inl ((hS q).2 (.inl h'))))),ha,hf.at_ hb (fun h=>h (.inl ((hS blk).2 (.inr rfl)))),(hx.fr (Nat.le_refl _) hf (fun q e h=>h (.inr e))).more hf.size,hS,hn⟩,hp⟩
 case hI1l=>
  rintro S pre x a A ⟨⟨S0,blk,hi,ha,hb,hx,hS,hn⟩,hp⟩ q hq;rcases(hS q).1 hq with h|h
  ·exact(hi.lt q h).2
  ·subst h;exact(Array.getElem?_eq_some_iff.1 hb).1
 case assign=>
  intro l m S pre x A K hi hpre hx hkb hf hK;gi_wp2;refine hK (fun q=>S q∨q=A.heap.size) _ _ ⟨⟨S,A.heap.size,hi.1.fr ((Fr.refl _ _).alloc _), ?_,heap_alloc_new A _,Sl.alloc hx (Nat.le_refl _) _|>.more (by simp),fun q=>Iff.rfl,fun h=>by have:=(hi.1.lt _ h).2;omega⟩,hi.2⟩ ((Fr.refl _ _).alloc _) (fun q h=>h.imp (fun h=>h) (fun h=>by omega));exact⟨_,_,_,_,_,_,_,_,_,_,_,_,_,_,_,_,_,_,_,_,_,_,_,_,_,_,_,_,_,_,_,_,_,_,_,_,_,_,_,_,_,_,rfl⟩
 case body=>
  rintro l m S pre x a1 A ⟨⟨S0,blk,⟨hbx,⟨r0,hbr⟩,hSv⟩,ha,hb,hx,hS,hn⟩,hpo⟩ hpre hf;obtain⟨u0,u5,u6,u7,u8,u9,u10,u11,u12,u13,u14,u15,u16,u17,u18,u19,u20,u21,u22,u23,u24,u25,u26,u27,u28,u29,u30,u31,u32,u33,u34,u35,u36,u37,u38,u39,u40,u41,u42,u43,u44,u45,rfl⟩:=ha;have hxm:x.strip∈xs:=hpre.subset (by simp);have hf2:Fr (fun q=>w.heap.size≤q) W1 A:=hf.imp (fun q _ e=>by rcases e with(e|e)|e|e <;>omega);have HAA:=zz (HARW.out A hf2);obtain⟨xi,nd,ka,kc⟩:=x;have hxm:(xi,nd)∈xs:=hxm;have hMx:=HMM.out _ hxm;have hkt:=HA.out.2 xi nd hMx;have hnl:=HA.out.len xi;unfold ndAt at hnl;rw[hMx] at hnl;have hnl:nd.kids.length≤1000000:=hnl;have TWn:=zz (Ti ab M abv HV.out xi nd ka kc A HAA.out (HALL.out.1 _ hxm) hx (HRB.out xi nd hMx) (fun h=>⟨HALL.out.2.1 _ hxm h,by
   have h0:=HALL.out.2.1 _ hxm h;have:nd.kids.getD 0 0∈nd.kids:=by
    rw[show nd.kids.getD 0 0=nd.kids[0] from by simp[List.getD,h0]];exact List.getElem_mem _
   exact hkt _ this,HRB.out.at _⟩))
  have hidx:=HALL.out.2.2 _ hxm;have hiff:=Hg.Xi M abv (xi,nd);dsimp only at hidx hiff;have HX:=zz (show Sl A A.heap.size (.slice ka nd.kids.length kc) nd.kids.length (nd.kids.map idV) from hx);have HBK:=zz (show A.heap[blk]? =some (.cells (AA nd ka kc) 33 (0,0)) from hb);have HBX:=zz (And.intro hbx hbr);have HSS:=zz (And.intro hSv hS);have HNO:=zz (show okT M abv (xi,nd)=false→xs.all (okT M abv)=false from fun h=>by
   rw[List.all_eq_false];exact⟨_,hxm,by rw[h];simp⟩)
  have HYES:=zz (show okT M abv (xi,nd)=true→((pre++[(⟨xi,nd,ka,kc⟩:Aj)]).map Aj.strip).all (okT M abv)=true from fun h=>by
   rw[List.map_append,List.all_append,hpo]
   simp[Aj.strip,h])
  have HKT:=zz hkt;have hwl:(De M abv xi nd).length≤1000000:=by
   have h4:=HAA.out.lenK nd.ref 4;unfold De MI
   repeat' split
   all_goals simp
   exact h4
  generalize De M abv xi nd=ws at TWn hidx hiff hwl;have e0:=cell_of_row A blk 0 _ _ (0,0) hb;have eB:=cell_of_row A w.heap.size 0 _ _ (0,0) hbx;have b1:=cell_of_row A blk 1 _ _ (0,0) hb;have b2:=cell_of_row A blk 2 _ _ (0,0) hb;have b3:=cell_of_row A blk 3 _ _ (0,0) hb;have b4:=cell_of_row A blk 4 _ _ (0,0) hb;have b5:=cell_of_row A blk 5 _ _ (0,0) hb;have hbl:=(Array.getElem?_eq_some_iff.1 hb).1;have hBl:=(Array.getElem?_eq_some_iff.1 hbx).1;have hRl:=(Array.getElem?_eq_some_iff.1 hbr).1;simp at e0 eB b1 b2 b3 b4 b5;have HIF:=zz hiff;have HID:=zz hidx;have HRET:=zz (show okT M abv (xi,nd)=false→∀W:World,Fr (fun _=>False) A W→∃S',TypX M abv xs ab w.heap.size .ret S' (W.setCell ⟨w.heap.size+1,0,none⟩ (.bool false))∧Fr S A (W.setCell ⟨w.heap.size+1,0,none⟩ (.bool false))∧∀q,S' q→S q∨A.heap.size≤q from fun hno W hf=>by
   have h1:W.heap[w.heap.size]? =some (.cells #[.pointer (some ⟨ab,0,none⟩)] 27 (0,0)):=hf.at_ hbx (fun h=>h);have h2:W.heap[w.heap.size+1]? =some (.cells #[r0] 4 (0,0)):=hf.at_ hbr (fun h=>h);have h3:(W.setCell ⟨w.heap.size+1,0,none⟩ (.bool false)).heap[w.heap.size+1]? =some (.cells #[.bool false] 4 (0,0)):=heap_setCell_same h2 _;exact⟨S0,⟨rfl,⟨(Below.heap_setCell W ⟨w.heap.size+1,0,none⟩ (.bool false) w.heap.size (by show¬w.heap.size=w.heap.size+1;omega)).trans h1,⟨_,h3⟩,hSv⟩,h3,HNO.out hno⟩,(hf.imp (fun q _ e=>e.elim)).set (p:=⟨w.heap.size+1,0,none⟩) (.inl ((hS _).2 (.inl ((hSv _).2 (.inr rfl))))) _,fun q h=> .inl ((hS q).2 (.inl h))⟩)
  have HGO:=zz (show okT M abv (xi,nd)=true→∀W:World,Fr (fun _=>False) A W→∃S',(BoxI ab w.heap.size S' W∧((pre++[(⟨xi,nd,ka,kc⟩:Aj)]).map Aj.strip).all (okT M abv)=true)∧Fr S A W∧∀q,S' q→S q∨A.heap.size≤q from fun hyes W hf=>
   ⟨S0,⟨⟨hf.at_ hbx (fun h=>h),⟨r0,hf.at_ hbr (fun h=>h)⟩,hSv⟩,HYES.out hyes⟩,hf.imp (fun q _ e=>e.elim),fun q h=> .inl ((hS q).2 (.inl h))⟩)
  clear hx hbx hbr hSv hS hn hb hpo hpre hf hf2 hxm hMx hkt hiff hidx;gi_wp2_with fail;refine⟨trivial,fun h=>(by cases h),(CallsIn.inRound l (callsIn_wide.2 TWn.out)).mono ?_⟩;rintro e W5 ⟨⟨v,rfl,ho5⟩,hb5⟩;obtain⟨a5,c5,rfl⟩:=(Sl.AX ho5).form;have HO5:=zz (Sl.AX ho5);have HB5:=zz hb5;have w0:W5.heap[blk]? =some (.cells (AA nd ka kc) 33 (0,0)):=(hb5.block blk hbl).trans HBK.out;have d0:=cell_of_row W5 blk 0 _ _ (0,0) w0;have d5:=cell_of_row W5 blk 5 _ _ (0,0) w0;have wr5:W5.heap[w.heap.size+1]? =some (.cells #[r0] 4 (0,0)):=(hb5.block _ hRl).trans HBX.out.2;have dr:=cell_of_row W5 (w.heap.size+1) 0 _ _ (0,0) wr5;have fr5:W5.frozen? ⟨w.heap.size+1,0,none⟩=false:=by simp[World.frozen?,wr5]
  simp at d0 d5 dr;have hl5:blk < W5.heap.size:=Nat.lt_of_lt_of_le hbl hb5.size;have hR5:w.heap.size+1 < W5.heap.size:=Nat.lt_of_lt_of_le hRl hb5.size;have HF5:=zz (Fr.of_below (D:=fun _=>False) hb5);clear TWn ho5 hb5 w0 wr5 e0 eB b1 b2 b3 b4 b5;by_cases hbad:nd.kind=19∧ws.length≠nd.kids.length
  ·have hk:((nd.kind:Int)==19)=true:=by simp[hbad.1]
   have hno:okT M abv (xi,nd)=false:=by
    rw[←Bool.not_eq_true];intro h;exact hbad.2 ((HIF.out.1 h).1 hbad.1)
   have hlq:((ws.length:Int) !=(nd.kids.length:Int))=true:=by simp;omega
   have hlq2:¬ws.length=nd.kids.length:=hbad.2;have HFIN:=zz (HRET.out hno W5 HF5.out);clear hbad hno;gi_wp2;exact HFIN.out
  have hle:ws.length≤nd.kids.length:=by
   by_cases h19:nd.kind=19
   ·have:ws.length=nd.kids.length:=by
     rcases Nat.lt_trichotomy ws.length nd.kids.length with h|h|h
     ·exact absurd ⟨h19,by omega⟩ hbad
     ·exact h
     ·exact absurd ⟨h19,by omega⟩ hbad
    omega
   ·exact HID.out h19
  have hrest:(nd.kind=19→ws.length=nd.kids.length):=fun h=>by
   rcases Nat.lt_trichotomy ws.length nd.kids.length with h'|h'|h'
   ·exact absurd ⟨h,by omega⟩ hbad
   ·exact h'
   ·exact absurd ⟨h,by omega⟩ hbad
  have HREST:=zz hrest;have hq19:((nd.kind:Int)==19)=false∨(((nd.kind:Int)==19)=true∧((ws.length:Int) !=(nd.kids.length:Int))=false∧ws.length=nd.kids.length):=by
   by_cases h:nd.kind=19
   ·exact .inr ⟨by simp[h],by simp[hrest h],hrest h⟩
   ·exact .inl (by simp;omega)
  clear hbad hrest;rcases hq19 with hq19|⟨hq19,hlq,hlq2⟩
  ·skip
   gi_wp2
   gi_loopw [31] (fun p wr=>∃i:Nat,p= .int .i64 (i:Int)∧i≤ws.length∧Below W5.heap.size W5 wr∧∀k t,k < i→ws[k]? =some t→Dh M (nd.kids.getD k 0)=t) (fun p wr=>ws.length-(intOf p).toNat)
   case atStart=>exact⟨0,rfl,Nat.zero_le _,Below.refl _ _,fun k t hk=>by omega⟩
   case round=>
    obtain⟨i,rfl,hi,hbr,hok⟩:=hrel;have HOK:=zz hok;have HBR:=zz hbr;by_cases hlt:i < ws.length
    ·obtain⟨b,o,rfl,_,kcw⟩:=(show Sl wr wr.heap.size (.slice a5 ws.length c5) ws.length (ws.map u8V) from(HO5.out.below hbr (Nat.le_refl _)).more hbr.size).mapAt hlt
     have hki:i < nd.kids.length:=by omega
     obtain⟨gk,ok,rfl,hgl,kck⟩:=HX.out.mapAt hki;have hkm:nd.kids[i]∈nd.kids:=List.getElem_mem hki;have hkl:=HKT.out _ hkm;have hgd:nd.kids.getD i 0=nd.kids[i]:=by simp[List.getD,hki]
     have hws:ws[i]? =some ws[i]:=List.getElem?_eq_getElem hlt;have hAk:ArOk wr.drew ab M:=HAA.out.below ((HB5.out.trans (hbr.mono HB5.out.size)).drew);have hrk:=HRB.out.at nd.kids[i];generalize nd.kids[i]=kid at kck hkl hgd hrk;generalize ws[i]=tw at kcw hws;have TT:=zz (Lu ab M kid wr.drew hAk hkl hrk);have hBr:w.heap.size < wr.heap.size:=by have:=hbr.size;omega
     have hbr5:blk < wr.heap.size:=by have:=hbr.size;omega
     have hgr:gk < wr.heap.size:=by have:=hbr.size;have:=HB5.out.size;omega
     have hbA:Below A.heap.size A wr:=HB5.out.trans (hbr.mono HB5.out.size);have q0:wr.cell? ⟨w.heap.size,0,none⟩=some (.pointer (some ⟨ab,0,none⟩)):=by
      have:=cell_of_row A w.heap.size 0 _ _ (0,0) HBX.out.1;rw[hbA.cell (p:=⟨w.heap.size,0,none⟩) hBl];simpa using this
     have q5:wr.cell? ⟨blk,5,none⟩=some (.slice (some ⟨gk,ok,none⟩) nd.kids.length kc):=by
      have:=cell_of_row A blk 5 _ _ (0,0) HBK.out;rw[hbA.cell (p:=⟨blk,5,none⟩) hbl];simpa using this
     have qk:wr.cell? ⟨gk,ok+i,none⟩=some (idV kid):=(hbA.cell (p:=⟨gk,ok+i,none⟩) hgl).trans kck;have wr6:wr.heap[w.heap.size+1]? =some (.cells #[r0] 4 (0,0)):=(hbA.block _ hRl).trans HBX.out.2;have HWR:=zz wr6;have HGD:=zz hgd;have HWS:=zz hws;have hHeld:(fun w'=>w'.cell? ⟨w.heap.size,0,none⟩=some (.pointer (some ⟨ab,0,none⟩))∧w'.cell? ⟨blk,5,none⟩=some (.slice (some ⟨gk,ok,none⟩) nd.kids.length kc)∧w'.cell? ⟨gk,ok+i,none⟩=some (idV kid)) wr.drew:=⟨q0,q5,qk⟩;clear hok hbr hAk hkm hbA hgd hws wr6 q0 q5 qk;gi_wp2;refine Bq (fun w'=>w'.cell? ⟨w.heap.size,0,none⟩=some (.pointer (some ⟨ab,0,none⟩))∧w'.cell? ⟨blk,5,none⟩=some (.slice (some ⟨gk,ok,none⟩) nd.kids.length kc)∧w'.cell? ⟨gk,ok+i,none⟩=some (idV kid)) 8 (by kernel_rfl) (by kernel_rfl) (by rintro⟨_,_,h⟩;exact h) ?_;refine tz 0 _ _ _ ?_;refine tz 1 _ _ _ ?_;refine tz 2 _ _ _ ?_;refine tz 3 _ _ _ ?_;refine tz 4 _ _ _ ?_;refine tz 5 _ _ _ ?_;refine tz 7 _ _ _ ?_;refine AB (i:=6) rfl (by kernel_rfl) (fun K hK=> ?_);go_simp;refine TT.out.mono ?_;rintro e W6 ⟨rfl,hb6⟩;have HB6:=zz hb6;clear TT;refine hK.out _ _ (⟨(hb6.cell (p:=⟨w.heap.size,0,none⟩) hBr).trans hHeld.1,(hb6.cell (p:=⟨blk,5,none⟩) hbr5).trans hHeld.2.1,(hb6.cell (p:=⟨gk,ok+i,none⟩) hgr).trans hHeld.2.2⟩) (fun hHeld=> ?_);clear hK K
     try simp only[Act.put,sA,sB,sC,sD,sE,sF]
     refine AL (by kernel_rfl) ?_;simp only[List.drop_succ_cons,List.drop_zero];have wr7:W6.heap[w.heap.size+1]? =some (.cells #[r0] 4 (0,0)):=(HB6.out.block _ (show w.heap.size+1 < wr.heap.size from(Array.getElem?_eq_some_iff.1 HWR.out).1)).trans HWR.out;have dr7:=cell_of_row W6 (w.heap.size+1) 0 _ _ (0,0) wr7;have fr7:W6.frozen? ⟨w.heap.size+1,0,none⟩=false:=by simp[World.frozen?,wr7]
     simp at dr7;have hl7:=(Array.getElem?_eq_some_iff.1 wr7).1;have HBR6:=zz (show Below W5.heap.size W5 W6 from HBR.out.trans (Below.mono (show Below wr.heap.size wr W6 from⟨HB6.out.os,HB6.out.tape,HB6.out.output,HB6.out.size,HB6.out.block⟩) HBR.out.size));clear wr7;by_cases heq:Dh M kid=tw
     ·have hqe:((Dh M kid:Int) !=(tw:Int))=false:=by simp[heq]
      have HOK2:=zz (show∀k t,k < i+1→ws[k]? =some t→Dh M (nd.kids.getD k 0)=t from fun k t hk ht=>by
       by_cases e:k=i
       ·subst e
        rw[HGD.out,heq];rw[HWS.out] at ht;injection ht
       ·exact HOK.out k t (by omega) ht)
      clear hHeld dr7 fr7;go_wp2;gi_wp2;go_roundw
      case rel=>exact⟨i+1,by go_num,by omega,HBR6.out,HOK2.out⟩
      case measure=>simp[intOf];omega
     ·have hqe:((Dh M kid:Int) !=(tw:Int))=true:=by simp;omega
      have hno:okT M abv (xi,nd)=false:=by
       rw[←Bool.not_eq_true];intro h;exact heq (by rw[←HGD.out];exact(HIF.out.1 h).2 i tw HWS.out)
      have HFIN:=zz (HRET.out hno W6 (HF5.out.trans (Fr.of_below HBR6.out)));clear hno hHeld heq;go_wp2;gi_wp2;exact HFIN.out
    ·obtain rfl:i=ws.length:=by omega
     have hyes:okT M abv (xi,nd)=true:=HIF.out.2 ⟨HREST.out,fun k t hk=>HOK.out k t (List.getElem?_eq_some_iff.1 hk).1 hk⟩;have HFIN:=zz (HGO.out hyes wr (HF5.out.trans (Fr.of_below hbr)));clear hyes hok hbr;gi_wp2;exact HFIN.out
  ·skip
   gi_wp2
   gi_loopw [31] (fun p wr=>∃i:Nat,p= .int .i64 (i:Int)∧i≤ws.length∧Below W5.heap.size W5 wr∧∀k t,k < i→ws[k]? =some t→Dh M (nd.kids.getD k 0)=t) (fun p wr=>ws.length-(intOf p).toNat)
   case atStart=>exact⟨0,rfl,Nat.zero_le _,Below.refl _ _,fun k t hk=>by omega⟩
   case round=>
    obtain⟨i,rfl,hi,hbr,hok⟩:=hrel;have HOK:=zz hok;have HBR:=zz hbr;by_cases hlt:i < ws.length
    ·obtain⟨b,o,rfl,_,kcw⟩:=(show Sl wr wr.heap.size (.slice a5 ws.length c5) ws.length (ws.map u8V) from(HO5.out.below hbr (Nat.le_refl _)).more hbr.size).mapAt hlt
     have hki:i < nd.kids.length:=by omega
     obtain⟨gk,ok,rfl,hgl,kck⟩:=HX.out.mapAt hki;have hkm:nd.kids[i]∈nd.kids:=List.getElem_mem hki;have hkl:=HKT.out _ hkm;have hgd:nd.kids.getD i 0=nd.kids[i]:=by simp[List.getD,hki]
     have hws:ws[i]? =some ws[i]:=List.getElem?_eq_getElem hlt;have hAk:ArOk wr.drew ab M:=HAA.out.below ((HB5.out.trans (hbr.mono HB5.out.size)).drew);have hrk:=HRB.out.at nd.kids[i];generalize nd.kids[i]=kid at kck hkl hgd hrk;generalize ws[i]=tw at kcw hws;have TT:=zz (Lu ab M kid wr.drew hAk hkl hrk);have hBr:w.heap.size < wr.heap.size:=by have:=hbr.size;omega
     have hbr5:blk < wr.heap.size:=by have:=hbr.size;omega
     have hgr:gk < wr.heap.size:=by have:=hbr.size;have:=HB5.out.size;omega
     have hbA:Below A.heap.size A wr:=HB5.out.trans (hbr.mono HB5.out.size);have q0:wr.cell? ⟨w.heap.size,0,none⟩=some (.pointer (some ⟨ab,0,none⟩)):=by
      have:=cell_of_row A w.heap.size 0 _ _ (0,0) HBX.out.1;rw[hbA.cell (p:=⟨w.heap.size,0,none⟩) hBl];simpa using this
     have q5:wr.cell? ⟨blk,5,none⟩=some (.slice (some ⟨gk,ok,none⟩) nd.kids.length kc):=by
      have:=cell_of_row A blk 5 _ _ (0,0) HBK.out;rw[hbA.cell (p:=⟨blk,5,none⟩) hbl];simpa using this
     have qk:wr.cell? ⟨gk,ok+i,none⟩=some (idV kid):=(hbA.cell (p:=⟨gk,ok+i,none⟩) hgl).trans kck;have wr6:wr.heap[w.heap.size+1]? =some (.cells #[r0] 4 (0,0)):=(hbA.block _ hRl).trans HBX.out.2;have HWR:=zz wr6;have HGD:=zz hgd;have HWS:=zz hws;have hHeld:(fun w'=>w'.cell? ⟨w.heap.size,0,none⟩=some (.pointer (some ⟨ab,0,none⟩))∧w'.cell? ⟨blk,5,none⟩=some (.slice (some ⟨gk,ok,none⟩) nd.kids.length kc)∧w'.cell? ⟨gk,ok+i,none⟩=some (idV kid)) wr.drew:=⟨q0,q5,qk⟩;clear hok hbr hAk hkm hbA hgd hws wr6 q0 q5 qk;gi_wp2;refine Bq (fun w'=>w'.cell? ⟨w.heap.size,0,none⟩=some (.pointer (some ⟨ab,0,none⟩))∧w'.cell? ⟨blk,5,none⟩=some (.slice (some ⟨gk,ok,none⟩) nd.kids.length kc)∧w'.cell? ⟨gk,ok+i,none⟩=some (idV kid)) 8 (by kernel_rfl) (by kernel_rfl) (by rintro⟨_,_,h⟩;exact h) ?_;refine tz 0 _ _ _ ?_;refine tz 1 _ _ _ ?_;refine tz 2 _ _ _ ?_;refine tz 3 _ _ _ ?_;refine tz 4 _ _ _ ?_;refine tz 5 _ _ _ ?_;refine tz 7 _ _ _ ?_;refine AB (i:=6) rfl (by kernel_rfl) (fun K hK=> ?_);go_simp;refine TT.out.mono ?_;rintro e W6 ⟨rfl,hb6⟩;have HB6:=zz hb6;clear TT;refine hK.out _ _ (⟨(hb6.cell (p:=⟨w.heap.size,0,none⟩) hBr).trans hHeld.1,(hb6.cell (p:=⟨blk,5,none⟩) hbr5).trans hHeld.2.1,(hb6.cell (p:=⟨gk,ok+i,none⟩) hgr).trans hHeld.2.2⟩) (fun hHeld=> ?_);clear hK K
     try simp only[Act.put,sA,sB,sC,sD,sE,sF]
     refine AL (by kernel_rfl) ?_;simp only[List.drop_succ_cons,List.drop_zero];have wr7:W6.heap[w.heap.size+1]? =some (.cells #[r0] 4 (0,0)):=(HB6.out.block _ (show w.heap.size+1 < wr.heap.size from(Array.getElem?_eq_some_iff.1 HWR.out).1)).trans HWR.out;have dr7:=cell_of_row W6 (w.heap.size+1) 0 _ _ (0,0) wr7;have fr7:W6.frozen? ⟨w.heap.size+1,0,none⟩=false:=by simp[World.frozen?,wr7]
     simp at dr7;have hl7:=(Array.getElem?_eq_some_iff.1 wr7).1;have HBR6:=zz (show Below W5.heap.size W5 W6 from HBR.out.trans (Below.mono (show Below wr.heap.size wr W6 from⟨HB6.out.os,HB6.out.tape,HB6.out.output,HB6.out.size,HB6.out.block⟩) HBR.out.size));clear wr7;by_cases heq:Dh M kid=tw
     ·have hqe:((Dh M kid:Int) !=(tw:Int))=false:=by simp[heq]
      have HOK2:=zz (show∀k t,k < i+1→ws[k]? =some t→Dh M (nd.kids.getD k 0)=t from fun k t hk ht=>by
       by_cases e:k=i
       ·subst e
        rw[HGD.out,heq];rw[HWS.out] at ht;injection ht
       ·exact HOK.out k t (by omega) ht)
      clear hHeld dr7 fr7;go_wp2;gi_wp2;go_roundw
      case rel=>exact⟨i+1,by go_num,by omega,HBR6.out,HOK2.out⟩
      case measure=>simp[intOf];omega
     ·have hqe:((Dh M kid:Int) !=(tw:Int))=true:=by simp;omega
      have hno:okT M abv (xi,nd)=false:=by
       rw[←Bool.not_eq_true];intro h;exact heq (by rw[←HGD.out];exact(HIF.out.1 h).2 i tw HWS.out)
      have HFIN:=zz (HRET.out hno W6 (HF5.out.trans (Fr.of_below HBR6.out)));clear hno hHeld heq;go_wp2;gi_wp2;exact HFIN.out
    ·obtain rfl:i=ws.length:=by omega
     have hyes:okT M abv (xi,nd)=true:=HIF.out.2 ⟨HREST.out,fun k t hk=>HOK.out k t (List.getElem?_eq_some_iff.1 hk).1 hk⟩;have HFIN:=zz (HGO.out hyes wr (HF5.out.trans (Fr.of_below hbr)));clear hyes hok hbr;gi_wp2;exact HFIN.out
 case done=>
  rintro S ys W hys ⟨⟨hbx,⟨r0,hbr⟩,hSv⟩,hall⟩ hK hnS hf;rw[hys] at hall;have fB:W.frozen? ⟨w.heap.size+1,0,none⟩=false:=by simp[World.frozen?,hbr]
  have eB:=cell_of_row W (w.heap.size+1) 0 _ _ (0,0) hbr;simp at eB;have hl2:=(Array.getElem?_eq_some_iff.1 hbr).1;have hne:¬w.heap.size+1=W1.heap.size:=by omega
  have hK2:(W.setCell ⟨w.heap.size+1,0,none⟩ (.bool true)).heap[W1.heap.size]? =some (.deferred (some [])):=(Below.heap_setCell W ⟨w.heap.size+1,0,none⟩ (.bool true) W1.heap.size (fun e=>hne e.symm)).trans hK;have hfs:=hf.set (p:=⟨w.heap.size+1,0,none⟩) (.inl (.inl (.inr rfl))) (.bool true);have hbs:(W.setCell ⟨w.heap.size+1,0,none⟩ (.bool true)).heap[w.heap.size+1]? =some (.cells #[.bool true] 4 (0,0)):=heap_setCell_same hbr _;have hpf:=DY (W.setCell ⟨w.heap.size+1,0,none⟩ (.bool true)) W1.heap.size (.deferred none);have hcell:((W.setCell ⟨w.heap.size+1,0,none⟩ (.bool true)).putObj W1.heap.size (.deferred none)).cell? ⟨w.heap.size+1,0,none⟩=some (.bool true):=by
   have:=cell_of_row _ (w.heap.size+1) 0 _ _ (0,0) (hpf.at_ hbs hne);simpa using this
  have HFIN:=zz (show Below w.heap.size w ((W.setCell ⟨w.heap.size+1,0,none⟩ (.bool true)).putObj W1.heap.size (.deferred none)) from by
   have h1:=HB1.out.trans ((hfs.imp (D':=fun q=>w.heap.size≤q) (fun q _ e=>by rcases e with(e|e)|e|e <;>omega)).below' (by omega));exact h1.trans ((hpf.imp (D':=fun q=>w.heap.size≤q) (fun q _ e=>by omega)).below' h1.size))
  clear hbx hbr hSv hf hfs hbs hpf;gi_wp2;refine⟨by simp,.inl ⟨_,_,rfl,run_takeDeferred hK2, ?_⟩⟩;refine⟨.bool true, ?_,by rw[hall],HFIN.out⟩
  simp[results,Tryz.results48,go_sem,hcell]
 case stop=>
  rintro c S pre W hpre ⟨rfl,⟨hbx,-,hSv⟩,hbr,hall⟩ hK hnS hf;have hne:¬w.heap.size+1=W1.heap.size:=by omega
  have hpf:=DY W W1.heap.size (.deferred none);have hcell:(W.putObj W1.heap.size (.deferred none)).cell? ⟨w.heap.size+1,0,none⟩=some (.bool false):=by
   have:=cell_of_row _ (w.heap.size+1) 0 _ _ (0,0) (hpf.at_ hbr hne);simpa using this
  have HFIN:=zz (show Below w.heap.size w (W.putObj W1.heap.size (.deferred none)) from by
   have h1:=HB1.out.trans ((hf.imp (D':=fun q=>w.heap.size≤q) (fun q _ e=>by rcases e with(e|e)|e|e <;>omega)).below' (by omega));exact h1.trans ((hpf.imp (D':=fun q=>w.heap.size≤q) (fun q _ e=>by omega)).below' h1.size))
  clear hbx hbr hSv hf hpf;gi_wp2;refine⟨by simp,.inl ⟨_,_,rfl,run_takeDeferred hK, ?_⟩⟩;refine⟨.bool false, ?_,by rw[hall],HFIN.out⟩
  simp[results,Tryz.results48,go_sem,hcell]
end Go.Proofs.YtljmibnfmilfbaaGreatDoor
namespace Hg
def KT(M:Nat→Option Node):Prop:=((Ce M).map (C9 M)).Nodup∧(∀m∈Ce M,((Bj M m).map (C9 M)).Nodup)∧∀m∈Ce M,∀f∈Bj M m,∃F xs,wk M F [f] []=some xs∧F≤1000000∧(BR xs).Nodup
end Hg
namespace Go.Proofs.YtljmibnfmilfbaaGreatDoor
open Go.RowKit
open Hg (GT gl wk isK ndAt CS Ce Bj KB C9 Dh BR KT)
theorem PU(B:Nat)(v:Value)(l:List (List UInt8))(w:World)(hn:l.Nodup)(hl:l.length≤1000000)(ho:w.ownsRow B 9 1 v l.length (l.map strV))(hB:B≤w.heap.size):
 Calls Tryz.prog 77 #[v] w fun e w'=>e= .returned (.bool false)∧Below B w w':=
 (Tt B v l w hn hl ho).mono fun _ _ h=>⟨h.1,(h.2.imp (fun q _ e=>(ho.lt q e).1)).below' hB⟩
theorem VD(ab:Nat)(M:Nat→Option Hg.Node)(w:World)(hA:ArOk w ab M)(hN:KT M):
 Calls Tryz.prog 46 #[.pointer (some ⟨ab,0,none⟩)] w fun e w'=>e= .returned (.bool false)∧Below w.heap.size w w':=by
 have T1:=zz (fun W (h:ArOk W ab M)=>IZ ab M W h);have HA:=zz hA;have HN:=zz hN;have hml:=hA.lenK 1 2;have hmm:=hA.2.kids 1 2;have HMM:=zz hmm;have TT:=zz PU;change (Ce M).length≤1000000 at hml;clear hA hN hmm;go_enter Tryz.func46,Tryz.ntmps46;go_wp2_with fail;refine(T1.out w HA.out).mono ?_;rintro e w1 ⟨⟨v,rfl,ho1⟩,hb1⟩;have TN:=zz (Np ab M v (Ce M) w1 (HA.out.below hb1) (Sl.AX ho1) HMM.out hml);have HB1:=zz hb1;clear hb1 ho1;go_wp2_with fail;refine TN.out.mono ?_;rintro e w2 ⟨⟨v2,rfl,ho2⟩,hb2⟩;have TW:=zz (TT.out w1.heap.size v2 _ w2 HN.out.1 (by rw[List.length_map];exact hml) (by rw[List.length_map];simpa using ho2) hb2.size);have HB2:=zz (HB1.out.trans (hb2.mono HB1.out.size));have hs2:=HB1.out.size;clear hb2 ho2 TN;go_wp2_with fail;refine TW.out.mono ?_;rintro e w3 ⟨rfl,hb3⟩;have HB3:=zz (HB2.out.trans (hb3.mono hs2));have hs3:=HB3.out.size;have T2:=zz (T1.out w3 (HA.out.below HB3.out));clear TW hb3;go_wp2_with fail;refine T2.out.mono ?_;rintro e w4 ⟨⟨vm,rfl,ho4⟩,hb4⟩;obtain⟨a,c,rfl⟩:=(Sl.AX ho4).form;have HS:=zz (Sl.AX ho4);have HB4:=zz (HB3.out.trans (hb4.mono hs3));have HA4:=zz (HA.out.below HB4.out);clear ho4 hb4 T2;go_wp2
 go_loopw [15] (fun p wr=>∃i:Nat,p= .int .i64 (i:Int)∧i≤(Ce M).length∧Below w4.heap.size w4 wr) (fun p wr=>(Ce M).length-(intOf p).toNat)
 case atStart=>exact⟨0,rfl,Nat.zero_le _,Below.refl _ _⟩
 case round=>
  obtain⟨i,rfl,hi,hb⟩:=hrel;have HB:=zz hb;clear hb;by_cases hlt:i < (Ce M).length
  ·obtain⟨b,o,rfl,_,kc⟩:=(HS.out.below HB.out (Nat.le_refl _)).mapAt hlt
   have hmem:=List.getElem_mem hlt;have hmi:=HMM.out _ hmem;generalize(Ce M)[i]=m at kc hmi hmem;have T2:=zz (fun W (h:ArOk W ab M)=>Kv ab M m W h hmi);have T2':=zz (T2.out wr (HA4.out.below HB.out));have hfl:=(HA4.out.below HB.out).lenK m 3;have HFM:=zz (HA.out.2.kids m 3);have HND:=zz (HN.out.2.1 m hmem);have HND3:=zz (HN.out.2.2 m hmem);have hsr:=HB.out.size;change (Bj M m).length≤1000000 at hfl;clear hmem;go_wp2_with fail;refine T2'.out.mono ?_;rintro e w5 ⟨⟨v5,rfl,ho5⟩,hb5⟩;have TN:=zz (Np ab M v5 (Bj M m) w5 ((HA4.out.below HB.out).below hb5) (Sl.AX ho5) HFM.out hfl);have HB5:=zz (HB.out.trans (hb5.mono hsr));clear hb5 ho5 T2';go_wp2_with fail;refine TN.out.mono ?_;rintro e w6 ⟨⟨v6,rfl,ho6⟩,hb6⟩;have TW:=zz (TT.out w5.heap.size v6 _ w6 HND.out (by rw[List.length_map];exact hfl) (by rw[List.length_map];simpa using ho6) hb6.size);have hs5:=HB5.out.size;have HB6:=zz (HB5.out.trans (hb6.mono hs5));clear hb6 ho6 TN;go_wp2_with fail;refine TW.out.mono ?_;rintro e w7 ⟨rfl,hb7⟩;have HB7:=zz (HB6.out.trans (hb7.mono hs5));have hs7:=HB7.out.size;have T3:=zz (T2.out w7 (HA4.out.below HB7.out));clear TW hb7;go_wp2_with fail;refine T3.out.mono ?_;rintro e w8 ⟨⟨v8,rfl,ho8⟩,hb8⟩;obtain⟨a2,c2,rfl⟩:=(Sl.AX ho8).form;have HS2:=zz (Sl.AX ho8);have HB8:=zz (HB7.out.trans (hb8.mono hs7));have HA8:=zz (HA4.out.below HB8.out);clear ho8 hb8 T3;go_wp2
   go_loopw [29] (fun p wr=>∃j:Nat,p= .int .i64 (j:Int)∧j≤(Bj M m).length∧Below w8.heap.size w8 wr) (fun p wr=>(Bj M m).length-(intOf p).toNat)
   case atStart=>exact⟨0,rfl,Nat.zero_le _,Below.refl _ _⟩
   case round=>
    obtain⟨j,rfl,hj,hb9⟩:=hrel;have HB9:=zz hb9;have hs9:=hb9.size;clear hb9;by_cases hltj:j < (Bj M m).length
    ·obtain⟨b2,o2,rfl,_,kc2⟩:=(HS2.out.below HB9.out (Nat.le_refl _)).mapAt hltj
     have hmj:=List.getElem_mem hltj;have hfj:=HFM.out _ hmj;generalize(Bj M m)[j]=f at kc2 hfj hmj;obtain⟨F,xs,hxs,hF,hnd⟩:=HND3.out f hmj;have TK:=zz (MX ab M f F xs wr (HA8.out.below HB9.out) hfj hxs hF);have hnl:(BR xs).length≤1000000:=by
      have h1:=Ja xs;have h2:=KV M _ _ _ _ hxs;omega
     have HNL:=zz (And.intro hnd hnl);clear hmj hxs hF hnd hnl;go_wp2_with fail;refine TK.out.mono ?_;rintro e w10 ⟨⟨v10,rfl,ho10⟩,hb10⟩;have TW:=zz (TT.out wr.heap.size v10 _ w10 HNL.out.1 HNL.out.2 ho10 hb10.size);have HB10:=zz (HB9.out.trans (hb10.mono hs9));clear hb10 ho10 TK;go_wp2_with fail;refine TW.out.mono ?_;rintro e w11 ⟨rfl,hb11⟩;have HB11:=zz (HB10.out.trans (hb11.mono hs9));clear hb11 TW;go_wp2;go_roundw
     case rel=>exact⟨j+1,by go_num,by omega,HB11.out⟩
     case measure=>simp[intOf];omega
    ·have HB12:=zz (HB8.out.trans (HB9.out.mono HB8.out.size))
     go_wp2;go_roundw
     case rel=>exact⟨i+1,by go_num,by omega,HB12.out⟩
     case measure=>simp[intOf];omega
  ·go_wp2
   go_ret;exact⟨rfl,HB4.out.trans (HB.out.mono HB4.out.size)⟩
end Go.Proofs.YtljmibnfmilfbaaGreatDoor
