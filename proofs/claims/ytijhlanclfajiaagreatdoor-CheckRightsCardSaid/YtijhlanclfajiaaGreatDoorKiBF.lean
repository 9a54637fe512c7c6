/-
  A part of the proof.
-/
import Derived.Test.YtijhlanclfajiaaGreatDoorKiBE
set_option linter.all false
set_option maxHeartbeats 32000000
set_option maxRecDepth 100000
namespace Hg
def JR(M:Nat→Option Node)(n:Node):List Nat:=if n.num≤9 then[1,1] else if n.num≤11 then[CS M (n.kids.getD 0 0),CS M (n.kids.getD 0 0)] else[2,2]
def Cs(M:Nat→Option Node)(abv:Nat→Nat)(id:Nat)(n:Node):List Nat:=
 if n.kind=6 then[n.type]
 else if n.kind=7 then[(ndAt M n.ref).type]
 else if n.kind=8∨n.kind=9∨n.kind=16 then[2]
 else if n.kind=17 then[1]
 else if n.kind=10 then[(ndAt M (abv id)).type]
 else if n.kind=18 then JR M n
 else if n.kind=19 then(Bf M n.ref 4).map fun p=>(ndAt M p).type
 else[]
end Hg
namespace Go.Proofs.YtijhlanclfajiaaGreatDoor
open Go.RowKit
open Hg (GT gl wk isK ndAt Bf KB CS JR Cs)
theorem Sw:(Tryz.prog.info? 5).map (fun i=>(i.zero,i.size,i.bytes))=some (some (.int .u8 0),1,1):=by kernel_rfl
@[reducible] def u8G(t:Nat):Value:= .int .u8 (t:Int)
def MW(w:World)(l:List Nat)(e:Ending)(w':World):Prop:=(∃v,e= .returned v∧w'.ownsRow w.heap.size 5 1 v l.length (l.map u8G))∧Below w.heap.size w w'
theorem Fp{w w1:World}{k:Nat}(hb:Below w.heap.size w w1)(t:Nat)(hk:w1.heap.size=k):MW w [t] (.returned (.slice (some ⟨k,0,none⟩) 1 1)) (w1.alloc (.cells #[u8G t] 5)):=by
 subst hk;exact⟨⟨_,rfl,⟨rfl,.inr ⟨w1.heap.size,1,#[u8G t],rfl,hb.size,AZ w1 _,AA,by unfold maxLen;omega,rfl,rfl⟩⟩⟩,hb.alloc hb.size _⟩
theorem Ng{w w1:World}{k:Nat}(hb:Below w.heap.size w w1)(s t:Nat)(hk:w1.heap.size=k):MW w [s,t] (.returned (.slice (some ⟨k,0,none⟩) 2 2)) (w1.alloc (.cells #[u8G s,u8G t] 5)):=by
 subst hk;exact⟨⟨_,rfl,⟨rfl,.inr ⟨w1.heap.size,2,#[u8G s,u8G t],rfl,hb.size,AZ w1 _,AA,by unfold maxLen;omega,rfl,rfl⟩⟩⟩,hb.alloc hb.size _⟩
theorem WN(ab:Nat)(M:Nat→Option Hg.Node)(n:Hg.Node)(ka:Option Addr)(kc:Nat)(w:World)(hA:ArOk w ab M)(hs:Sl w w.heap.size (.slice ka n.kids.length kc) n.kids.length (n.kids.map idV))(hk:0 < n.kids.length)(h0:n.kids.getD 0 0 < Aj)(href:(ndAt M (n.kids.getD 0 0)).ref < Aj):
 Calls Tryz.prog 110 #[.pointer (some ⟨ab,0,none⟩),ndV n ka kc] w (MW w (JR M n)):=by
 generalize hr:JR M n=r;unfold JR at hr;have hba:Below w.heap.size w (w.alloc (.cells (Ad n ka kc) 44)):=(AP).alloc AA _;have HB:=zz hba;have TT:=zz (P7 ab M (n.kids.getD 0 0) _ (hA.below hba) h0 href);obtain⟨b,o,rfl,hbl,kcl⟩:=hs.mapAt hk;have hg0:n.kids[0]=n.kids.getD 0 0:=by simp[List.getD,hk]
 rw[hg0,Nat.add_zero] at kcl;generalize n.kids.getD 0 0=x at kcl TT hr h0 href;clear hA hs hg0;by_cases h9:n.num≤9
 ·rw[if_pos h9] at hr
  subst hr;go_enter Tryz.func110,Tryz.ntmps110;go_wp2;go_ret;exact Ng HB.out 1 1 (by simp)
 ·rw[if_neg h9] at hr
  by_cases h11:n.num≤11
  ·rw[if_pos h11] at hr
   subst hr;go_enter Tryz.func110,Tryz.ntmps110;go_wp2_with fail;refine TT.out.mono ?_;rintro e w1 ⟨rfl,hb1⟩;have HB1:=zz (HB.out.trans (hb1.mono HB.out.size));clear TT hb1;go_wp2;go_ret;exact Ng HB1.out _ _ (by simp)
  ·rw[if_neg h11] at hr
   subst hr;clear TT;go_enter Tryz.func110,Tryz.ntmps110;go_wp2;go_ret;exact Ng HB.out 2 2 (by simp)
structure RY (M:Nat→Option Hg.Node) (abv:Nat→Nat):Prop where
 zero:M 0=none
 kind:∀i n,M i=some n→n.kind≤255
 dec:∀i n p k,M i=some n→Dx M i (fun i=>i < Aj) p k→p < i∨p=0
 chain:∀id,id≤1000000→JX M 3 id (abv id)
 lt:∀id,abv id < Aj
theorem UM(ab:Nat)(M:Nat→Option Hg.Node)(abv:Nat→Nat)(hV:RY M abv)(id:Nat)(n:Hg.Node)(ka:Option Addr)(kc:Nat)(w:World)(hA:ArOk w ab M)(hid:id≤1000000)(hs:Sl w w.heap.size (.slice ka n.kids.length kc) n.kids.length (n.kids.map idV))(href:n.ref < Aj)
 (hb18:n.kind=18→0 < n.kids.length∧n.kids.getD 0 0 < Aj∧(ndAt M (n.kids.getD 0 0)).ref < Aj):
 Calls Tryz.prog 57 #[.pointer (some ⟨ab,0,none⟩),idV id,ndV n ka kc] w (MW w (Cs M abv id n)):=by
 obtain⟨i0,hi0,hz0,hz1,hz2⟩:=info_parts Sw;generalize hr:Cs M abv id n=r;unfold Cs at hr;have hba:Below w.heap.size w (w.alloc (.cells (Ad n ka kc) 44)):=(AP).alloc AA _;have HA:=zz hA;have HV:=zz hV;have HS:=zz hs;have H18:=zz hb18;have TG:=zz ((hA.below hba).getN href);have HB:=zz hba;have HR:=zz hr;have hnew:=AZ w (.cells (Ad n ka kc) 44);clear hA hs hb18 hba hV hr;go_enter Tryz.func57,Tryz.ntmps57;go_wp2_with fail;refine TG.out.mono ?_;rintro e w1 ⟨ka1,kc1,rfl,ho1,hb1⟩;have hw1:w1.heap[w.heap.size]? =some (.cells (Ad n ka kc) 44 (0,0)):=(hb1.block _ (by simp)).trans hnew;have hlw:w.heap.size < w1.heap.size:=(Ab.1 hw1).1;have e0:=AJ w1 w.heap.size 0 _ _ (0,0) hw1;have e1:=AJ w1 w.heap.size 1 _ _ (0,0) hw1;have e2:=AJ w1 w.heap.size 2 _ _ (0,0) hw1;have e3:=AJ w1 w.heap.size 3 _ _ (0,0) hw1;have e4:=AJ w1 w.heap.size 4 _ _ (0,0) hw1;have e5:=AJ w1 w.heap.size 5 _ _ (0,0) hw1;simp at e0 e1 e2 e3 e4 e5;have HB1:=zz (HB.out.trans (hb1.mono HB.out.size));have HB2:=zz (HB1.out.alloc HB1.out.size (.cells (Ad (ndAt M n.ref) ka1 kc1) 44));clear TG ho1 hb1 hnew hw1;generalize hto:ndAt M n.ref=tn at HR HB2⊢;have HTO:=zz hto;clear hto;obtain⟨kd,hkd⟩:∃kd,n.kind=kd:=⟨_,rfl⟩;rw[hkd] at e0;have H18b:=zz (show kd=18→0 < n.kids.length∧n.kids.getD 0 0 < Aj∧(ndAt M (n.kids.getD 0 0)).ref < Aj from fun h=>H18.out (hkd.trans h));rw[hkd] at HR;have HKD:=zz hkd;clear H18 hkd;by_cases k6:kd=6
 ·subst k6
  go_wp2;go_ret;have hr:=HR.out;simp at hr;subst hr;exact Fp HB2.out _ (by simp)
 by_cases k7:kd=7
 ·subst k7
  go_wp2;go_ret;have hr:=HR.out;simp at hr;subst hr;exact Fp HB2.out _ (by simp)
 by_cases k8:kd=8
 ·subst k8
  go_wp2;go_ret;have hr:=HR.out;simp at hr;subst hr;exact Fp HB2.out _ (by simp)
 by_cases k9:kd=9
 ·subst k9
  go_wp2;go_ret;have hr:=HR.out;simp at hr;subst hr;exact Fp HB2.out _ (by simp)
 by_cases k16:kd=16
 ·subst k16
  go_wp2;go_ret;have hr:=HR.out;simp at hr;subst hr;exact Fp HB2.out _ (by simp)
 by_cases k17:kd=17
 ·subst k17
  go_wp2;go_ret;have hr:=HR.out;simp at hr;subst hr;exact Fp HB2.out _ (by simp)
 by_cases k10:kd=10
 ·subst k10
  obtain⟨⟨mb,cc,hAr⟩,hkb⟩:=HA.out;have TA:=zz (Vg ab mb cc M 3 id (abv id) (w1.alloc (.cells (Ad tn ka1 kc1) 44)) (hAr.below HB2.out AA) HV.out.zero hid HV.out.kind (by decide) HV.out.dec (HV.out.chain id hid));clear hAr hkb;go_wp2_with fail;refine TA.out.mono ?_;rintro e w3 ⟨rfl,hb3⟩;have HB3:=zz (HB2.out.trans (hb3.mono HB2.out.size));have TG2:=zz ((HA.out.below HB3.out).getN (HV.out.lt id));clear TA hb3;go_wp2_with fail;refine TG2.out.mono ?_;rintro e w4 ⟨ka4,kc4,rfl,ho4,hb4⟩;have HB4:=zz (HB3.out.trans (hb4.mono HB3.out.size));have HB5:=zz (HB4.out.alloc HB4.out.size (.cells (Ad (ndAt M (abv id)) ka4 kc4) 44));clear TG2 ho4 hb4;go_wp2;go_ret;have hr:=HR.out;simp at hr;subst hr;exact Fp HB5.out _ (by simp)
 by_cases k18:kd=18
 ·subst k18
  obtain⟨h1,h2,h3⟩:=H18b.out rfl;have hsW:=(HS.out.below HB2.out AA).more HB2.out.size;have TPR:=zz (WN ab M n ka kc (w1.alloc (.cells (Ad tn ka1 kc1) 44)) (HA.out.below HB2.out) hsW h1 h2 h3);have hnk:n.kind=18:=HKD.out;have hq:(n.kind:Int)=18:=by omega
  rw[show ndV n ka kc= .agg #[.int .u8 18,strV n.name,.int .i64 n.num,.int .u8 (n.type:Int),.int .u64 (n.ref:Int),.slice ka n.kids.length kc] from by simp[ndV,hq]] at TPR;clear hsW h1 h2 h3 hq hnk;go_wp2_with fail;refine TPR.out.mono ?_;rintro e w3 ⟨⟨v,rfl,ho3⟩,hb3⟩;have HO3:=zz (Cv ho3 (show w.heap.size≤_ from HB2.out.size));have HB3:=zz (HB2.out.trans (hb3.mono HB2.out.size));clear TPR ho3 hb3;go_wp2;go_ret;have hr:=HR.out;simp only[show¬(18:Nat)=6 by decide,show¬(18:Nat)=7 by decide,show¬((18:Nat)=8∨(18:Nat)=9∨(18:Nat)=16) by decide,show¬(18:Nat)=17 by decide,show¬(18:Nat)=10 by decide,if_false,if_true] at hr;subst hr;exact⟨⟨v,rfl,HO3.out⟩,HB3.out⟩
 by_cases k19:kd=19
 ·subst k19
  have hr:=HR.out;simp only[show¬(19:Nat)=6 by decide,show¬(19:Nat)=7 by decide,show¬((19:Nat)=8∨(19:Nat)=9∨(19:Nat)=16) by decide,show¬(19:Nat)=17 by decide,show¬(19:Nat)=10 by decide,show¬(19:Nat)=18 by decide,if_false,if_true] at hr;have HR2:=zz hr;have TK:=zz (KM ab M n.ref 4 (w1.alloc (.cells (Ad tn ka1 kc1) 44)) (HA.out.below HB2.out) href);have hkl:=HA.out.lenK n.ref 4;have HKI:=zz (HA.out.2.kids n.ref 4);generalize Bf M n.ref 4=ps at TK hkl HKI HR2;clear hr HR H18b;go_wp2_with fail;refine TK.out.mono ?_;rintro e w3 ⟨⟨v,rfl,ho3⟩,hb3⟩;obtain⟨a3,c3,rfl⟩:=(Sl.Ai ho3).form;have HS3:=zz (Sl.Ai ho3);have HB3:=zz (HB2.out.trans (hb3.mono HB2.out.size));clear TK ho3 hb3 e0 e1 e2 e3 e4 e5;go_wp2
  go_loopw [11,68] (fun p q wr=>∃(k:Nat) (u:Value),p=u∧q= .int .i64 (k:Int)∧k≤ps.length∧wr.ownsRow w3.heap.size 5 1 u k ((ps.take k).map (fun x=>u8G (ndAt M x).type))∧Below w3.heap.size w3 wr) (fun _ q wr=>ps.length-(intOf q).toNat)
  case atStart=>exact⟨0,_,rfl,rfl,Nat.zero_le _,⟨rfl,.inl ⟨rfl,rfl⟩⟩,AP⟩
  case round=>
   obtain⟨k,u,hu,rfl,hk,ho,hb⟩:=hrel;have hu:=hu.symm;subst hu;have HBr:=zz hb;have HO:=zz ho;by_cases hlt:k < ps.length
   ·obtain⟨b,o,rfl,_,kcx⟩:=(HS3.out.below HBr.out AA).mapAt hlt
    have TN:=zz ((HA.out.below (HB3.out.trans (hb.mono HB3.out.size))).getN (HKI.out _ (List.getElem_mem hlt)));have htk:ps.take (k+1)=ps.take k++[ps[k]]:=List.take_succ_eq_append_getElem hlt;generalize ps[k]=x at kcx TN htk;have HTK:=zz htk;clear hb ho htk;go_wp2_with fail;refine TN.out.mono ?_;rintro e w4 ⟨ka4,kc4,rfl,ho4,hb4⟩;have HB4:=zz ((HBr.out.trans (hb4.mono HBr.out.size)).alloc (by have:=hb4.size;have:=HBr.out.size;omega) (.cells (Ad (ndAt M x) ka4 kc4) 44));have HO4:=zz ((Aq HO.out (Fr.of_below (D:=fun _=>False) hb4) (fun _ _ e=>e)).alloc (.cells (Ad (ndAt M x) ka4 kc4) 44));have hsz:w3.heap.size≤w4.heap.size:=by have:=HBr.out.size;have:=hb4.size;omega
    clear ho4 hb4 TN
    go_wp2_with (at_builtin;refine wpList_append_own_at _ rfl (.tmp 78) (.tmp 81) _ rfl w3.heap.size 5 i0 _ 1 1 Tryz.underlying110 hi0 hz0 hz1 hz2 rfl (by decide) _ k ((ps.take k).map (fun x=>u8G (ndAt M x).type)) rfl (HO4.out.alloc _) ⟨w4.heap.size+1,0,none⟩ 1 1 [u8G (ndAt M x).type] rfl rfl ?_ ?_ ?_ ?_ ?_ ?_)
    all_goals first
     |intro v5 W5 own5 g5 _ at5
     |exact Jo _ _ _ _
     |(unfold maxLen;omega)
     |omega
     |(simp;omega)
     |(intro u hu;simp only[List.mem_singleton] at hu;subst hu;rfl)
    have HO5:=zz (show W5.ownsRow w3.heap.size 5 1 v5 (k+1) ((ps.take (k+1)).map (fun x=>u8G (ndAt M x).type)) from by rw[HTK.out,List.map_append,List.map_take];exact own5);have HB5:=zz (show Below w3.heap.size w3 W5 from(HB4.out.alloc HB4.out.size _).grown g5 (by have:=HB4.out.size;simp at this⊢;omega) (fun q hq=>(HO4.out.lt q hq).1));clear own5 g5 at5;go_wp2;go_roundw
    case rel=>exact⟨k+1,v5,rfl,by go_num,by omega,HO5.out,HB5.out⟩
    case measure=>simp[intOf];omega
   ·obtain rfl:k=ps.length:=by omega
    rw[List.take_length] at ho;have HO2:=zz ho;clear hb ho;go_wp2;go_ret;have hr:=HR2.out;subst hr;refine⟨⟨_,rfl, ?_⟩,HB3.out.trans (HBr.out.mono HB3.out.size)⟩;rw[List.length_map,List.map_map];exact Cv HO2.out HB3.out.size
 have hq:∀m:Nat,kd≠m→((kd:Int)==(m:Int))=false:=fun m h=>by simpa using(show¬(kd:Int)=(m:Int) by omega)
 have q6:=hq 6 k6;have q7:=hq 7 k7;have q8:=hq 8 k8;have q9:=hq 9 k9;have q16:=hq 16 k16;have q17:=hq 17 k17;have q10:=hq 10 k10;have q18:=hq 18 k18;have q19:=hq 19 k19;have hr:=HR.out;rw[if_neg k6,if_neg k7,if_neg (by omega),if_neg k17,if_neg k10,if_neg k18,if_neg k19] at hr;subst hr;clear hq HR;go_wp2;go_ret;exact⟨⟨_,rfl,⟨rfl,.inl ⟨rfl,rfl⟩⟩⟩,HB2.out⟩
end Go.Proofs.YtijhlanclfajiaaGreatDoor
namespace Hg
def okT(M:Nat→Option Node)(abv:Nat→Nat)(x:Nat×Node):Bool:=
 (!(x.2.kind==19)||(Cs M abv x.1 x.2).length==x.2.kids.length) && (Cs M abv x.1 x.2).zipIdx.all fun p=>CS M (x.2.kids.getD p.2 0)==p.1
theorem MI(M:Nat→Option Node)(abv:Nat→Nat)(x:Nat×Node):okT M abv x=true↔(x.2.kind=19→(Cs M abv x.1 x.2).length=x.2.kids.length)∧∀i t,(Cs M abv x.1 x.2)[i]? =some t→CS M (x.2.kids.getD i 0)=t:=by
 unfold okT;rw[Bool.and_eq_true,List.all_eq_true];constructor
 ·rintro⟨h1,h2⟩
  refine⟨fun hk=> ?_,fun i t hi=> ?_⟩
  ·rw[hk] at h1
   simpa using h1
  ·have:=h2 (t,i) (List.mem_zipIdx_iff_getElem?.2 hi)
   simpa using this
 ·rintro⟨h1,h2⟩
  refine⟨?_,fun p hp=> ?_⟩
  ·by_cases hk:x.2.kind=19
   ·simp[hk,h1 hk]
   ·simp[hk]
  ·obtain⟨t,i⟩:=p
   have:=h2 i t (List.mem_zipIdx_iff_getElem?.1 hp);simpa using this
def RB(M:Nat→Option Node):Prop:=∀i nd,M i=some nd→nd.ref < 18446744073709551616
theorem RB.at{M:Nat→Option Node}(h:RB M)(i:Nat):(ndAt M i).ref < 18446744073709551616:=by
 unfold ndAt;cases hM:M i with
 |none=>simp[Node.zero]
 |some nd=>exact h i nd hM
theorem EZ(M:Nat→Option Node):∀(f:Nat) (s seen:List Nat) (r:List (Nat×Node)),wk M f s seen=some r→∀x∈r,M x.1=some x.2
 |0,_,_,_,h=>by cases h
 |f+1,[],_,r,h=>by rw[Rh] at h;injection h with h;subst h;intro x hx;simp at hx
 |f+1,i::s,seen,r,h=>by
   rw[EF] at h;cases hM:M i with
   |none=>rw[hM] at h;exact EZ M f s seen r h
   |some n=>
     rw[hM] at h;dsimp only at h;by_cases hi:i∈seen
     ·rw[if_pos hi] at h;exact EZ M f s seen r h
     ·rw[if_neg hi] at h
      cases hw:wk M f (n.kids++s) (i::seen) with
      |none=>rw[hw] at h;cases h
      |some r'=>
        rw[hw] at h;have h:(i,n)::r'=r:=Option.some.inj h;intro x hx;rw[←h] at hx;rcases List.mem_cons.1 hx with e|e
        ·subst e;exact hM
        ·exact EZ M f _ _ r' hw x e
end Hg
namespace Go.Proofs.YtijhlanclfajiaaGreatDoor
open Go.RowKit
open Hg (GT gl wk isK ndAt Bf KB CS JR Cs okT RB)
attribute [local go_sem] Oper.semAt_some
def typA(p1 p2 p3 p4:Value)(a:Act):Prop:=∃u0 u5 u6 u7 u8 u9 u10 u11 u12 u13 u14 u15 u16 u17 u18 u19 u20 u21 u22 u23 u24 u25 u26 u27 u28 u29 u30 u31 u32 u33 u34 u35 u36 u37 u38 u39 u40 u41 u42 u43 u44 u45:Value,a={tmps:= #[u0,p1,p2,p3,p4,u5,u6,u7,u8,u9,u10,u11,u12,u13,u14,u15,u16,u17,u18,u19,u20,u21,u22,u23,u24,u25,u26,u27,u28,u29,u30,u31,u32,u33,u34,u35,u36,u37,u38,u39,u40,u41,u42,u43,u44,u45],defers:=[]}
def TypR(ab B:Nat)(S:Nat→Prop)(x:Am)(a:Act)(A:World):Prop:=
 ∃S0 blk,BoxI ab B S0 A∧typA (.pointer (some ⟨B,0,none⟩)) (.pointer (some ⟨B+1,0,none⟩)) (idV x.id) (.pointer (some ⟨blk,0,none⟩)) a∧A.heap[blk]? =some (.cells (Ad x.nd x.ka x.kc) 44 (0,0))∧x.At A∧(∀q,S q↔S0 q∨q=blk)∧¬S0 blk
def TypX(M:Nat→Option Hg.Node)(abv:Nat→Nat)(xs:List (Nat×Hg.Node))(ab B:Nat)(c:Code)(S:Nat→Prop)(A:World):Prop:=c= .ret∧BoxI ab B S A∧A.heap[B+1]? =some (.cells #[.bool false] 4 (0,0))∧xs.all (okT M abv)=false
theorem UO(ab:Nat)(M:Nat→Option Hg.Node)(abv:Nat→Nat)(hV:RY M abv)(hRB:RB M)(F:Nat)(xs:List (Nat×Hg.Node))(w:World)(hA:ArOk w ab M)(hxs:wk M F [1] []=some xs)(hF:F≤1000000)(hid:∀x∈xs,x.1≤1000000)
 (h18:∀x∈xs,x.2.kind=18→0 < x.2.kids.length) (hidx:∀x∈xs,x.2.kind≠19→(Cs M abv x.1 x.2).length≤x.2.kids.length):
 Calls Tryz.prog 22 #[.pointer (some ⟨ab,0,none⟩)] w fun e w'=>e= .returned (.bool (xs.all (okT M abv)))∧Below w.heap.size w w':=by
 have HA:=zz hA;have HV:=zz hV;have HRB:=zz hRB;have HALL:=zz (And.intro hid (And.intro h18 hidx));have TW:=zz (Jt ab 1);have TR:=zz (IL ab);have HMM:=zz (Hg.EZ M F _ _ _ hxs);clear hV hRB hid h18 hidx;refine(callsIn_wide (n:=5)).1 (callsIn_of_wp_marks Tryz.func22 rfl trivial ?_ rfl);simp only[Tryz.ntmps22,List.size_toArray,List.length_cons,List.length_nil,Nat.reduceAdd,Nat.reduceSub,Array.replicate_succ,Array.replicate_zero,List.push_toArray,List.append_toArray,List.nil_append,List.cons_append];gi_wp2;refine wpIn_wide.2 (MC ?_);have hb0:Below w.heap.size w ((w.alloc (.cells #[.pointer (some ⟨ab,0,none⟩)] 26)).alloc (.cells #[.bool false] 4)):=((AP).alloc AA _).alloc (by simp) _;have h0:((w.alloc (.cells #[.pointer (some ⟨ab,0,none⟩)] 26)).alloc (.cells #[.bool false] 4)).heap[w.heap.size]? =some (.cells #[.pointer (some ⟨ab,0,none⟩)] 26 (0,0)):=(heap_alloc_old _ _ (by simp)).trans (AZ w _);have h1:((w.alloc (.cells #[.pointer (some ⟨ab,0,none⟩)] 26)).alloc (.cells #[.bool false] 4)).heap[w.heap.size+1]? =some (.cells #[.bool false] 4 (0,0)):=by
  have:=AZ (w.alloc (.cells #[.pointer (some ⟨ab,0,none⟩)] 26)) (.cells #[.bool false] 4);rw[show(w.alloc (.cells #[.pointer (some ⟨ab,0,none⟩)] 26)).heap.size=w.heap.size+1 by simp] at this;exact this
 have hz:((w.alloc (.cells #[.pointer (some ⟨ab,0,none⟩)] 26)).alloc (.cells #[.bool false] 4)).heap.size=w.heap.size+2:=by simp
 generalize World.alloc (World.alloc w _) _=W0 at hb0 h0 h1 hz⊢;have e0:=AJ W0 w.heap.size 0 _ _ (0,0) h0;simp at e0;have hHeld:(fun w'=>w'.cell? ⟨w.heap.size,0,none⟩=some (.pointer (some ⟨ab,0,none⟩))) W0.drew:=e0;refine Ay (fun w'=>w'.cell? ⟨w.heap.size,0,none⟩=some (.pointer (some ⟨ab,0,none⟩))) 3 (by kernel_rfl) ?_;refine tz 0 ?_;refine tz 1 ?_;refine AR (i:=2) rfl (by kernel_rfl) (fun K hK=> ?_);go_simp;refine(TR.out _).mono ?_;rintro e w1 ⟨rfl,rfl⟩;refine hK.out _ _ (hHeld) (fun hHeld=> ?_);clear hK K
 try simp only[Act.put,sA,sB,sC,sD,sE,sF]
 refine Ag (by kernel_rfl) ?_;simp only[List.drop_succ_cons,List.drop_zero];go_wp2_with fail;refine(TW.out _).mono ?_;rintro e w1 ⟨rfl,rfl⟩;have hz':W0.drew.heap.size=w.heap.size+2:=hz;rw[hz'];have hbW:Below W0.heap.size W0 ((W0.drew.alloc (.cells #[.pointer (some ⟨ab,0,none⟩)] 26)).alloc (.cells #[idV 1] 37)):=(((AP).drew).alloc AA _).alloc (by simp) _;have k1:((W0.drew.alloc (.cells #[.pointer (some ⟨ab,0,none⟩)] 26)).alloc (.cells #[idV 1] 37)).heap[w.heap.size+2]? =some (.cells #[.pointer (some ⟨ab,0,none⟩)] 26 (0,0)):=by
  have:=AZ W0.drew (.cells #[.pointer (some ⟨ab,0,none⟩)] 26);rw[hz'] at this;exact(heap_alloc_old _ _ (by simp[hz'])).trans this
 have k2:((W0.drew.alloc (.cells #[.pointer (some ⟨ab,0,none⟩)] 26)).alloc (.cells #[idV 1] 37)).heap[w.heap.size+2+1]? =some (.cells #[idV 1] 37 (0,0)):=by
  have:=AZ (W0.drew.alloc (.cells #[.pointer (some ⟨ab,0,none⟩)] 26)) (.cells #[idV 1] 37);rw[show(W0.drew.alloc (.cells #[.pointer (some ⟨ab,0,none⟩)] 26)).heap.size=w.heap.size+2+1 by simp[hz']] at this;exact this
 have hzW:((W0.drew.alloc (.cells #[.pointer (some ⟨ab,0,none⟩)] 26)).alloc (.cells #[idV 1] 37)).heap.size=w.heap.size+4:=by simp[hz']
 generalize World.alloc (World.alloc W0.drew _) _=W1 at hbW k1 k2 hzW⊢;have g0:W1.heap[w.heap.size]? =some (.cells #[.pointer (some ⟨ab,0,none⟩)] 26 (0,0)):=(hbW.block _ (by omega)).trans h0;have g1:W1.heap[w.heap.size+1]? =some (.cells #[.bool false] 4 (0,0)):=(hbW.block _ (by omega)).trans h1;have hb1:Below w.heap.size w W1:=hb0.trans (hbW.mono (by omega));obtain⟨⟨mb,c,hAr⟩,hkb⟩:=HA.out;have hseq:=IB ab mb c M w.heap.size 1 (w.heap.size+2+1) (w.heap.size+2) F xs W1 (fun W' hf=>hAr.below (hb1.trans (hf.below' (by omega))) AA) (AJ W1 (w.heap.size+2+1) 0 _ _ (0,0) k2) (AJ W1 (w.heap.size+2) 0 _ _ (0,0) k1) ⟨by omega,by omega,by omega,by omega⟩ (by decide) hkb hxs hF;have HB1:=zz hb1;have HARW:=zz (show∀W',Fr (fun q=>w.heap.size≤q) W1 W'→ArOk W' ab M from fun W' hf=>HA.out.below (hb1.trans (hf.below' (by omega))));clear hA hAr hkb k1 k2 hHeld h0 h1 hb0 hbW e0 TW TR hb1;go_wp2;gi_wp2;refine GL (gf:=97) rfl (enters_of Tryz.func97 (by kernel_rfl) rfl) hseq (Fr.refl _ _) rfl (fun q h=>by rcases h with h|h <;>omega) (by omega)
  (fun S pre A=>BoxI ab w.heap.size S A∧(pre.map Am.strip).all (okT M abv)=true) (fun c S _ A=>TypX M abv xs ab w.heap.size c S A) (fun S pre x a A=>TypR ab w.heap.size S x a A∧(pre.map Am.strip).all (okT M abv)=true) (fun S pre A A' h hf=>⟨h.1.fr hf,h.2⟩) (fun c S pre A A' h hf=>⟨h.1,h.2.1.fr hf,hf.at_ h.2.2.1 (fun k=>k ((h.2.1.2.2 _).2 (.inr rfl))),h.2.2.2⟩) ?hI1 (fun S pre A h q hq=>(h.1.lt q hq).2) ?hI1l
  (fun q=>q=w.heap.size∨q=w.heap.size+1) ⟨⟨g0,⟨_,g1⟩,fun q=>Iff.rfl⟩,rfl⟩ (fun q e=>by rcases e with e|e <;>subst e <;>exact⟨by omega,by omega,by omega⟩) ?assign ?body ?done ?stop
 case hI1=>
  rintro S pre x a A A' ⟨⟨S0,blk,hi,ha,hb,hx,hS,hn⟩,hp⟩ hf;exact⟨⟨S0,blk,hi.fr (hf.imp (fun q _ h h'=>h (.inl ((hS q).2 (.inl h'))))),ha,hf.at_ hb (fun h=>h (.inl ((hS blk).2 (.inr rfl)))),(hx.fr AA hf (fun q e h=>h (.inr e))).more hf.size,hS,hn⟩,hp⟩
 case hI1l=>
  rintro S pre x a A ⟨⟨S0,blk,hi,ha,hb,hx,hS,hn⟩,hp⟩ q hq;rcases(hS q).1 hq with h|h
  ·exact(hi.lt q h).2
  ·subst h;exact(Ab.1 hb).1
 case assign=>
  intro l m S pre x A K hi hpre hx hkb hf hK;gi_wp2;refine hK (fun q=>S q∨q=A.heap.size) _ _ ⟨⟨S,A.heap.size,hi.1.fr ((Fr.refl _ _).alloc _), ?_,AZ A _,Sl.alloc hx AA _|>.more (by simp),fun q=>Iff.rfl,fun h=>by have:=(hi.1.lt _ h).2;omega⟩,hi.2⟩ ((Fr.refl _ _).alloc _) (fun q h=>h.imp (fun h=>h) (fun h=>by omega));exact⟨_,_,_,_,_,_,_,_,_,_,_,_,_,_,_,_,_,_,_,_,_,_,_,_,_,_,_,_,_,_,_,_,_,_,_,_,_,_,_,_,_,_,rfl⟩
 case body=>
  rintro l m S pre x a1 A ⟨⟨S0,blk,⟨hbx,⟨r0,hbr⟩,hSv⟩,ha,hb,hx,hS,hn⟩,hpo⟩ hpre hf;obtain⟨u0,u5,u6,u7,u8,u9,u10,u11,u12,u13,u14,u15,u16,u17,u18,u19,u20,u21,u22,u23,u24,u25,u26,u27,u28,u29,u30,u31,u32,u33,u34,u35,u36,u37,u38,u39,u40,u41,u42,u43,u44,u45,rfl⟩:=ha;have hxm:x.strip∈xs:=hpre.subset (by simp);have hf2:Fr (fun q=>w.heap.size≤q) W1 A:=hf.imp (fun q _ e=>by rcases e with(e|e)|e|e <;>omega);have HAA:=zz (HARW.out A hf2);obtain⟨xi,nd,ka,kc⟩:=x;have hxm:(xi,nd)∈xs:=hxm;have hMx:=HMM.out _ hxm;have hkt:=HA.out.2 xi nd hMx;have hnl:=HA.out.len xi;unfold ndAt at hnl;rw[hMx] at hnl;have hnl:nd.kids.length≤1000000:=hnl;have TWn:=zz (UM ab M abv HV.out xi nd ka kc A HAA.out (HALL.out.1 _ hxm) hx (HRB.out xi nd hMx) (fun h=>⟨HALL.out.2.1 _ hxm h,by
   have h0:=HALL.out.2.1 _ hxm h;have:nd.kids.getD 0 0∈nd.kids:=by
    rw[show nd.kids.getD 0 0=nd.kids[0] from by simp[List.getD,h0]];exact List.getElem_mem _
   exact hkt _ this,HRB.out.at _⟩))
  have hidx:=HALL.out.2.2 _ hxm;have hiff:=Hg.MI M abv (xi,nd);dsimp only at hidx hiff;have HX:=zz (show Sl A A.heap.size (.slice ka nd.kids.length kc) nd.kids.length (nd.kids.map idV) from hx);have HBK:=zz (show A.heap[blk]? =some (.cells (Ad nd ka kc) 44 (0,0)) from hb);have HBX:=zz (And.intro hbx hbr);have HSS:=zz (And.intro hSv hS);have HNO:=zz (show okT M abv (xi,nd)=false→xs.all (okT M abv)=false from fun h=>by
   rw[List.all_eq_false];exact⟨_,hxm,by rw[h];simp⟩)
  have HYES:=zz (show okT M abv (xi,nd)=true→((pre++[(⟨xi,nd,ka,kc⟩:Am)]).map Am.strip).all (okT M abv)=true from fun h=>by
   rw[List.map_append,List.all_append,hpo]
   simp[Am.strip,h])
  have HKT:=zz hkt;have hwl:(Cs M abv xi nd).length≤1000000:=by
   have h4:=HAA.out.lenK nd.ref 4;unfold Cs JR
   repeat' split
   all_goals simp
   exact h4
  generalize Cs M abv xi nd=ws at TWn hidx hiff hwl;have e0:=AJ A blk 0 _ _ (0,0) hb;have eB:=AJ A w.heap.size 0 _ _ (0,0) hbx;have b1:=AJ A blk 1 _ _ (0,0) hb;have b2:=AJ A blk 2 _ _ (0,0) hb;have b3:=AJ A blk 3 _ _ (0,0) hb;have b4:=AJ A blk 4 _ _ (0,0) hb;have b5:=AJ A blk 5 _ _ (0,0) hb;have hbl:=(Ab.1 hb).1;have hBl:=(Ab.1 hbx).1;have hRl:=(Ab.1 hbr).1;simp at e0 eB b1 b2 b3 b4 b5;have HIF:=zz hiff;have HID:=zz hidx;have HRET:=zz (show okT M abv (xi,nd)=false→∀W:World,Fr (fun _=>False) A W→∃S',TypX M abv xs ab w.heap.size .ret S' (W.setCell ⟨w.heap.size+1,0,none⟩ (.bool false))∧Fr S A (W.setCell ⟨w.heap.size+1,0,none⟩ (.bool false))∧∀q,S' q→S q∨A.heap.size≤q from fun hno W hf=>by
   have h1:W.heap[w.heap.size]? =some (.cells #[.pointer (some ⟨ab,0,none⟩)] 26 (0,0)):=hf.at_ hbx (fun h=>h);have h2:W.heap[w.heap.size+1]? =some (.cells #[r0] 4 (0,0)):=hf.at_ hbr (fun h=>h);have h3:(W.setCell ⟨w.heap.size+1,0,none⟩ (.bool false)).heap[w.heap.size+1]? =some (.cells #[.bool false] 4 (0,0)):=heap_setCell_same h2 _;exact⟨S0,⟨rfl,⟨(Below.heap_setCell W ⟨w.heap.size+1,0,none⟩ (.bool false) w.heap.size (by show¬w.heap.size=w.heap.size+1;omega)).trans h1,⟨_,h3⟩,hSv⟩,h3,HNO.out hno⟩,(hf.imp (fun q _ e=>e.elim)).set (p:=⟨w.heap.size+1,0,none⟩) (.inl ((hS _).2 (.inl ((hSv _).2 (.inr rfl))))) _,fun q h=> .inl ((hS q).2 (.inl h))⟩)
  have HGO:=zz (show okT M abv (xi,nd)=true→∀W:World,Fr (fun _=>False) A W→∃S',(BoxI ab w.heap.size S' W∧((pre++[(⟨xi,nd,ka,kc⟩:Am)]).map Am.strip).all (okT M abv)=true)∧Fr S A W∧∀q,S' q→S q∨A.heap.size≤q from fun hyes W hf=>
   ⟨S0,⟨⟨hf.at_ hbx (fun h=>h),⟨r0,hf.at_ hbr (fun h=>h)⟩,hSv⟩,HYES.out hyes⟩,hf.imp (fun q _ e=>e.elim),fun q h=> .inl ((hS q).2 (.inl h))⟩)
  clear hx hbx hbr hSv hS hn hb hpo hpre hf hf2 hxm hMx hkt hiff hidx;gi_wp2_with fail;refine⟨trivial,fun h=>(by cases h),(CallsIn.inRound l (callsIn_wide.2 TWn.out)).mono ?_⟩;rintro e W5 ⟨⟨v,rfl,ho5⟩,hb5⟩;obtain⟨a5,c5,rfl⟩:=(Sl.Ai ho5).form;have HO5:=zz (Sl.Ai ho5);have HB5:=zz hb5;have w0:W5.heap[blk]? =some (.cells (Ad nd ka kc) 44 (0,0)):=(hb5.block blk hbl).trans HBK.out;have d0:=AJ W5 blk 0 _ _ (0,0) w0;have d5:=AJ W5 blk 5 _ _ (0,0) w0;have wr5:W5.heap[w.heap.size+1]? =some (.cells #[r0] 4 (0,0)):=(hb5.block _ hRl).trans HBX.out.2;have dr:=AJ W5 (w.heap.size+1) 0 _ _ (0,0) wr5;have fr5:W5.frozen? ⟨w.heap.size+1,0,none⟩=false:=by simp[World.frozen?,wr5]
  simp at d0 d5 dr;have hl5:blk < W5.heap.size:=Ae hbl hb5.size;have hR5:w.heap.size+1 < W5.heap.size:=Ae hRl hb5.size;have HF5:=zz (Fr.of_below (D:=fun _=>False) hb5);clear TWn ho5 hb5 w0 wr5 e0 eB b1 b2 b3 b4 b5;by_cases hbad:nd.kind=19∧ws.length≠nd.kids.length
  ·have hk:((nd.kind:Int)==19)=true:=by simp[hbad.1]
   have hno:okT M abv (xi,nd)=false:=by
    rw[←Bool.not_eq_true];intro h;exact hbad.2 ((HIF.out.1 h).1 hbad.1)
   have hlq:((ws.length:Int) !=(nd.kids.length:Int))=true:=by simp;omega
   have hlq2:¬ws.length=nd.kids.length:=hbad.2;have HFIN:=zz (HRET.out hno W5 HF5.out);clear hbad hno;gi_wp2;exact HFIN.out
  have hle:ws.length≤nd.kids.length:=by
   by_cases h19:nd.kind=19
   ·have:ws.length=nd.kids.length:=by
     rcases Nat.lt_trichotomy ws.length nd.kids.length with h|h|h
     ·exact absurd ⟨h19,by omega⟩ hbad
     ·exact h
     ·exact absurd ⟨h19,by omega⟩ hbad
    omega
   ·exact HID.out h19
  have hrest:(nd.kind=19→ws.length=nd.kids.length):=fun h=>by
   rcases Nat.lt_trichotomy ws.length nd.kids.length with h'|h'|h'
   ·exact absurd ⟨h,by omega⟩ hbad
   ·exact h'
   ·exact absurd ⟨h,by omega⟩ hbad
  have HREST:=zz hrest;have hq19:((nd.kind:Int)==19)=false∨(((nd.kind:Int)==19)=true∧((ws.length:Int) !=(nd.kids.length:Int))=false∧ws.length=nd.kids.length):=by
   by_cases h:nd.kind=19
   ·exact .inr ⟨by simp[h],by simp[hrest h],hrest h⟩
   ·exact .inl (by simp;omega)
  clear hbad hrest;rcases hq19 with hq19|⟨hq19,hlq,hlq2⟩
  all_goals
   gi_wp2
   gi_loopw [31] (fun p wr=>∃i:Nat,p= .int .i64 (i:Int)∧i≤ws.length∧Below W5.heap.size W5 wr∧∀k t,k < i→ws[k]? =some t→CS M (nd.kids.getD k 0)=t) (fun p wr=>ws.length-(intOf p).toNat)
   case atStart=>exact⟨0,rfl,Nat.zero_le _,AP,fun k t hk=>by omega⟩
   case round=>
    obtain⟨i,rfl,hi,hbr,hok⟩:=hrel;have HOK:=zz hok;have HBR:=zz hbr;by_cases hlt:i < ws.length
    ·obtain⟨b,o,rfl,_,kcw⟩:=(show Sl wr wr.heap.size (.slice a5 ws.length c5) ws.length (ws.map u8G) from(HO5.out.below hbr AA).more hbr.size).mapAt hlt
     have hki:i < nd.kids.length:=by omega
     obtain⟨gk,ok,rfl,hgl,kck⟩:=HX.out.mapAt hki;have hkm:nd.kids[i]∈nd.kids:=List.getElem_mem hki;have hkl:=HKT.out _ hkm;have hgd:nd.kids.getD i 0=nd.kids[i]:=by simp[List.getD,hki]
     have hws:ws[i]? =some ws[i]:=AX hlt;have hAk:ArOk wr.drew ab M:=HAA.out.below ((HB5.out.trans (hbr.mono HB5.out.size)).drew);have hrk:=HRB.out.at nd.kids[i];generalize nd.kids[i]=kid at kck hkl hgd hrk;generalize ws[i]=tw at kcw hws;have TT:=zz (P7 ab M kid wr.drew hAk hkl hrk);have hBr:w.heap.size < wr.heap.size:=by have:=hbr.size;omega
     have hbr5:blk < wr.heap.size:=by have:=hbr.size;omega
     have hgr:gk < wr.heap.size:=by have:=hbr.size;have:=HB5.out.size;omega
     have hbA:Below A.heap.size A wr:=HB5.out.trans (hbr.mono HB5.out.size);have q0:wr.cell? ⟨w.heap.size,0,none⟩=some (.pointer (some ⟨ab,0,none⟩)):=by
      have:=AJ A w.heap.size 0 _ _ (0,0) HBX.out.1;rw[hbA.cell (p:=⟨w.heap.size,0,none⟩) hBl];simpa using this
     have q5:wr.cell? ⟨blk,5,none⟩=some (.slice (some ⟨gk,ok,none⟩) nd.kids.length kc):=by
      have:=AJ A blk 5 _ _ (0,0) HBK.out;rw[hbA.cell (p:=⟨blk,5,none⟩) hbl];simpa using this
     have qk:wr.cell? ⟨gk,ok+i,none⟩=some (idV kid):=(hbA.cell (p:=⟨gk,ok+i,none⟩) hgl).trans kck;have wr6:wr.heap[w.heap.size+1]? =some (.cells #[r0] 4 (0,0)):=(hbA.block _ hRl).trans HBX.out.2;have HWR:=zz wr6;have HGD:=zz hgd;have HWS:=zz hws;have hHeld:(fun w'=>w'.cell? ⟨w.heap.size,0,none⟩=some (.pointer (some ⟨ab,0,none⟩))∧w'.cell? ⟨blk,5,none⟩=some (.slice (some ⟨gk,ok,none⟩) nd.kids.length kc)∧w'.cell? ⟨gk,ok+i,none⟩=some (idV kid)) wr.drew:=⟨q0,q5,qk⟩;clear hok hbr hAk hkm hbA hgd hws wr6 q0 q5 qk;gi_wp2;refine BB (fun w'=>w'.cell? ⟨w.heap.size,0,none⟩=some (.pointer (some ⟨ab,0,none⟩))∧w'.cell? ⟨blk,5,none⟩=some (.slice (some ⟨gk,ok,none⟩) nd.kids.length kc)∧w'.cell? ⟨gk,ok+i,none⟩=some (idV kid)) 8 (by kernel_rfl) (by kernel_rfl) (by rintro⟨_,_,h⟩;exact h) ?_;refine tz 0 ?_;refine tz 1 ?_;refine tz 2 ?_;refine tz 3 ?_;refine tz 4 ?_;refine tz 5 ?_;refine tz 7 ?_;refine AR (i:=6) rfl (by kernel_rfl) (fun K hK=> ?_);go_simp;refine TT.out.mono ?_;rintro e W6 ⟨rfl,hb6⟩;have HB6:=zz hb6;clear TT;refine hK.out _ _ (⟨(hb6.cell (p:=⟨w.heap.size,0,none⟩) hBr).trans hHeld.1,(hb6.cell (p:=⟨blk,5,none⟩) hbr5).trans hHeld.2.1,(hb6.cell (p:=⟨gk,ok+i,none⟩) hgr).trans hHeld.2.2⟩) (fun hHeld=> ?_);clear hK K
     try simp only[Act.put,sA,sB,sC,sD,sE,sF]
     refine Ag (by kernel_rfl) ?_;simp only[List.drop_succ_cons,List.drop_zero];have wr7:W6.heap[w.heap.size+1]? =some (.cells #[r0] 4 (0,0)):=(HB6.out.block _ (show w.heap.size+1 < wr.heap.size from(Ab.1 HWR.out).1)).trans HWR.out;have dr7:=AJ W6 (w.heap.size+1) 0 _ _ (0,0) wr7;have fr7:W6.frozen? ⟨w.heap.size+1,0,none⟩=false:=by simp[World.frozen?,wr7]
     simp at dr7;have hl7:=(Ab.1 wr7).1;have HBR6:=zz (show Below W5.heap.size W5 W6 from HBR.out.trans (Below.mono (show Below wr.heap.size wr W6 from⟨HB6.out.os,HB6.out.tape,HB6.out.output,HB6.out.size,HB6.out.block⟩) HBR.out.size));clear wr7;by_cases heq:CS M kid=tw
     ·have hqe:((CS M kid:Int) !=(tw:Int))=false:=by simp[heq]
      have HOK2:=zz (show∀k t,k < i+1→ws[k]? =some t→CS M (nd.kids.getD k 0)=t from fun k t hk ht=>by
       by_cases e:k=i
       ·subst e
        rw[HGD.out,heq];rw[HWS.out] at ht;injection ht
       ·exact HOK.out k t (by omega) ht)
      clear hHeld dr7 fr7;go_wp2;gi_wp2;go_roundw
      case rel=>exact⟨i+1,by go_num,by omega,HBR6.out,HOK2.out⟩
      case measure=>simp[intOf];omega
     ·have hqe:((CS M kid:Int) !=(tw:Int))=true:=by simp;omega
      have hno:okT M abv (xi,nd)=false:=by
       rw[←Bool.not_eq_true];intro h;exact heq (by rw[←HGD.out];exact(HIF.out.1 h).2 i tw HWS.out)
      have HFIN:=zz (HRET.out hno W6 (HF5.out.trans (Fr.of_below HBR6.out)));clear hno hHeld heq;go_wp2;gi_wp2;exact HFIN.out
    ·obtain rfl:i=ws.length:=by omega
     have hyes:okT M abv (xi,nd)=true:=HIF.out.2 ⟨HREST.out,fun k t hk=>HOK.out k t (Af.1 hk).1 hk⟩;have HFIN:=zz (HGO.out hyes wr (HF5.out.trans (Fr.of_below hbr)));clear hyes hok hbr;gi_wp2;exact HFIN.out
 case done=>
  rintro S ys W hys ⟨⟨hbx,⟨r0,hbr⟩,hSv⟩,hall⟩ hK hnS hf;rw[hys] at hall;have fB:W.frozen? ⟨w.heap.size+1,0,none⟩=false:=by simp[World.frozen?,hbr]
  have eB:=AJ W (w.heap.size+1) 0 _ _ (0,0) hbr;simp at eB;have hl2:=(Ab.1 hbr).1;have hne:¬w.heap.size+1=W1.heap.size:=by omega
  have hK2:(W.setCell ⟨w.heap.size+1,0,none⟩ (.bool true)).heap[W1.heap.size]? =some (.deferred (some [])):=(Below.heap_setCell W ⟨w.heap.size+1,0,none⟩ (.bool true) W1.heap.size (fun e=>hne e.symm)).trans hK;have hfs:=hf.set (p:=⟨w.heap.size+1,0,none⟩) (.inl (.inl (.inr rfl))) (.bool true);have hbs:(W.setCell ⟨w.heap.size+1,0,none⟩ (.bool true)).heap[w.heap.size+1]? =some (.cells #[.bool true] 4 (0,0)):=heap_setCell_same hbr _;have hpf:=CV (W.setCell ⟨w.heap.size+1,0,none⟩ (.bool true)) W1.heap.size (.deferred none);have hcell:((W.setCell ⟨w.heap.size+1,0,none⟩ (.bool true)).putObj W1.heap.size (.deferred none)).cell? ⟨w.heap.size+1,0,none⟩=some (.bool true):=by
   have:=AJ _ (w.heap.size+1) 0 _ _ (0,0) (hpf.at_ hbs hne);simpa using this
  have HFIN:=zz (show Below w.heap.size w ((W.setCell ⟨w.heap.size+1,0,none⟩ (.bool true)).putObj W1.heap.size (.deferred none)) from by
   have h1:=HB1.out.trans ((hfs.imp (D':=fun q=>w.heap.size≤q) (fun q _ e=>by rcases e with(e|e)|e|e <;>omega)).below' (by omega));exact h1.trans ((hpf.imp (D':=fun q=>w.heap.size≤q) (fun q _ e=>by omega)).below' h1.size))
  clear hbx hbr hSv hf hfs hbs hpf;gi_wp2;refine⟨by simp,.inl ⟨_,_,rfl,run_takeDeferred hK2, ?_⟩⟩;refine⟨.bool true, ?_,by rw[hall],HFIN.out⟩
  simp[results,Tryz.results22,go_sem,hcell]
 case stop=>
  rintro c S pre W hpre ⟨rfl,⟨hbx,-,hSv⟩,hbr,hall⟩ hK hnS hf;have hne:¬w.heap.size+1=W1.heap.size:=by omega
  have hpf:=CV W W1.heap.size (.deferred none);have hcell:(W.putObj W1.heap.size (.deferred none)).cell? ⟨w.heap.size+1,0,none⟩=some (.bool false):=by
   have:=AJ _ (w.heap.size+1) 0 _ _ (0,0) (hpf.at_ hbr hne);simpa using this
  have HFIN:=zz (show Below w.heap.size w (W.putObj W1.heap.size (.deferred none)) from by
   have h1:=HB1.out.trans ((hf.imp (D':=fun q=>w.heap.size≤q) (fun q _ e=>by rcases e with(e|e)|e|e <;>omega)).below' (by omega));exact h1.trans ((hpf.imp (D':=fun q=>w.heap.size≤q) (fun q _ e=>by omega)).below' h1.size))
  clear hbx hbr hSv hf hpf;gi_wp2;refine⟨by simp,.inl ⟨_,_,rfl,run_takeDeferred hK, ?_⟩⟩;refine⟨.bool false, ?_,by rw[hall],HFIN.out⟩
  simp[results,Tryz.results22,go_sem,hcell]
end Go.Proofs.YtijhlanclfajiaaGreatDoor
namespace Hg
def Pq(M:Nat→Option Node):Prop:=((Bj M).map (Ce M)).Nodup∧(∀m∈Bj M,((BI M m).map (Ce M)).Nodup)∧∀m∈Bj M,∀f∈BI M m,∃F xs,wk M F [f] []=some xs∧F≤1000000∧(Bh xs).Nodup
end Hg
namespace Go.Proofs.YtijhlanclfajiaaGreatDoor
open Go.RowKit
open Hg (GT gl wk isK ndAt Bf Bj BI KB Ce CS Bh Pq)
end Go.Proofs.YtijhlanclfajiaaGreatDoor
namespace Hg
def JL(M:Nat→Option Node)(id:Nat):List Nat→List (Nat×Nat)→List Nat→Option (List (Nat×Nat)×List Nat)
 |[],deep,next=>some (deep,next)
 |k::ks,deep,next=>if (gl deep k).isSome∨(M k).isNone∨200≤(gl deep id).getD 0∨1000000≤deep.length∨1000000≤next.length then none else JL M id ks ((k,(gl deep id).getD 0+1)::deep) (next++[k])
def FT(M:Nat→Option Node):List Nat→List (Nat×Nat)→List Nat→Option (List (Nat×Nat)×List Nat)
 |[],deep,next=>some (deep,next)
 |id::ids,deep,next=>if (M id).isNone then none else match JL M id (ndAt M id).kids deep next with
   |none=>none
   |some r=>FT M ids r.1 r.2
def tRun(M:Nat→Option Node):Nat→List Nat→List (Nat×Nat)→Option (List (Nat×Nat))
 |0,_,_=>none
 |_+1,[],deep=>some deep
 |f+1,i::l,deep=>match FT M (i::l) deep [] with
   |none=>none
   |some r=>tRun M f r.2 r.1
structure Xf (M:Nat→Option Node) (F:Nat) (R:List (Nat×Nat)):Prop where
 root:∃nd,M 1=some nd∧nd.kind=1
 run:tRun M F [1] [(1,1)]=some R
 all:∀i,(gl R i).isSome=(M i).isSome
 refs:∀i nd,M i=some nd→nd.ref < 18446744073709551616∧(nd.ref=0∨(M nd.ref).isSome=true)
end Hg
namespace Go.Proofs.YtijhlanclfajiaaGreatDoor
open Go.RowKit Go.ChangeMaps Go.MapKept Go.WideShapes
open Go.WideElems (Fit rd rg)
open Hg (GT gl wk isK ndAt Bf KB JL FT tRun Xf)
theorem Ty{R:Value→Option (DataW Value×List MemPlace)}{w:World}{b n:Nat}{D:DataW Value}(ho:w.ownsMap Tryz.prog 37 R b n D):
 ∃es:List (Lit×DataW Value),D= .map es∧(es.map (·.1)).Nodup∧∀p∈es,∃i,i < Aj∧p.1=idL i:=by
 obtain⟨es,he,hp⟩:=ho.tidy BM;refine⟨es,he, ?_,fun p hpm=> ?_⟩
 ·rw[List.Nodup,List.pairwise_map]
  exact hp
 ·obtain⟨es0,clock,hb,F,hs,hD⟩:=ho
  rw[he] at hD;injection hD with hD;subst hD;have hm:=(sorted_perm _).mem_iff.1 hpm;obtain⟨v,hv⟩:=Maps.fit_keys F p hm;obtain⟨x,e1,e2,hw⟩:=Maps.keyOf_int_inv Tryz.underlying37 hv;have hw':0≤x∧x≤18446744073709551615:=by
   have m1:IntKind.u64.min=0:=rfl;have m2:IntKind.u64.max=18446744073709551615:=rfl;simpa[Lit.wf,m1,m2] using hw
  obtain⟨i,rfl⟩:=Int.eq_ofNat_of_zero_le hw'.1;exact⟨i,by unfold Aj;omega,e2⟩
theorem Wy{R1 R2:Value→Option (DataW Value×List MemPlace)}{w1 w2:World}{b1 n1 b2 n2:Nat}{D1 D2:DataW Value}(h1:w1.ownsMap Tryz.prog 37 R1 b1 n1 D1)(h2:w2.ownsMap Tryz.prog 37 R2 b2 n2 D2)
 (h:∀i,i < Aj→Maps.has D1 (idL i)=Maps.has D2 (idL i)):Maps.size D1=Maps.size D2:=by
 obtain⟨e1,rfl,n1,k1⟩:=Ty h1;obtain⟨e2,rfl,n2,k2⟩:=Ty h2;have hmem:∀(es:List (Lit×DataW Value)) i,i < Aj→(Maps.has (.map es) (idL i)=true↔idL i∈es.map (·.1)):=by
  intro es i hi;rw[Maps.has_eq,List.any_eq_true];constructor
  ·rintro⟨p,hp,hs⟩
   exact List.mem_map.2 ⟨p,hp,WideAt.sameKey_eq hs⟩
  ·intro hm
   obtain⟨p,hp,e⟩:=List.mem_map.1 hm;exact⟨p,hp,by rw[e];exact WideAt.sameKey_self (BM.key (BZ hi))⟩
 have hp:(e1.map (·.1)).Perm (e2.map (·.1)):=by
  rw[List.perm_ext_iff_of_nodup n1 n2];intro l;constructor
  ·intro hl
   obtain⟨p,hp,rfl⟩:=List.mem_map.1 hl;obtain⟨i,hi,e⟩:=k1 p hp;rw[e] at hl⊢;rw[←hmem _ i hi,←h i hi,hmem _ i hi];exact hl
  ·intro hl
   obtain⟨p,hp,rfl⟩:=List.mem_map.1 hl;obtain⟨i,hi,e⟩:=k2 p hp;rw[e] at hl⊢;rw[←hmem _ i hi,h i hi,hmem _ i hi];exact hl
 have:=hp.length_eq;simpa[Maps.size_eq] using this
theorem EY.lookW{Z:Nat→Prop}{w:World}{ab mb c:Nat}{M:Nat→Option Hg.Node}(h:EY Z w ab mb c M){id:Nat}(hid:id < Aj):
 ∃ka kc,Sl w w.heap.size (.slice ka (ndAt M id).kids.length kc) (ndAt M id).kids.length ((ndAt M id).kids.map idV)∧∀W,Below w.heap.size w W→
   (Instr.lookup 49 (.map (some mb)) (.int .u64 (id:Int)) true).run Tryz.prog W= .ok (.tuple #[ndV (ndAt M id) ka kc,.bool (M id).isSome]) W∧
   (Instr.lookup 49 (.map (some mb)) (.int .u64 (id:Int)) false).run Tryz.prog W= .ok (ndV (ndAt M id) ka kc) W:=by
 obtain⟨⟨D,ho,hc,hk⟩,hbd⟩:=h.map;have hx:=hk id hid;have hz:∀W,(zeroValue 44).run Tryz.prog W= .ok (ndV Hg.Node.zero none 0) W:=fun W=>by kernel_rfl
 unfold ndAt;cases hM:M id with
 |none=>
   rw[hM] at hx;have hx':Maps.has D (idL id)=false:=hx;refine⟨none,0,Sl.nil _ _,fun W hb=> ?_⟩;have ho2:=ho.kept (below_grown hb none) (by simp);obtain⟨v,ps,hrun,hv⟩:=ho2.look_ok BM Tryz.underlying49 (hz W) (zd:= .held (ndV Hg.Node.zero none 0)) (zp:=[]) rfl (BZ hid);obtain⟨v2,ps2,hrun2,hv2⟩:=ho2.lookup BM Tryz.underlying49 (hz W) (zd:= .held (ndV Hg.Node.zero none 0)) (zp:=[]) rfl (BZ hid);simp only[rawR,Option.some.injEq,Prod.mk.injEq] at hv hv2;rw[Maps.atKey_of_not_has hx'] at hv hv2;have e:v=ndV Hg.Node.zero none 0:=by simpa using hv.1
   have e2:v2=ndV Hg.Node.zero none 0:=by simpa using hv2.1
   exact⟨by rw[hrun,hx',e];rfl,by rw[hrun2,e2];rfl⟩
 |some nd=>
   rw[hM] at hx;obtain⟨ka,kc,h1,h2,h3⟩:=hx;refine⟨ka,kc,h2,fun W hb=> ?_⟩;have ho2:=ho.kept (below_grown hb none) (by simp);obtain⟨v,ps,hrun,hv⟩:=ho2.look_ok BM Tryz.underlying49 (hz W) (zd:= .held (ndV Hg.Node.zero none 0)) (zp:=[]) rfl (BZ hid);obtain⟨v2,ps2,hrun2,hv2⟩:=ho2.lookup BM Tryz.underlying49 (hz W) (zd:= .held (ndV Hg.Node.zero none 0)) (zp:=[]) rfl (BZ hid);simp only[rawR,Option.some.injEq,Prod.mk.injEq] at hv hv2;rw[h1] at hv hv2;have e:v=ndV nd ka kc:=by simpa using hv.1
   have e2:v2=ndV nd ka kc:=by simpa using hv2.1
   exact⟨by rw[hrun,Maps.has_true_of_atKey h1,e];rfl,by rw[hrun2,e2];rfl⟩
theorem QT{k:TypeId}{R:Value→Option (DataW Value×List MemPlace)}{w w':World}{b r n:Nat}{D:DataW Value}{left:Lit→Bool}{cnt:Nat}(h:w.ranges Tryz.prog k R b r n D left cnt)(hb:Below w.heap.size w w'):w'.ranges Tryz.prog k R b r n D left cnt:=by
 have h1:=h.lt;have h2:=h.owns.lt;obtain⟨es,clock,since,seen,c0,e1,e2,e3,e4,e5,e6⟩:=h;exact⟨es,clock,since,seen,c0,(hb.block b h2).trans e1,e2,e3,e4,(hb.block r h1).trans e5,e6⟩
def dV(l:List (Nat×Nat)):List (Nat×Value):=l.map fun p=>(p.1,.int .i64 (p.2:Int))
theorem XA(l:List (Nat×Nat))(k:Nat):gl (dV l) k=(gl l k).map fun d=> .int .i64 (d:Int):=Hg.ZE (fun d:Nat=>Value.int .i64 (d:Int)) l k
structure LvSt (mk:Nat) (w0 wr:World) (u:Value) (deep:List (Nat×Nat)) (next:List Nat):Prop where
 own:wr.ownsRow w0.heap.size 37 1 u next.length (next.map idV)
 mp:IMap wr mk (dV deep)
 fr:Fr (fun q=>q=mk∨w0.heap.size≤q) w0 wr
 top:∀x∈next,x < Aj
 len:next.length≤1000000
theorem Yc(n:Hg.Node)(ka:Option Addr)(kc:Nat)(W:World):(Instr.field 44 (ndV n ka kc) 5).run Tryz.prog W= .ok (.slice ka n.kids.length kc) W:=by kernel_rfl
end Go.Proofs.YtijhlanclfajiaaGreatDoor
namespace Hg
def F3(M:Nat→Option Node)(ks:List Nat):Bool:=ks.foldl (fun _ k=>(ndAt M k).kind==10) false
def H7(M:Nat→Option Node)(par:Nat→Nat×Int)(id:Nat)(n:Node):Bool:=F3 M n.kids==((ndAt M (par id).1).kind==3)
end Hg
namespace Go.Proofs.YtijhlanclfajiaaGreatDoor
open Go.RowKit
open Hg (GT gl wk isK ndAt Bf KB F3 H7)
theorem Wq(a b:Nat):((a:Int)==(b:Int))=(a==b):=by
 by_cases h:a=b
 ·subst h;rw[beq_self_eq_true,beq_self_eq_true]
 ·rw[beq_eq_false_iff_ne.2 h,beq_eq_false_iff_ne.2 (by omega)]
theorem QS(ab:Nat)(M:Nat→Option Hg.Node)(par:Nat→Nat×Int)(hp:L8 M par)(id:Nat)(n:Hg.Node)(ka:Option Addr)(kc:Nat)(w:World)(hA:ArOk w ab M)
 (hs:Sl w w.heap.size (.slice ka n.kids.length kc) n.kids.length (n.kids.map idV)) (hl:n.kids.length≤1000000) (hk:∀k∈n.kids,k < Aj):
 Calls Tryz.prog 48 #[.pointer (some ⟨ab,0,none⟩),.int .u64 (id:Int),ndV n ka kc] w fun e w'=>e= .returned (.bool (H7 M par id n))∧Below w.heap.size w w':=by
 have hb0:Below w.heap.size w (w.alloc (.cells (Ad n ka kc) 44)):=(AP).alloc AA _;have hn0:=AZ w (.cells (Ad n ka kc) 44);simp only[Ad] at hb0 hn0;have HA:=zz hA;have HS:=zz hs;have HK:=zz hk;have TP:=zz (hp.call (hA.below hb0) id);unfold H7;generalize hr:(F3 M n.kids==((ndAt M (par id).1).kind==3))=r;have HR:=zz hr;generalize(par id)=pk at TP HR;obtain⟨p,pi⟩:=pk;dsimp only at TP HR;clear hA hs hk hp hr;go_enter Tryz.func48,Tryz.ntmps48;go_wp2_with fail;generalize World.alloc w _=W0 at TP hb0 hn0⊢;have HB0:=zz hb0;have hz0:=hb0.size;have HN0:=zz hn0;clear hb0 hn0;refine TP.out.mono ?_;rintro e w1 ⟨rfl,hpl,hb1⟩;have HB1:=zz (HB0.out.trans (hb1.mono hz0));have HB01:=zz hb1;have TG:=zz ((HA.out.below HB1.out).getN hpl);clear TP hb1;go_wp2_with fail;refine TG.out.mono ?_;rintro e w2 ⟨ka2,kc2,rfl,ho2,hb2⟩;have hb3:=(hb2.alloc hb2.size (.cells (Ad (ndAt M p) ka2 kc2) 44));have hn3:=AZ w2 (.cells (Ad (ndAt M p) ka2 kc2) 44);have e5:=AJ (w2.alloc (.cells (Ad (ndAt M p) ka2 kc2) 44)) w.heap.size 5 _ _ (0,0) (((HB01.out.trans (hb3.mono HB01.out.size)).block w.heap.size (by have:=(Ab.1 HN0.out).1;omega)).trans HN0.out);simp only[Ad] at hb3 hn3 e5;simp at e5;clear TG ho2 hb2;have HR2:=zz (show(F3 M n.kids==((ndAt M p).kind==3))=r from HR.out);go_wp2;generalize World.alloc w2 _=W3 at hb3 hn3 e5⊢;have HB3:=zz (HB1.out.trans (hb3.mono HB1.out.size));have HN3:=zz hn3;have HW2:=zz (show w2.heap.size < W3.heap.size from(Ab.1 hn3).1);clear hn3 hb3 e5;generalize w2.heap.size=nb at HN3 HW2⊢
 go_loopw [11,31] (fun p q wr=>∃i:Nat,p= .bool (F3 M (n.kids.take i))∧q= .int .i64 (i:Int)∧i≤n.kids.length∧Below W3.heap.size W3 wr) (fun _ q wr=>n.kids.length-(intOf q).toNat)
 case atStart=>exact⟨0,by simp[F3],rfl,Nat.zero_le _,AP⟩
 case round=>
  obtain⟨i,rfl,rfl,hi,hb⟩:=hrel;have HB:=zz hb;have hzr:=hb.size;have hb4:=HB3.out.trans (hb.mono HB3.out.size);have HB4:=zz hb4;by_cases hlt:i < n.kids.length
  ·obtain⟨b,o,rfl,_,kck⟩:=(HS.out.below hb4 AA).mapAt hlt
   have hkt:=HK.out _ (List.getElem_mem hlt);have hlast:F3 M (n.kids.take (i+1))=((ndAt M n.kids[i]).kind==10):=by
    rw[List.take_succ_eq_append_getElem hlt];unfold F3;rw[List.foldl_append];rfl
   generalize n.kids[i]=k at kck hkt hlast;have TG:=zz ((HA.out.below hb4).getN hkt);rw[←Wq] at hlast;have HLA:=zz hlast;generalize F3 M (n.kids.take i)=l0;clear hb hb4 hlast;go_wp2_with fail;refine TG.out.mono ?_;rintro e w5 ⟨ka5,kc5,rfl,ho5,hb5⟩;have HB5:=zz ((HB.out.trans (hb5.mono hzr)).alloc (HB.out.trans (hb5.mono hzr)).size (.cells (Ad (ndAt M k) ka5 kc5) 44));clear TG ho5 hb5;go_wp2;go_roundw
   case rel=>exact⟨i+1,by rw[HLA.out];rfl,by go_num,by omega,HB5.out⟩
   case measure=>simp[intOf];omega
  ·obtain rfl:i=n.kids.length:=by omega
   rw[List.take_length];have hlk:(wr.cell? ⟨nb,0,none⟩)=some (.int .u8 ((ndAt M p).kind:Int)):=by
    have:=AJ wr nb 0 _ _ (0,0) ((HB.out.block nb HW2.out).trans HN3.out);simpa using this
   have hr:=HR2.out;rw[←Wq] at hr;have HR3:=zz hr;generalize F3 M n.kids=l1 at HR3⊢;clear hb hb4 hr;go_wp2;go_ret;exact⟨AQ HR3.out,HB4.out⟩
end Go.Proofs.YtijhlanclfajiaaGreatDoor
namespace Go.Proofs.YtijhlanclfajiaaGreatDoor
open Go.RowKit
open Hg (GT gl wk isK ndAt Bf KB)
def MV(M:Nat→Option Hg.Node)(n:Hg.Node):Prop:=
 n.ref < 18446744073709551616∧n.name.length≤1000000∧
 ((n.kind = 2 ∧ n.name ≠ [] ∧ Ga n.name = true ∧ n.type = 0 ∧ n.num = 0 ∧ n.ref = 0) ∨
  ((n.kind=3∨n.kind=4∨n.kind=6)∧n.name≠[]∧Ga n.name=true∧(n.type=1∨n.type=2)∧n.num=0∧n.ref=0)∨
  ((n.kind=7∨n.kind=15)∧n.name=[]∧n.type=0∧n.num=0∧n.ref≠0∧((ndAt M n.ref).kind=4∨(ndAt M n.ref).kind=6))∨
  (n.kind=19∧n.name=[]∧n.type=0∧n.num=0∧n.ref≠0∧(ndAt M n.ref).kind=3)∨
  (n.kind=13∧n.name=[]∧n.type=0∧(0≤n.num∧n.num≤9223372036854775807)∧n.ref=0)∨
  (n.kind=14∧n.name=[]∧n.type=0∧(0≤n.num∧n.num≤1)∧n.ref=0)∨
  (n.kind=18∧n.name=[]∧n.type=0∧(1≤n.num∧n.num≤13)∧n.ref=0)∨
  ((n.kind=1∨n.kind=5∨n.kind=8∨n.kind=9∨n.kind=10∨n.kind=11∨n.kind=12∨n.kind=16∨n.kind=17∨n.kind=20)∧n.name=[]∧n.type=0∧n.num=0∧n.ref=0))
end Go.Proofs.YtijhlanclfajiaaGreatDoor
namespace Hg
def ownD(k:Nat):Nat:=if k=16∨k=17∨k=18∨k=19 then 1 else 0
def Dj(M:Nat→Option Node):Nat→Nat→Nat
 |0,_=>0
 |l+1,id=>if (M id).isNone then 0 else ownD (ndAt M id).kind+(ndAt M id).kids.foldl (fun m k=>max m (Dj M l k+(if (ndAt M k).kind=5∧(ndAt M id).kind≠3 then 1 else 0))) 0
def EW(M:Nat→Option Node)(l kd m k:Nat):Nat:=max m (Dj M l k+(if (ndAt M k).kind=5∧kd≠3 then 1 else 0))
theorem Ij(M:Nat→Option Node)(l id:Nat):Dj M (l+1) id=if (M id).isNone then 0 else ownD (ndAt M id).kind+(ndAt M id).kids.foldl (EW M l (ndAt M id).kind) 0:=rfl
theorem YC(k:Nat):ownD k≤1:=by unfold ownD;split <;>omega
theorem LP(M:Nat→Option Node):∀(l id:Nat),Dj M l id≤2*l
 |0,_=>AA
 |l+1,id=>by
   rw[Ij];split
   ·omega
   ·have h:∀(ks:List Nat) (m:Nat),m≤2*l+1→ks.foldl (EW M l (ndAt M id).kind) m≤2*l+1:=by
     intro ks
     induction ks with
     |nil=>intro m h;exact h
     |cons k ks ih=>
       intro m h;refine ih _ ?_;have:=LP M l k;unfold EW
       split <;>omega
    have h1:=h (ndAt M id).kids 0 (by omega);have h2:=YC (ndAt M id).kind;omega
theorem RL(M:Nat→Option Node)(l kd:Nat)(ks:List Nat):ks.foldl (EW M l kd) 0≤2*l+1:=by
 have h:∀(ks:List Nat) (m:Nat),m≤2*l+1→ks.foldl (EW M l kd) m≤2*l+1:=by
  intro ks
  induction ks with
  |nil=>intro m h;exact h
  |cons k ks ih=>
    intro m h;refine ih _ ?_;have:=LP M l k;unfold EW
    split <;>omega
 exact h ks 0 (by omega)
end Hg
namespace Go.Proofs.YtijhlanclfajiaaGreatDoor
open Go.RowKit
open Hg (GT gl wk isK ndAt Bf KB Dj EW ownD)
theorem VQ(ab:Nat)(M:Nat→Option Hg.Node):∀(l:Nat),l≤1000→∀(w:World) (id:Nat),ArOk w ab M→id < Aj→
 Calls Tryz.prog 49 #[.pointer (some ⟨ab,0,none⟩),.int .u64 (id:Int),.int .i64 (l:Int)] w fun e w'=>e= .returned (.int .i64 (Dj M l id:Int))∧Below w.heap.size w w':=by
 intro l
 induction l with
 |zero=>
   intro hl w id hA hid;have TG:=zz (hA.getN hid);clear hA;go_enter Tryz.func49,Tryz.ntmps49;go_wp2_with fail;refine TG.out.mono ?_;rintro e w1 ⟨ka,kc,rfl,ho1,hb1⟩;have HB:=zz (hb1.alloc hb1.size (.cells (Ad (ndAt M id) ka kc) 44));clear TG ho1 hb1;generalize(M id).isSome=s;cases s <;>
   ·go_wp2
    go_ret;exact⟨rfl,HB.out⟩
 |succ l ih=>
   intro hl w id hA hid;have IH:=zz (ih (by omega));have HA:=zz hA;have TG:=zz (hA.getN hid);have HFI:=zz (Hg.Ij M l id);generalize Dj M (l+1) id=r at HFI⊢;have hq0:(((l+1:Nat):Int)==0)=false:=by simp;omega
   have hsub:IntKind.i64.wrap (((l+1:Nat):Int)-1)=(l:Int):=by rw[show(((l+1:Nat):Int)-1)=(l:Int) from by omega];exact IntWalk.i64_in _ (by omega)
   generalize hL:l+1=Lv at hq0 hsub⊢;have HLV:=zz hL;have hl:l < 1000:=by omega
   clear hL;cases hM:(M id).isNone with
   |true=>
     have hs:(M id).isSome=false:=by
      cases h:M id with
      |none=>rfl
      |some _=>rw[h] at hM;cases hM
     rw[hM] at HFI;have hr:r=0:=HFI.out;subst hr;clear hA ih;go_enter Tryz.func49,Tryz.ntmps49;go_wp2_with fail;refine TG.out.mono ?_;rintro e w1 ⟨ka,kc,rfl,ho1,hb1⟩;have HB:=zz (hb1.alloc hb1.size (.cells (Ad (ndAt M id) ka kc) 44));rw[hs];clear TG ho1 hb1 hs hM HFI;go_wp2;go_ret;exact⟨rfl,HB.out⟩
   |false=>
     have hs:(M id).isSome=true:=by
      cases h:M id with
      |none=>rw[h] at hM;cases hM
      |some _=>rfl
     rw[hM,if_neg (by simp)] at HFI;have HK:=zz (HA.out.2.at id);have hkl:=HA.out.len id;clear hA ih;go_enter Tryz.func49,Tryz.ntmps49;go_wp2_with fail;refine TG.out.mono ?_;rintro e w1 ⟨ka,kc,rfl,ho1,hb1⟩;rw[hs];have hb3:=hb1.alloc hb1.size (.cells (Ad (ndAt M id) ka kc) 44);have hs3:=Sl.Ai (ho1.alloc (.cells (Ad (ndAt M id) ka kc) 44));have hn3:=AZ w1 (.cells (Ad (ndAt M id) ka kc) 44);simp only[Ad] at hb3 hs3 hn3;clear TG ho1 hb1 hs hM;generalize ndAt M id=nd at HFI HK hkl hb3 hs3 hn3⊢;obtain⟨kd,nm,nu,ty,rf,kids⟩:=nd;dsimp only at HFI HK hkl hb3 hs3 hn3⊢;rcases(show kd=16∨kd=17∨kd=18∨kd=19∨(kd≠16∧kd≠17∧kd≠18∧kd≠19) by omega) with h|h|h|h|h
     all_goals
      first
       |have hfin:r=1+kids.foldl (EW M l kd) 0:=by (have h1:=HFI.out;rw[show ownD kd=1 from by (unfold ownD;rw[if_pos (by omega)])] at h1;exact h1)
       |have hfin:r=0+kids.foldl (EW M l kd) 0:=by (have h1:=HFI.out;rw[show ownD kd=0 from by (unfold ownD;rw[if_neg (by omega)])] at h1;exact h1)
      first
       |have q16:((kd:Int)==16)=true:=by simp[h]
       |have q16:((kd:Int)==16)=false:=by (simp;omega)
      first
       |have q17:((kd:Int)==17)=true:=by simp[h]
       |have q17:((kd:Int)==17)=false:=by (simp;omega)
      first
       |have q18:((kd:Int)==18)=true:=by simp[h]
       |have q18:((kd:Int)==18)=false:=by (simp;omega)
      first
       |have q19:((kd:Int)==19)=true:=by simp[h]
       |have q19:((kd:Int)==19)=false:=by (simp;omega)
      clear h HFI;have HFIN:=zz hfin;clear hfin;go_wp2;generalize World.alloc w1 _=W3 at hb3 hs3 hn3⊢;have HB3:=zz hb3;have HS:=zz hs3;have HN3:=zz hn3;have hnl:=(Ab.1 hn3).1;generalize w1.heap.size=nb at HN3 hnl⊢;clear hb3 hs3 hn3
      go_loopw [10,38] (fun p q wr=>∃i:Nat,p= .int .i64 ((kids.take i).foldl (EW M l kd) 0:Nat)∧q= .int .i64 (i:Int)∧i≤kids.length∧Below W3.heap.size W3 wr) (fun _ q wr=>kids.length-(intOf q).toNat)
      case atStart=>exact⟨0,by simp,rfl,Nat.zero_le _,AP⟩
      case round=>
       obtain⟨i,rfl,rfl,hi,hb⟩:=hrel;have HB:=zz hb;have hzr:=hb.size;have hb4:=HB3.out.trans (hb.mono HB3.out.size);have HB4:=zz hb4;by_cases hlt:i < kids.length
       ·obtain⟨b,o,rfl,_,kck⟩:=(HS.out.below hb AA).mapAt hlt
        have hkt:=HK.out _ (List.getElem_mem hlt);have hstep:(kids.take (i+1)).foldl (EW M l kd) 0=EW M l kd ((kids.take i).foldl (EW M l kd) 0) kids[i]:=by
         rw[List.take_succ_eq_append_getElem hlt,List.foldl_append];rfl
        have hml:=Hg.RL M l kd (kids.take i);generalize kids[i]=k at kck hkt hstep;generalize(kids.take i).foldl (EW M l kd) 0=mo at hstep hml⊢;have HST:=zz (show(kids.take (i+1)).foldl (EW M l kd) 0=max mo (Dj M l k+(if (ndAt M k).kind=5∧kd≠3 then 1 else 0)) from hstep);have TD:=zz (IH.out wr k (HA.out.below hb4) hkt);have hdl:=Hg.LP M l k;clear hb hb4 hstep;go_wp2_with fail;refine TD.out.mono ?_;rintro e w5 ⟨rfl,hb5⟩;have HB5:=zz (HB.out.trans (hb5.mono hzr));have TG:=zz ((HA.out.below (HB3.out.trans (HB5.out.mono HB3.out.size))).getN hkt);have hs5:=HB5.out.size;generalize Dj M l k=d at HST hdl⊢;clear hb5 TD;go_wp2_with fail;refine TG.out.mono ?_;rintro e w6 ⟨ka6,kc6,rfl,ho6,hb6⟩;have hb7:=(HB5.out.trans (hb6.mono hs5)).alloc (HB5.out.trans (hb6.mono hs5)).size (.cells (Ad (ndAt M k) ka6 kc6) 44);have HB7:=zz hb7;have y0:=AJ (w6.alloc (.cells (Ad (ndAt M k) ka6 kc6) 44)) nb 0 _ _ (0,0) ((hb7.block nb hnl).trans HN3.out);simp only[Ad] at y0 HB7;have hk5:(ndAt M k).kind=5∨(ndAt M k).kind≠5:=by omega
        clear TG ho6 hb6 hb7 kck;generalize ndAt M k=nk at HST HB7 y0 hk5⊢;obtain⟨kd2,nm2,nu2,ty2,rf2,ks2⟩:=nk;dsimp only at HST HB7 y0 hk5⊢;rcases hk5 with rfl|hk5
        case' inl=>
         simp at y0;by_cases h3:kd=3
         all_goals have hst:=HST.out
         case' pos=>
          rw[if_neg (fun h=>h.2 h3)] at hst;have q3:(((kd:Nat):Int) !=3)=false:=by simp;omega
         case' neg=>
          rw[if_pos ⟨rfl,h3⟩] at hst;have q3:(((kd:Nat):Int) !=3)=true:=by simp;omega
        case' inr=>
         simp at y0;have hst:=HST.out;rw[if_neg (fun h=>hk5 h.1)] at hst;have q5:((kd2:Int)==5)=false:=by simp;omega
        all_goals
         have HS9:=zz hst;clear hst HST;go_wp2;go_roundw
         case rel=>exact⟨i+1,by rw[HS9.out];exact congrArg (Value.int .i64) (by omega),by go_num,by omega,HB7.out⟩
         case measure=>simp[intOf];omega
       ·obtain rfl:i=kids.length:=by omega
        rw[List.take_length];have hml:=Hg.RL M l kd kids;have hfin:=HFIN.out;generalize kids.foldl (EW M l kd) 0=mo at hfin hml⊢;have HR9:=zz hfin;clear hb hb4 hfin;go_wp2;go_ret
        first
         | (have e9 : (r : Int) = 1 + (mo : Int) := by (have := HR9.out; omega)
            rw[e9];exact⟨rfl,HB4.out⟩)
         | (have e9 : (r : Int) = 0 + (mo : Int) := by (have := HR9.out; omega)
            rw[e9];exact⟨by first|rfl|(simp;done),HB4.out⟩)
end Go.Proofs.YtijhlanclfajiaaGreatDoor
namespace Go.Proofs.YtijhlanclfajiaaGreatDoor
open Go.RowKit
open Hg (GT gl wk isK ndAt Bf KB)
structure Iq (w:World) (ab b1 b2:Nat) (M:Nat→Option Hg.Node) (n:Hg.Node) (ka:Option Addr) (kc:Nat):Prop where
 ar:ArOk w ab M
 h1:w.cell? ⟨b1,0,none⟩=some (.pointer (some ⟨ab,0,none⟩))
 h0:w.cell? ⟨b2,0,none⟩=some (.int .u8 (n.kind:Int))
 h2:w.cell? ⟨b2,5,none⟩=some (.slice ka n.kids.length kc)
 lt:b1 < w.heap.size∧b2 < w.heap.size
 sl:Sl w w.heap.size (.slice ka n.kids.length kc) n.kids.length (n.kids.map idV)
 len:n.kids.length≤1000000
 top:∀k∈n.kids,k < Aj
theorem Iq.below{w w':World}{ab b1 b2:Nat}{M:Nat→Option Hg.Node}{n:Hg.Node}{ka:Option Addr}{kc:Nat}(h:Iq w ab b1 b2 M n ka kc)(hb:Below w.heap.size w w'):Iq w' ab b1 b2 M n ka kc:=
 ⟨h.ar.below hb,(hb.cell (p:=⟨b1,0,none⟩) h.lt.1).trans h.h1,(hb.cell (p:=⟨b2,0,none⟩) h.lt.2).trans h.h0,(hb.cell (p:=⟨b2,5,none⟩) h.lt.2).trans h.h2,⟨Ae h.lt.1 hb.size,Ae h.lt.2 hb.size⟩,(h.sl.below hb AA).more hb.size,h.len,h.top⟩
theorem Dt(ab b1 b2:Nat)(M:Nat→Option Hg.Node)(n:Hg.Node)(ka:Option Addr)(kc i:Nat)(w:World)(hK:Iq w ab b1 b2 M n ka kc)(hi:i < n.kids.length):
 Calls Tryz.prog 98 #[.int .i64 (i:Int),.pointer (some ⟨b1,0,none⟩),.pointer (some ⟨b2,0,none⟩)] w fun e w'=>e= .returned (.int .u8 ((ndAt M n.kids[i]).kind:Int))∧Below w.heap.size w w':=by
 have hlen:=hK.len;have c1:=hK.h1;have c2:=hK.h2;have hb1:=hK.lt.1;have hb2:=hK.lt.2;obtain⟨bk,ok,rfl,hbk,ck⟩:=(hK.sl).mapAt hi;have TG:=zz (fun W (h:Below w.heap.size w W)=>(hK.ar.below h).getN (hK.top _ (List.getElem_mem hi)));generalize n.kids[i]=k at ck TG⊢;have HBc:=zz (Below.refl w.heap.size w);clear hK;go_enter Tryz.func98,Tryz.ntmps98;go_wp2;have hHeld:(fun w'=>w'.cell? ⟨b1,0,none⟩=some (.pointer (some ⟨ab,0,none⟩))∧w'.cell? ⟨b2,5,none⟩=some (.slice (some ⟨bk,ok,none⟩) n.kids.length kc)∧w'.cell? ⟨bk,ok+i,none⟩=some (idV k)) w.drew:=⟨c1,c2,ck⟩;have hHeld0:=hHeld;clear c1 c2 ck;refine Ay (fun w'=>w'.cell? ⟨b1,0,none⟩=some (.pointer (some ⟨ab,0,none⟩))∧w'.cell? ⟨b2,5,none⟩=some (.slice (some ⟨bk,ok,none⟩) n.kids.length kc)∧w'.cell? ⟨bk,ok+i,none⟩=some (idV k)) 12 (by kernel_rfl) ?_;refine tz 0 ?_;refine tz 1 ?_;refine tz 2 ?_;refine tz 3 ?_;refine tz 4 ?_;refine tz 5 ?_;refine FQ (i:=6) (j:=10) rfl rfl (by kernel_rfl) (fun K hK=> ?_) (fun K hK=> ?_)
 ·go_simp
  refine Calls.mono (TG.out _ (by first|exact HBc.out|exact HBc.out.drew|exact HBc.out.drew.drew)) ?_;rintro e w5 ⟨ka5,kc5,rfl,ho5,hb5⟩;have HBc:=zz (show Below w.heap.size w w5 from by first|exact HBc.out.trans (hb5.mono HBc.out.size)|exact HBc.out.drew.trans (hb5.mono HBc.out.drew.size));clear ho5 hb5;have hble:w.heap.size≤w5.heap.size:=by first|exact HBc.out.size|exact AA
  refine hK.out _ _ (⟨(HBc.out.cell (p:=⟨b1,0,none⟩) hb1).trans hHeld0.1,(HBc.out.cell (p:=⟨b2,5,none⟩) hb2).trans hHeld0.2.1,(HBc.out.cell (p:=⟨bk,ok+i,none⟩) hbk).trans hHeld0.2.2⟩) (fun hHeld=> ?_);clear hK K
  try simp only[Act.put,sA,sB,sC,sD,sE,sF]
  refine tz 7 ?_;refine tz 8 ?_;refine tz 9 ?_;refine AR (i:=10) rfl (by kernel_rfl) (fun K hK=> ?_);go_simp;generalize hWa:World.alloc _ _=Wa;obtain⟨hBa,hha,hza⟩:=Ky hWa;have HBc:=zz (show Below w.heap.size w Wa from by first|exact HBc.out.trans (hBa.mono HBc.out.size)|exact HBc.out.drew.trans (hBa.mono HBc.out.drew.size));clear hWa hBa;refine hK.out _ _ (⟨(HBc.out.cell (p:=⟨b1,0,none⟩) hb1).trans hHeld0.1,(HBc.out.cell (p:=⟨b2,5,none⟩) hb2).trans hHeld0.2.1,(HBc.out.cell (p:=⟨bk,ok+i,none⟩) hbk).trans hHeld0.2.2⟩) (fun hHeld=> ?_);clear hK K
  try simp only[Act.put,sA,sB,sC,sD,sE,sF]
  refine AR (i:=11) rfl (by kernel_rfl) (fun K hK=> ?_);have z2:=fun i=>AJ Wa w5.heap.size i _ _ (0,0) hha;have y0:=z2 0;have y1:=z2 1;have y2:=z2 2;have y3:=z2 3;have y4:=z2 4;have y5:=z2 5;simp at y0 y1 y2 y3 y4 y5;have f2:∀i,Wa.frozen? ⟨w5.heap.size,i,none⟩=false:=fun i=>by simp[World.frozen?,hha]
  clear z2;go_simp;have hk0:(World.setCell (World.setCell (World.setCell (World.setCell (World.setCell (World.setCell Wa ⟨w5.heap.size,0,none⟩ (.int .u8 ((ndAt M k).kind:Int))) ⟨w5.heap.size,1,none⟩ (strV (ndAt M k).name)) ⟨w5.heap.size,2,none⟩ (.int .i64 (ndAt M k).num)) ⟨w5.heap.size,3,none⟩ (.int .u8 ((ndAt M k).type:Int))) ⟨w5.heap.size,4,none⟩ (.int .u64 ((ndAt M k).ref:Int))) ⟨w5.heap.size,5,none⟩ (.slice ka5 (ndAt M k).kids.length kc5)).cell? ⟨w5.heap.size,0,none⟩=some (.int .u8 ((ndAt M k).kind:Int)):=by simp[go_sem,y0,y1,y2,y3,y4,y5]
  generalize hWb:World.setCell _ _ _=Wb at hk0⊢;have HBc:=zz (show Below w.heap.size w Wb from hWb ▸ CO HBc.out hble _ _ _ _ _ _);clear hWb y0 y1 y2 y3 y4 y5 f2 hha;refine hK.out _ _ (⟨(HBc.out.cell (p:=⟨b1,0,none⟩) hb1).trans hHeld0.1,(HBc.out.cell (p:=⟨b2,5,none⟩) hb2).trans hHeld0.2.1,(HBc.out.cell (p:=⟨bk,ok+i,none⟩) hbk).trans hHeld0.2.2⟩) (fun hHeld=> ?_);clear hK K
  try simp only[Act.put,sA,sB,sC,sD,sE,sF]
  refine Ag (by kernel_rfl) ?_;simp only[List.drop_succ_cons,List.drop_zero];clear hHeld0;go_wp2;go_ret;exact⟨rfl,HBc.out⟩
 ·go_simp
  generalize hWa:World.alloc _ _=Wa;obtain⟨hBa,hha,hza⟩:=Ky hWa;have HBc:=zz (show Below w.heap.size w Wa from by first|exact HBc.out.trans (hBa.mono HBc.out.size)|exact HBc.out.drew.trans (hBa.mono HBc.out.drew.size));clear hWa hBa;refine hK.out _ _ (⟨(HBc.out.cell (p:=⟨b1,0,none⟩) hb1).trans hHeld0.1,(HBc.out.cell (p:=⟨b2,5,none⟩) hb2).trans hHeld0.2.1,(HBc.out.cell (p:=⟨bk,ok+i,none⟩) hbk).trans hHeld0.2.2⟩) (fun hHeld=> ?_);clear hK K
  try simp only[Act.put,sA,sB,sC,sD,sE,sF]
  refine AR (i:=6) rfl (by kernel_rfl) (fun K hK=> ?_);go_simp;refine Calls.mono (TG.out _ (by first|exact HBc.out|exact HBc.out.drew|exact HBc.out.drew.drew)) ?_;rintro e w5 ⟨ka5,kc5,rfl,ho5,hb5⟩;have hha:=(hb5.block _ (Ab.1 hha).1).trans hha;have HBc:=zz (show Below w.heap.size w w5 from by first|exact HBc.out.trans (hb5.mono HBc.out.size)|exact HBc.out.drew.trans (hb5.mono HBc.out.drew.size));clear ho5 hb5;have hble:w.heap.size≤w.heap.size:=by first|exact HBc.out.size|exact AA
  refine hK.out _ _ (⟨(HBc.out.cell (p:=⟨b1,0,none⟩) hb1).trans hHeld0.1,(HBc.out.cell (p:=⟨b2,5,none⟩) hb2).trans hHeld0.2.1,(HBc.out.cell (p:=⟨bk,ok+i,none⟩) hbk).trans hHeld0.2.2⟩) (fun hHeld=> ?_);clear hK K
  try simp only[Act.put,sA,sB,sC,sD,sE,sF]
  refine tz 7 ?_;refine tz 8 ?_;refine tz 9 ?_;refine AR (i:=11) rfl (by kernel_rfl) (fun K hK=> ?_);have z2:=fun i=>AJ w5 w.heap.size i _ _ (0,0) hha;have y0:=z2 0;have y1:=z2 1;have y2:=z2 2;have y3:=z2 3;have y4:=z2 4;have y5:=z2 5;simp at y0 y1 y2 y3 y4 y5;have f2:∀i,w5.frozen? ⟨w.heap.size,i,none⟩=false:=fun i=>by simp[World.frozen?,hha]
  clear z2;go_simp;have hk0:(World.setCell (World.setCell (World.setCell (World.setCell (World.setCell (World.setCell w5 ⟨w.heap.size,0,none⟩ (.int .u8 ((ndAt M k).kind:Int))) ⟨w.heap.size,1,none⟩ (strV (ndAt M k).name)) ⟨w.heap.size,2,none⟩ (.int .i64 (ndAt M k).num)) ⟨w.heap.size,3,none⟩ (.int .u8 ((ndAt M k).type:Int))) ⟨w.heap.size,4,none⟩ (.int .u64 ((ndAt M k).ref:Int))) ⟨w.heap.size,5,none⟩ (.slice ka5 (ndAt M k).kids.length kc5)).cell? ⟨w.heap.size,0,none⟩=some (.int .u8 ((ndAt M k).kind:Int)):=by simp[go_sem,y0,y1,y2,y3,y4,y5]
  generalize hWb:World.setCell _ _ _=Wb at hk0⊢;have HBc:=zz (show Below w.heap.size w Wb from hWb ▸ CO HBc.out hble _ _ _ _ _ _);clear hWb y0 y1 y2 y3 y4 y5 f2 hha;refine hK.out _ _ (⟨(HBc.out.cell (p:=⟨b1,0,none⟩) hb1).trans hHeld0.1,(HBc.out.cell (p:=⟨b2,5,none⟩) hb2).trans hHeld0.2.1,(HBc.out.cell (p:=⟨bk,ok+i,none⟩) hbk).trans hHeld0.2.2⟩) (fun hHeld=> ?_);clear hK K
  try simp only[Act.put,sA,sB,sC,sD,sE,sF]
  refine Ag (by kernel_rfl) ?_;simp only[List.drop_succ_cons,List.drop_zero];clear hHeld0;go_wp2;go_ret;exact⟨rfl,HBc.out⟩
end Go.Proofs.YtijhlanclfajiaaGreatDoor
namespace Hg
def stP(k:Nat):Prop:=6≤k∧k≤12∧k≠10
def exP(k:Nat):Prop:=13≤k∧k≤20
instance (k:Nat):Decidable (stP k):=by unfold stP;infer_instance
instance (k:Nat):Decidable (exP k):=by unfold exP;infer_instance
def kk(M:Nat→Option Node)(n:Node)(i:Nat):Nat:=(ndAt M (n.kids.getD i 0)).kind
def BC(M:Nat→Option Node)(n:Node):Prop:=
 (n.kind=1∧∀i,i < n.kids.length→kk M n i=2)∨
 (n.kind=2∧∀i,i < n.kids.length→kk M n i=3)∨
 (n.kind=3∧0 < n.kids.length∧(∀i,i < n.kids.length-1→kk M n i=4)∧kk M n (n.kids.length-1)=5)∨
 (n.kind=5∧n.kids.length=0)∨
 (n.kind=5∧0 < n.kids.length∧(∀i,i < n.kids.length-1→stP (kk M n i))∧(kk M n (n.kids.length-1)=10∨stP (kk M n (n.kids.length-1))))∨
 (n.kind=8∧n.kids.length=3∧exP (kk M n 0)∧kk M n 1=5∧kk M n 2=5)∨
 (n.kind=9∧n.kids.length=2∧exP (kk M n 0)∧kk M n 1=5)∨
 (n.kind=12∧n.kids.length=1∧kk M n 0=19)∨
 ((n.kind=6∨n.kind=7∨n.kind=10∨n.kind=11∨n.kind=16∨n.kind=17)∧n.kids.length=1∧exP (kk M n 0))∨
 (n.kind=18∧n.kids.length=2∧exP (kk M n 0)∧exP (kk M n 1))∨
 (n.kind=19∧∀i,i < n.kids.length→exP (kk M n i))∨
 ((n.kind=4∨n.kind=13∨n.kind=14∨n.kind=15∨n.kind=20)∧n.kids.length=0)
theorem Wp(M:Nat→Option Node)(n:Node)(i:Nat)(h:i < n.kids.length):(ndAt M n.kids[i]).kind=kk M n i:=by
 unfold kk
 simp[List.getD,AX h]
end Hg
namespace Go.Proofs.YtijhlanclfajiaaGreatDoor
open Go.RowKit
open Hg (GT gl wk isK ndAt Bf KB kk Wp stP exP BC)
theorem PS(k:Nat)(w:World):Calls Tryz.prog 100 #[.int .u8 (k:Int)] w fun e w'=>e= .returned (.func (.func 101) #[] #[.pointer (some ⟨w.heap.size,0,none⟩)])∧w'=w.alloc (.cells #[.int .u8 (k:Int)] 5):=by
 go_enter Tryz.func100,Tryz.ntmps100;go_wp2;go_ret;exact⟨rfl,rfl⟩
theorem Xc(x:Value)(fb:Nat)(w:World):Calls Tryz.prog 99 #[.int .i64 0,.int .i64 (-1),x,.pointer (some ⟨fb,0,none⟩)] w fun e w'=>e= .returned (.bool true)∧w=w':=by
 go_enter Tryz.func99,Tryz.ntmps99;go_wp2;refine wp_loop_once ?_;go_wp2;go_ret;exact⟨rfl,rfl⟩
@[reducible] def kfV(b1 b2:Nat):Value:= .func (.func 98) #[] #[.pointer (some ⟨b1,0,none⟩),.pointer (some ⟨b2,0,none⟩)]
structure Pv (w W0:World) (ab:Nat) (M:Nat→Option Hg.Node) (n:Hg.Node) (ka:Option Addr) (kc:Nat):Prop where
 kb:Iq W0 ab w.heap.size (w.heap.size+1) M n ka kc
 cf:W0.cell? ⟨w.heap.size+2,0,none⟩=some (kfV w.heap.size (w.heap.size+1))
 lf:w.heap.size+2 < W0.heap.size
 be:Below w.heap.size w W0
theorem Pv.below{w W0 W1:World}{ab:Nat}{M:Nat→Option Hg.Node}{n:Hg.Node}{ka:Option Addr}{kc:Nat}(h:Pv w W0 ab M n ka kc)(hb:Below W0.heap.size W0 W1):Pv w W1 ab M n ka kc:=
 ⟨h.kb.below hb,(hb.cell (p:=⟨w.heap.size+2,0,none⟩) h.lf).trans h.cf,Ae h.lf hb.size,h.be.trans (hb.mono h.be.size)⟩
theorem Y9{w:World}{ab:Nat}{M:Nat→Option Hg.Node}{n:Hg.Node}{ka:Option Addr}{kc:Nat}(hA:ArOk w ab M)
 (hs:Sl w w.heap.size (.slice ka n.kids.length kc) n.kids.length (n.kids.map idV)) (hl:n.kids.length≤1000000) (hk:∀k∈n.kids,k < Aj):
 Pv w (((w.alloc (.cells #[.pointer (some ⟨ab,0,none⟩)] 26)).alloc (.cells (Ad n ka kc) 44)).alloc (.cells #[kfV w.heap.size (w.heap.size+1)] 157)) ab M n ka kc:=by
 have h0:=AZ w (.cells #[.pointer (some ⟨ab,0,none⟩)] 26);have b0:Below w.heap.size w (w.alloc (.cells #[.pointer (some ⟨ab,0,none⟩)] 26)):=(AP).alloc AA _;have z0:(w.alloc (.cells #[.pointer (some ⟨ab,0,none⟩)] 26)).heap.size=w.heap.size+1:=by simp
 generalize w.alloc (.cells #[.pointer (some ⟨ab,0,none⟩)] 26)=A at*;have h1:=AZ A (.cells (Ad n ka kc) 44);have b1:Below A.heap.size A (A.alloc (.cells (Ad n ka kc) 44)):=(AP).alloc AA _;have z1:(A.alloc (.cells (Ad n ka kc) 44)).heap.size=w.heap.size+2:=by simp[z0]
 generalize A.alloc (.cells (Ad n ka kc) 44)=B at*;have h2:=AZ B (.cells #[kfV w.heap.size (w.heap.size+1)] 157);have b2:Below B.heap.size B (B.alloc (.cells #[kfV w.heap.size (w.heap.size+1)] 157)):=(AP).alloc AA _;have z2:(B.alloc (.cells #[kfV w.heap.size (w.heap.size+1)] 157)).heap.size=w.heap.size+3:=by simp[z1]
 generalize B.alloc (.cells #[kfV w.heap.size (w.heap.size+1)] 157)=C at*;have hb:Below w.heap.size w C:=b0.trans ((b1.mono (by omega)).trans (b2.mono (by omega)));have k0:C.heap[w.heap.size]? =_:=(b2.block _ (by omega)).trans ((b1.block _ (by omega)).trans h0);have k1:C.heap[w.heap.size+1]? =_:=(b2.block _ (by omega)).trans (z0 ▸ h1);have k2:C.heap[w.heap.size+2]? =_:=z1 ▸ h2;have c1:=AJ C (w.heap.size+1) 0 _ _ (0,0) k1;have c5:=AJ C (w.heap.size+1) 5 _ _ (0,0) k1;exact⟨⟨hA.below hb,AJ C w.heap.size 0 _ _ (0,0) k0,c1,c5,by omega,(hs.below hb AA).more hb.size,hl,hk⟩,AJ C (w.heap.size+2) 0 _ _ (0,0) k2,by omega,hb⟩
@[local go_sem] theorem X7{P:Program}{w:World}{a:Addr}{m:Mode}(fn:Fn)(first captured:Array Value):(store a (.func fn first captured) m).run P w=stored P w a (.func fn first captured) m:=run_store P w a _ m rfl
@[local go_sem] theorem Vk{P:Program}{w:World}{a:Addr}{m:Mode}:(store a .nilFunc m).run P w=stored P w a .nilFunc m:=run_store P w a _ m rfl
end Go.Proofs.YtijhlanclfajiaaGreatDoor
namespace Go.Proofs.YtijhlanclfajiaaGreatDoor
open Go.RowKit
open Hg (GT gl wk isK ndAt Bf KB Xf BC H7 Dj)
attribute [local go_sem] Oper.semAt_some
theorem PD(W:World)(o1 o2:Obj):Below W.heap.size W ((W.alloc o1).alloc o2)∧((W.alloc o1).alloc o2).heap[W.heap.size]? =some o1∧((W.alloc o1).alloc o2).heap[W.heap.size+1]? =some o2∧((W.alloc o1).alloc o2).heap.size=W.heap.size+2:=by
 have h:=AZ (W.alloc o1) o2;rw[show(W.alloc o1).heap.size=W.heap.size+1 by simp] at h;exact⟨((AP).alloc AA _).alloc (by simp) _,(heap_alloc_old _ _ (by simp)).trans (AZ W _),h,by simp⟩
structure Nn (M:Nat→Option Hg.Node) (par:Nat→Nat×Int) (F:Nat) (xs:List (Nat×Hg.Node)):Prop where
 tree:∃F R,Xf M F R
 walk:wk M F [1] []=some xs
 f:F≤1000000
 id:∀x∈xs,x.1 < Aj
 kind:∀x∈xs,1≤x.2.kind∧x.2.kind≤20
 kids:∀x∈xs,BC M x.2
 parts:∀x∈xs,MV M x.2
 root:∀x∈xs,x.2.kind=1↔x.1=1
 rets:∀x∈xs,x.2.kind=5→H7 M par x.1 x.2=true
 deep:∀x∈xs,x.2.kind=3→Dj M 201 x.1≤90
end Go.Proofs.YtijhlanclfajiaaGreatDoor
namespace Go.Proofs.YtijhlanclfajiaaGreatDoor
open Go.RowKit
open Hg (GT gl wk isK ndAt Bf KB Pq ED Cs okT H9 RB)
structure UJ (M:Nat→Option Hg.Node) (par:Nat→Nat×Int) (abv:Nat→Nat) (F F2:Nat) (xs:List (Nat×Hg.Node)):Prop where
 prs:L8 M par
 shaped:Nn M par F xs
 clash:Pq M
 f2:F2≤1000000
 hidden:∀x∈xs,x.2.kind=15∨x.2.kind=7→∃R,ED M par F2 x.1 [] []=some R∧0≤idxI R x.2.ref∧R.length≤1000000
 abo:RY M abv
 rb:RB M
 id:∀x∈xs,x.1≤1000000
 h18:∀x∈xs,x.2.kind=18→0 < x.2.kids.length
 idx:∀x∈xs,x.2.kind≠19→(Cs M abv x.1 x.2).length≤x.2.kids.length
def WG(M:Nat→Option Hg.Node)(abv:Nat→Nat)(xs:List (Nat×Hg.Node)):Nat:=if xs.all (okT M abv) then(if H9 M=0 then 3 else 0) else 11
end Go.Proofs.YtijhlanclfajiaaGreatDoor
namespace Hg
open Go.Proofs.YtijhlanclfajiaaGreatDoor (idxI)
def F6(id:Nat):List Row→Nat×Int
 |[]=>(0,0)
 |r::rows=>if 0≤idxI r.node.kids id∧((F6 id rows).1=0∨r.id < (F6 id rows).1) then(r.id,idxI r.node.kids id) else F6 id rows
theorem Jp(id:Nat):∀(rows:List Row),(∀r∈rows,r.id≠0)→
 ((F6 id rows).1=0∧(F6 id rows).2=0∧∀r∈rows,idxI r.node.kids id < 0)∨
 ((F6 id rows).1≠0∧(∃r∈rows,r.id=(F6 id rows).1∧idxI r.node.kids id=(F6 id rows).2∧0≤(F6 id rows).2)∧∀r∈rows,0≤idxI r.node.kids id→(F6 id rows).1≤r.id)
 |[],_=> .inl ⟨rfl,rfl,fun r h=>by simp at h⟩
 |r::rows,h0=>by
   have ih:=Jp id rows (fun x hx=>h0 x (List.mem_cons_of_mem _ hx));rw[F6];generalize F6 id rows=b at ih;obtain⟨p,k⟩:=b;dsimp only at ih⊢;have hr0:=h0 r (by simp);by_cases hc:0≤idxI r.node.kids id∧(p=0∨r.id < p)
   ·rw[if_pos hc]
    right;refine⟨hr0,⟨r,by simp,rfl,rfl,hc.1⟩,fun x hx h=> ?_⟩;rcases List.mem_cons.1 hx with e|hx
    ·subst e;exact AA
    ·rcases ih with⟨h1,h2,h3⟩|⟨h1,h2,h3⟩
     ·have:=h3 x hx;omega
     ·have:=h3 x hx h
      show r.id≤x.id;omega
   ·rw[if_neg hc]
    rcases ih with⟨h1,h2,h3⟩|⟨h1,⟨x,hx,h2⟩,h3⟩
    ·left
     refine⟨h1,h2,fun x hx=> ?_⟩;rcases List.mem_cons.1 hx with e|hx
     ·subst e;omega
     ·exact h3 x hx
    ·right
     refine⟨h1,⟨x,List.mem_cons_of_mem _ hx,h2⟩,fun y hy h=> ?_⟩;rcases List.mem_cons.1 hy with e|hy
     ·subst e;omega
     ·exact h3 y hy h
structure Fq (rows:List Row):Prop where
 nodup:(rows.map Row.id).Nodup
 zero:∀r∈rows,r.id≠0
 top:∀r∈rows,r.id < 18446744073709551616
theorem BS{rows:List Row}(h:Fq rows){i:Nat}{n:Node}:rowM rows i=some n↔∃r∈rows,r.id=i∧r.node=n:=by
 unfold rowM;constructor
 ·intro he
  cases hf:rows.find? (fun r=>r.id==i) with
  |none=>rw[hf] at he;cases he
  |some r=>
    rw[hf] at he;injection he with he;exact⟨r,List.mem_of_find?_eq_some hf,by simpa using List.find?_some hf,he⟩
 ·rintro⟨r,hr,rfl,rfl⟩
  rw[Q4 rows h.nodup r hr];rfl
theorem Dh{rows:List Row}(h:Fq rows):rowM rows 0=none:=by
 cases hm:rowM rows 0 with
 |none=>rfl
 |some n=>
   obtain⟨r,hr,h0,_⟩:=(BS h).1 hm;exact absurd h0 (h.zero r hr)
def parR(rows:List Row)(id:Nat):Nat×Int:=F6 id rows
def abvL(rows:List Row):Nat→Nat→Nat
 |0,_=>0
 |f+1,id=>if id=0 then 0 else match rowM rows id with
   |none=>0
   |some n=>if n.kind=3 then id else abvL rows f (parR rows id).1
def abvR(rows:List Row)(id:Nat):Nat:=abvL rows (id+1) id
end Hg
namespace Go.Proofs.YtijhlanclfajiaaGreatDoor
open Hg (Row Node rowM Fq BS Dh F6 Jp parR abvL abvR)
theorem DK{rows:List Row}(h:Fq rows)(id:Nat):Dx (rowM rows) id (fun i=>i < Aj) (parR rows id).1 (parR rows id).2:=by
 unfold parR;rcases Jp id rows h.zero with⟨h1,h2,h3⟩|⟨h1,⟨r,hr,h2,h4,h5⟩,h3⟩
 ·left
  refine⟨h1,h2,fun i nd _ hm=> ?_⟩;obtain⟨r,hr,rfl,rfl⟩:=(BS h).1 hm;exact h3 r hr
 ·right
  refine⟨h1, ?_,⟨r.node,(BS h).2 ⟨r,hr,h2,rfl⟩,h4,h5⟩,fun i nd _ hm h0=> ?_⟩
  ·have:=h.top r hr
   show _ < 18446744073709551616;omega
  ·obtain⟨x,hx,rfl,rfl⟩:=(BS h).1 hm
   exact h3 x hx h0
theorem Gy{rows:List Row}(h:Fq rows):L8 (rowM rows) (parR rows):=⟨Dh h,DK h⟩
def DecR(rows:List Row):Prop:=∀r∈rows,(parR rows r.id).1 < r.id∨(parR rows r.id).1=0
theorem Vf{rows:List Row}(h:Fq rows)(hd:DecR rows):∀(f id:Nat),id < f→JX (rowM rows) 3 id (abvL rows f id):=by
 intro f
 induction f with
 |zero=>intro id h;omega
 |succ f ih=>
   intro id hid;rw[abvL];by_cases h0:id=0
   ·rw[if_pos h0,h0];exact .zero
   ·rw[if_neg h0]
    cases hm:rowM rows id with
    |none=>exact .none id hm
    |some n=>
      dsimp only;by_cases hk:n.kind=3
      ·rw[if_pos hk];exact .hit id n h0 hm hk
      ·rw[if_neg hk]
       refine .step id n _ _ _ h0 hm hk (DK h id) (ih _ ?_);obtain⟨r,hr,rfl,_⟩:=(BS h).1 hm;rcases hd r hr with e|e <;>omega
theorem Yg{rows:List Row}(hd:DecR rows)(h:Fq rows):∀(f id:Nat),id < f→abvL rows f id=0∨∃r∈rows,r.id=abvL rows f id:=by
 intro f
 induction f with
 |zero=>intro id h;omega
 |succ f ih=>
   intro id hid;rw[abvL];by_cases h0:id=0
   ·rw[if_pos h0];exact .inl rfl
   ·rw[if_neg h0]
    cases hm:rowM rows id with
    |none=>exact .inl rfl
    |some n=>
      dsimp only;obtain⟨r,hr,hi,_⟩:=(BS h).1 hm;by_cases hk:n.kind=3
      ·rw[if_pos hk];exact .inr ⟨r,hr,hi⟩
      ·rw[if_neg hk]
       exact ih _ (by have:=hd r hr;rw[hi] at this;omega)
theorem Ht{rows:List Row}(h:Fq rows)(hd:DecR rows)(hk:∀r∈rows,r.node.kind≤255):RY (rowM rows) (abvR rows):=by
 refine⟨Dh h,fun i n hm=> ?_,fun i n p k hm hp=> ?_,fun id _=>Vf h hd _ _ (Nat.lt_succ_self _),fun id=> ?_⟩
 ·obtain⟨r,hr,_,rfl⟩:=(BS h).1 hm
  exact hk r hr
 ·obtain⟨e,_⟩:=hp.unique (DK h i)
  obtain⟨r,hr,rfl,_⟩:=(BS h).1 hm;rw[e];exact hd r hr
 ·unfold abvR
  rcases Yg hd h (id+1) id (Nat.lt_succ_self _) with e|⟨r,hr,e⟩
  ·rw[e];decide
  ·rw[←e];exact h.top r hr
end Go.Proofs.YtijhlanclfajiaaGreatDoor
namespace Hg
structure TrM (M:Nat→Option Node) (n:Nat):Prop where
 dom:∀i,(M i).isSome=true↔1≤i∧i≤n
 kid:∀i a,M i=some a→∀k∈a.kids,i < k∧k≤n
 nodup:∀i a,M i=some a→a.kids.Nodup
 par:∀i j a b k,M i=some a→M j=some b→k∈a.kids→k∈b.kids→i=j
 has:∀k,2≤k→k≤n→∃i a,M i=some a∧k∈a.kids
theorem AU(l:List Row)(id:Nat):ndAt (rowM l) id=AL l id:=by
 unfold ndAt rowM AL;cases l.find? fun r=>r.id==id with
 |none=>rfl
 |some r=>rfl
theorem Tr.ids{l:List Row}(h:Tr l):l.map Row.id=List.range' 1 l.length:=by
 apply List.ext_getElem
 ·simp
 ·intro k h1 h2
  simp only[List.getElem_map,List.getElem_range',Nat.one_mul];have hk:k < l.length:=by simpa using h1
  rw[h.rid k l[k] (AX hk)];omega
theorem Tr.rows{l:List Row}(h:Tr l)(hl:l.length≤20000):Fq l:=by
 have hi:=h.ids;have hm:∀r∈l,1≤r.id∧r.id≤l.length:=fun r hr=>by
  obtain⟨k,hk,rfl⟩:=List.getElem_of_mem hr;rw[h.rid k l[k] (AX hk)];omega
 refine⟨by rw[hi];exact List.nodup_range',fun r hr=>by have:=hm r hr;omega,fun r hr=>by have:=hm r hr;omega⟩
theorem Tr.get{l:List Row}(h:Tr l)(hl:l.length≤20000){i:Nat}{a:Node}:rowM l i=some a↔∃r,l[i-1]? =some r∧1≤i∧r.node=a:=by
 rw[BS (h.rows hl)];constructor
 ·rintro⟨r,hr,hid,hn⟩
  obtain⟨k,hk,rfl⟩:=List.getElem_of_mem hr;have h0:=h.rid k l[k] (AX hk);subst hid;refine⟨l[k], ?_,by omega,hn⟩;rw[h0,Nat.add_sub_cancel];exact AX hk
 ·rintro⟨r,hr,h1,hn⟩
  exact⟨r,List.mem_of_getElem? hr,by rw[h.rid _ _ hr];omega,hn⟩
theorem Tr.trM{l:List Row}(h:Tr l)(hl:l.length≤20000)(h0:0 < l.length):TrM (rowM l) l.length:=by
 have hp:((l.flatMap fun r=>r.node.kids)).Nodup:=h.perm.nodup_iff.2 List.nodup_range';have hpw:=List.pairwise_flatMap.1 (show List.Pairwise (· ≠ ·) (l.flatMap fun r=>r.node.kids) from hp);refine⟨fun i=> ?_,fun i a hi k hk=> ?_,fun i a hi=> ?_,fun i j a b k hi hj ha hb=> ?_,fun k h2 hn=> ?_⟩
 ·constructor
  ·intro hs
   obtain⟨a,ha⟩:=Option.isSome_iff_exists.1 hs;obtain⟨r,hr,h1,_⟩:=(h.get hl).1 ha;have:=(Af.1 hr).1;omega
  ·rintro⟨h1,h2⟩
   have:rowM l i=some (l[i-1]'(by omega)).node:=(h.get hl).2 ⟨_,AX (by omega),h1,rfl⟩;rw[this];rfl
 ·obtain⟨r,hr,h1,rfl⟩:=(h.get hl).1 hi
  have:=h.up _ _ hr k hk;omega
 ·obtain⟨r,hr,h1,rfl⟩:=(h.get hl).1 hi
  exact hpw.1 r (List.mem_of_getElem? hr)
 ·obtain⟨r,hr,h1,rfl⟩:=(h.get hl).1 hi
  obtain⟨q,hq,h2,rfl⟩:=(h.get hl).1 hj;have e1:=(Af.1 hr);have e2:=(Af.1 hq);obtain⟨l1,rfl⟩:=e1;obtain⟨l2,rfl⟩:=e2;rcases Nat.lt_trichotomy (i-1) (j-1) with hlt|heq|hlt
  ·exact absurd rfl ((List.pairwise_iff_getElem.1 hpw.2) (i-1) (j-1) l1 l2 hlt k ha k hb)
  ·omega
  ·exact absurd rfl ((List.pairwise_iff_getElem.1 hpw.2) (j-1) (i-1) l2 l1 hlt k hb k ha)
 ·have hm:k∈l.flatMap fun r=>r.node.kids:=h.perm.mem_iff.2 (by rw[List.mem_range'_1];omega)
  obtain⟨r,hr,hk⟩:=List.mem_flatMap.1 hm;obtain⟨i,hi,rfl⟩:=List.getElem_of_mem hr;exact⟨i+1,l[i].node,(h.get hl).2 ⟨l[i],by rw[Nat.add_sub_cancel];exact AX hi,by omega,rfl⟩,hk⟩
section
variable {M:Nat→Option Node} {n:Nat} (hT:TrM M n) (hn:n≤20000) {H:Nat→Nat→Prop}
 (hH0:∀i,¬H 0 i) (hHs:∀j i a,M i=some a→H (j+1) i→∀k∈a.kids,H j k)
structure Lv (M:Nat→Option Node) (n:Nat) (H:Nat→Nat→Prop) (Dn:Nat→Prop) (pre:List Nat) (deep:List (Nat×Nat)):Prop where
 vis:∀i,(gl deep i).isSome=true↔i=1∨(∃p a,Dn p∧M p=some a∧i∈a.kids)∨i∈pre
 keys:(deep.map Prod.fst).Nodup
 bnd:∀p∈deep,1≤p.1∧p.1≤n
 dep:∀i d,gl deep i=some d→1≤d∧H (201-d) i
theorem Bi(l:List (Nat×Nat))(i:Nat):(gl l i).isSome=true↔i∈l.map Prod.fst:=by
 induction l with
 |nil=>simp[gl]
 |cons p l ih=>
   obtain⟨k,v⟩:=p;rw[Cn];by_cases e:k=i
   ·subst e;simp
   ·rw[if_neg (by simpa using e)]
    simp only[List.map_cons,List.mem_cons,ih];constructor
    ·exact fun h=> .inr h
    ·rintro(h|h)
     ·exact absurd h.symm e
     ·exact h
theorem GY:∀(n:Nat) (l:List Nat),l.Nodup→(∀x∈l,1≤x∧x≤n)→l.length≤n:=fun n l hd hb=>by
 have:l.length≤(List.range' 1 n).length:=by
  have:=List.Nodup.length_le_of_subset hd (l₂:=List.range' 1 n) (fun x hx=>by rw[List.mem_range'_1];have:=hb x hx;omega);exact this
 simpa using this
include hT hn hH0 hHs in
theorem QE{id:Nat}{nd:Node}(hid:M id=some nd){Dn:Nat→Prop}(hD:¬Dn id):
 ∀(ks pre:List Nat) (deep:List (Nat×Nat)) (next:List Nat),nd.kids=pre++ks→Lv M n H Dn (next) deep→(∀k∈ks,k∉next)→(gl deep id).isSome=true→next.length < deep.length→
   ∃deep',JL M id ks deep next=some (deep',next++ks)∧Lv M n H Dn (next++ks) deep'∧(next++ks).length < deep'.length
 |[],pre,deep,next,hk,hL,_,hv,hlen=>⟨deep,by simp[JL],by simpa using hL,by simpa using hlen⟩
 |k::ks,pre,deep,next,hk,hL,hnx,hv,hlen=>by
   have hkm:k∈nd.kids:=by rw[hk];simp
   obtain⟨hk1,hkn⟩:=hT.kid id nd hid k hkm;have hidp:=(hT.dom id).1 (by rw[hid];rfl);have hknew:(gl deep k).isSome=false:=by
    cases h:(gl deep k).isSome with
    |false=>rfl
    |true=>
      rcases(hL.vis k).1 h with h|⟨p,a,hp,ha,hka⟩|h
      ·omega
      ·exact absurd (hT.par p id a nd k ha hid hka hkm ▸ hp) hD
      ·exact absurd h (hnx k (by simp))
   have hMk:(M k).isNone=false:=by
    have:=(hT.dom k).2 (by omega);cases hm:M k with
    |none=>rw[hm] at this;cases this
    |some _=>rfl
   obtain⟨d0,hd0⟩:=Option.isSome_iff_exists.1 hv;obtain⟨hd1,hdH⟩:=hL.dep id d0 hd0;have hd200:d0 < 200:=by
    rcases Nat.lt_or_ge d0 200 with h|h
    ·exact h
    ·exfalso
     rcases Nat.lt_or_ge 200 d0 with h2|h2
     ·rw[show 201-d0=0 by omega] at hdH
      exact hH0 id hdH
     ·rw[show 201-d0=0+1 by omega] at hdH
      exact hH0 k (hHs 0 id nd hid hdH k hkm)
   have hkey:k∉deep.map Prod.fst:=fun h=>by rw[(Bi deep k).2 h] at hknew;cases hknew
   have hdl:deep.length+1≤n:=by
    have:=GY n (k::deep.map Prod.fst) (List.nodup_cons.2 ⟨hkey,hL.keys⟩) (fun x hx=>by
     rcases List.mem_cons.1 hx with e|e
     ·subst e;omega
     ·obtain⟨p,hp,rfl⟩:=List.mem_map.1 e
      exact hL.bnd p hp)
    simpa using this
   unfold JL;rw[if_neg (by rw[hknew,hMk,hd0];simp;omega),hd0];have hL':Lv M n H Dn (next++[k]) ((k,(some d0).getD 0+1)::deep):=by
    refine⟨fun i=> ?_,List.nodup_cons.2 ⟨hkey,hL.keys⟩,fun p hp=> ?_,fun i d hi=> ?_⟩
    ·rw[Cn]
     by_cases e:k=i
     ·subst e;simp
     ·rw[if_neg (by simpa using e),hL.vis i]
      constructor
      ·rintro(h|h|h)
       ·exact .inl h
       ·exact .inr (.inl h)
       ·exact .inr (.inr (by simp[h]))
      ·rintro(h|h|h)
       ·exact .inl h
       ·exact .inr (.inl h)
       ·rcases List.mem_append.1 h with h|h
        ·exact .inr (.inr h)
        ·simp at h;exact absurd h.symm e
    ·rcases List.mem_cons.1 hp with e|e
     ·subst e;exact⟨by omega,hkn⟩
     ·exact hL.bnd p e
    ·rw[Cn] at hi
     by_cases e:k=i
     ·subst e
      rw[if_pos (by simp)] at hi;injection hi with hi;subst hi;refine⟨by simp, ?_⟩;show H (201-(d0+1)) k;exact hHs (201-(d0+1)) id nd hid (by rw[show 201-(d0+1)+1=201-d0 by omega];exact hdH) k hkm
     ·rw[if_neg (by simpa using e)] at hi
      exact hL.dep i d hi
   have hkd:(nd.kids).Nodup:=hT.nodup id nd hid;obtain⟨deep',h1,h2,h3⟩:=QE hid hD ks (pre++[k]) ((k,(some d0).getD 0+1)::deep) (next++[k]) (by rw[hk];simp) hL' (fun j hj hm=>by
    rcases List.mem_append.1 hm with h|h
    ·exact hnx j (by simp[hj]) h
    ·simp at h
     subst h;rw[hk] at hkd;have:=(List.nodup_append.1 hkd).2.1;exact(List.nodup_cons.1 this).1 hj) (by
    rw[Cn];by_cases e:k=id
    ·omega
    ·rw[if_neg (by simpa using e)];exact hv) (by simp;omega)
   exact⟨deep',by rw[h1];simp,by simpa using h2,by simpa using h3⟩
def kd(M:Nat→Option Node)(i:Nat):List Nat:=(ndAt M i).kids
theorem Da{M:Nat→Option Node}{p k:Nat}:(∃a,M p=some a∧k∈a.kids)↔k∈kd M p:=by
 unfold kd ndAt;cases h:M p with
 |none=>simp[Node.zero]
 |some a=>simp
include hT hn hH0 hHs in
theorem OA{Dn:Nat→Prop}:∀(ids done:List Nat) (deep:List (Nat×Nat)),(done++ids).Nodup→(∀i∈ids,¬Dn i∧(gl deep i).isSome=true)→Lv M n H Dn (done.flatMap (kd M)) deep→(done.flatMap (kd M)).length < deep.length→
 ∃deep',FT M ids deep (done.flatMap (kd M))=some (deep',(done++ids).flatMap (kd M))∧Lv M n H Dn ((done++ids).flatMap (kd M)) deep'∧∀i,(gl deep i).isSome=true→(gl deep' i).isSome=true
 |[],done,deep,hd,hi,hL,hlen=>⟨deep,by simp[FT],by simpa using hL,fun i h=>h⟩
 |id::ids,done,deep,hd,hi,hL,hlen=>by
   obtain⟨hD,hv⟩:=hi id (by simp);have hid:∃nd,M id=some nd:=by
    have:=hL.bnd;obtain⟨d,hg⟩:=Option.isSome_iff_exists.1 hv;have hm:=(Bi deep id).1 hv;obtain⟨p,hp,rfl⟩:=List.mem_map.1 hm;exact Option.isSome_iff_exists.1 ((hT.dom p.1).2 (hL.bnd p hp))
   obtain⟨nd,hid⟩:=hid;have hkd:kd M id=nd.kids:=by unfold kd ndAt;rw[hid];rfl
   have hnot:id∉done:=by
    intro h;have:=(List.nodup_append.1 hd).2.2 id h id (by simp);exact this rfl
   obtain⟨deep1,h1,h2,h3⟩:=QE hT hn hH0 hHs hid hD nd.kids [] deep (done.flatMap (kd M)) rfl hL (fun k hk hm=>by
    obtain⟨q,hq,hkq⟩:=List.mem_flatMap.1 hm;obtain⟨b,hb,hkb⟩:=Da.2 hkq;exact hnot (hT.par q id b nd k hb hid hkb hk ▸ hq)) hv hlen
   have e:done.flatMap (kd M)++nd.kids=(done++[id]).flatMap (kd M):=by rw[List.flatMap_append];simp[hkd]
   rw[e] at h1 h2 h3;have hmono:∀i,(gl deep i).isSome=true→(gl deep1 i).isSome=true:=fun i h=>by
    rw[h2.vis i];rcases(hL.vis i).1 h with h|h|h
    ·exact .inl h
    ·exact .inr (.inl h)
    ·exact .inr (.inr (by rw[←e];exact List.mem_append_left _ h))
   obtain⟨deep',k1,k2,k3⟩:=OA ids (done++[id]) deep1 (by simpa using hd) (fun i h=>⟨(hi i (by simp[h])).1,hmono i (hi i (by simp[h])).2⟩) h2 h3;refine⟨deep', ?_,by simpa using k2,fun i h=>k3 i (hmono i h)⟩;unfold FT;rw[show(M id).isNone=false by rw[hid];rfl,if_neg (by simp),show(ndAt M id).kids=nd.kids by unfold ndAt;rw[hid];rfl,h1];simpa using k1
include hT hn hH0 hHs in
theorem Ta:∀(m:Nat) (Dl ids:List Nat) (deep:List (Nat×Nat)),n-Dl.length≤m→(Dl++ids).Nodup→(∀i,(gl deep i).isSome=true↔i∈Dl++ids)→Lv M n H (· ∈Dl) [] deep→0 < deep.length→
 ∃R,tRun M (m+2) ids deep=some R∧∀i,(gl R i).isSome=(M i).isSome
 |m,Dl,[],deep,hm,hd,hv,hL,h0=>by
   refine⟨deep,rfl,fun i=> ?_⟩;have hall:∀i,1≤i→i≤n→(gl deep i).isSome=true:=fun i=>by
    induction i using Nat.strongRecOn with
    |_ i ih=>
      intro h1 h2;by_cases e:i=1
      ·exact(hL.vis i).2 (.inl e)
      ·obtain⟨p,a,ha,hk⟩:=hT.has i (by omega) h2
       have hlt:=(hT.kid p a ha i hk).1;have hp:=(hT.dom p).1 (by rw[ha];rfl);have:=(hv p).1 (ih p hlt hp.1 (by omega));exact(hL.vis i).2 (.inr (.inl ⟨p,a,by simpa using this,ha,hk⟩))
   rw[Bool.eq_iff_iff];constructor
   ·intro h
    have hm:=(Bi deep i).1 h;obtain⟨p,hp,rfl⟩:=List.mem_map.1 hm;exact(hT.dom p.1).2 (hL.bnd p hp)
   ·intro h
    have:=(hT.dom i).1 h;exact hall i this.1 this.2
 |m,Dl,id::ids,deep,hm,hd,hv,hL,h0=>by
   have hbnd:∀x∈Dl++(id::ids),1≤x∧x≤n:=fun x hx=>by
    have:=(Bi deep x).1 ((hv x).2 hx);obtain⟨p,hp,rfl⟩:=List.mem_map.1 this;exact hL.bnd p hp
   have hlen:=GY n _ hd hbnd;simp only[List.length_append,List.length_cons] at hlen;have hdis:∀i∈id::ids,i∉Dl:=fun i hi h=>(List.nodup_append.1 hd).2.2 i h i hi rfl;obtain⟨deep',h1,h2,h3⟩:=OA hT hn hH0 hHs (Dn:=(· ∈Dl)) (id::ids) [] deep (by simpa using(List.nodup_append.1 hd).2.1) (fun i hi=>⟨hdis i hi,(hv i).2 (List.mem_append_right _ hi)⟩) hL h0;simp only[List.nil_append,List.flatMap_nil] at h1 h2;cases m with
   |zero=>exfalso;omega
   |succ m=>
   have hkn:∀k,k∈(id::ids).flatMap (kd M)→k∉Dl++(id::ids):=fun k hk hm=>by
    obtain⟨q,hq,hkq⟩:=List.mem_flatMap.1 hk;obtain⟨b,hb,hkb⟩:=Da.2 hkq;have h4:=(hT.kid q b hb k hkb).1;have hq1:=(hT.dom q).1 (by rw[hb];rfl);rcases(hL.vis k).1 ((hv k).2 hm) with h|⟨p,a,hp,ha,hka⟩|h
    ·omega
    ·exact hdis q hq (hT.par p q a b k ha hb hka hkb ▸ hp)
    ·simp at h
   have hnd:((id::ids).flatMap (kd M)).Nodup:=by
    refine List.pairwise_flatMap.2 ⟨fun q hq=> ?_, ?_⟩
    ·obtain⟨b,hb⟩:=Option.isSome_iff_exists.1 ((hT.dom q).2 (hbnd q (List.mem_append_right _ hq)))
     have:kd M q=b.kids:=by unfold kd ndAt;rw[hb];rfl
     rw[this];exact hT.nodup q b hb
    ·refine List.Pairwise.imp ?_ (List.nodup_append.1 hd).2.1
     intro p q hpq x hx y hy e;subst e;obtain⟨a,ha,hxa⟩:=Da.2 hx;obtain⟨b,hb,hxb⟩:=Da.2 hy;exact hpq (hT.par p q a b x ha hb hxa hxb)
   have hvis':∀i,(gl deep' i).isSome=true↔i∈(Dl++(id::ids))++(id::ids).flatMap (kd M):=fun i=>by
    rw[h2.vis i,List.mem_append,←hv i,hL.vis i];constructor
    ·rintro(h|h|h)
     ·exact .inl (.inl h)
     ·exact .inl (.inr (.inl h))
     ·exact .inr h
    ·rintro((h|h|h)|h)
     ·exact .inl h
     ·exact .inr (.inl h)
     ·simp at h
     ·exact .inr (.inr h)
   obtain⟨R,hR,hall⟩:=Ta m (Dl++(id::ids)) ((id::ids).flatMap (kd M)) deep' (by simp;omega) (List.nodup_append.2 ⟨hd,hnd,fun a ha b hb e=>hkn b hb (e ▸ ha)⟩) hvis' ⟨fun i=>by
    rw[h2.vis i];constructor
    ·rintro(h|⟨p,a,hp,ha⟩|h)
     ·exact .inl h
     ·exact .inr (.inl ⟨p,a,List.mem_append_left _ hp,ha⟩)
     ·obtain⟨q,hq,hkq⟩:=List.mem_flatMap.1 h
      obtain⟨b,hb,hkb⟩:=Da.2 hkq;exact .inr (.inl ⟨q,b,List.mem_append_right _ hq,hb,hkb⟩)
    ·rintro(h|⟨p,a,hp,ha,hk⟩|h)
     ·exact .inl h
     ·rcases List.mem_append.1 hp with hp|hp
      ·exact .inr (.inl ⟨p,a,hp,ha,hk⟩)
      ·exact .inr (.inr (List.mem_flatMap.2 ⟨p,hp,Da.1 ⟨a,ha,hk⟩⟩))
     ·simp at h,h2.keys,h2.bnd,h2.dep⟩ (by
    have:(gl deep' id).isSome=true:=(hvis' id).2 (by simp);cases deep' with
    |nil=>simp[gl] at this
    |cons _ _=>simp)
   refine⟨R, ?_,hall⟩;show(match FT M (id::ids) deep [] with|none=>none|some r=>tRun M (m+2) r.2 r.1)=some R;rw[h1];exact hR
end
theorem Jz(l:List Row):∀(rs:List Row) (n m:Nat),CG l rs n=some m→∀r∈rs,r.node.ref=0∨(atI l r.node.ref).isSome=true
 |[],n,m,h,r,hr=>by simp at hr
 |q::rs,n,m,h,r,hr=>by
   unfold CG at h;by_cases hc:q.node.ref≠0∧atI l q.node.ref=none
   ·rw[if_pos hc] at h;cases h
   rw[if_neg hc] at h;cases hk:CJ l q.node.kids n with
   |none=>rw[hk] at h;cases h
   |some k=>
     rw[hk] at h;rcases List.mem_cons.1 hr with e|e
     ·subst e
      by_cases h0:r.node.ref=0
      ·exact .inl h0
      ·right
       cases ha:atI l r.node.ref with
       |none=>exact absurd ⟨h0,ha⟩ hc
       |some _=>rfl
     ·exact Jz l rs k m h r e
theorem J5{l:List Row}:∀{rs:List Row},Bp l rs=true→∀r∈rs,Bo l r=true
 |[],_,r,hr=>by simp at hr
 |q::rs,h,r,hr=>by
   unfold Bp at h;by_cases hq:Bo l q=false
   ·rw[if_pos hq] at h;cases h
   rw[if_neg hq] at h;rcases List.mem_cons.1 hr with e|e
   ·subst e;simpa using hq
   ·exact J5 h r e
theorem FX{l:List Row}:∀{rs:List Row},Bv l rs=some true→∀r∈rs,r.node.kind=3→∃d,DU l 201 r.id=some d∧d≤90
 |[],_,r,hr=>by simp at hr
 |q::rs,h,r,hr=>by
   unfold Bv at h;intro hk;rcases List.mem_cons.1 hr with e|e
   ·subst e
    rw[if_pos hk] at h;cases hd:DU l 201 r.id with
    |none=>rw[hd] at h;cases h
    |some d=>
      rw[hd] at h;dsimp only at h;by_cases h9:90 < d
      ·rw[if_pos h9] at h;cases h
      ·exact⟨d,rfl,by omega⟩
   ·by_cases h3:q.node.kind=3
    ·rw[if_pos h3] at h
     cases hd:DU l 201 q.id with
     |none=>rw[hd] at h;cases h
     |some d=>
       rw[hd] at h;dsimp only at h;by_cases h9:90 < d
       ·rw[if_pos h9] at h;cases h
       ·rw[if_neg h9] at h;exact FX h r e hk
    ·rw[if_neg h3] at h;exact FX h r e hk
theorem FV{l:List Row}(h:shaped l=some true):tree l=true∧(∀r∈l,Bo l r=true)∧∀r∈l,r.node.kind=3→∃d,DU l 201 r.id=some d∧d≤90:=by
 unfold shaped at h;by_cases h1:tree l=false
 ·rw[if_pos h1] at h;cases h
 rw[if_neg h1] at h;by_cases h2:Bp l l=false
 ·rw[if_pos h2] at h;cases h
 rw[if_neg h2] at h;exact⟨by simpa using h1,J5 (by simpa using h2),FX h⟩
structure UI (l:List Row) (r:Row):Prop where
 lo:1≤r.node.kind
 hi:r.node.kind≤20
 root:r.node.kind=1↔r.id=1
 fit:fits r.node.kind (classes l r.node.kids) (decide (kindOf l (parentOf l r.id).1=3))=true
 named:isNamed r.node.kind=(r.node.name !=[])
 name:isNamed r.node.kind=true→Cb r.node.name=true∧inL words r.node.name=false
 typed:(isNamed r.node.kind && decide (r.node.kind≠2))=(decide (r.node.type=1)||decide (r.node.type=2))
 notype:(isNamed r.node.kind && decide (r.node.kind≠2))=false→r.node.type=0
 ref7:r.node.kind=7∨r.node.kind=15→kindOf l r.node.ref=4∨kindOf l r.node.ref=6
 ref19:r.node.kind=19→kindOf l r.node.ref=3
 ref0:r.node.kind≠7→r.node.kind≠15→r.node.kind≠19→r.node.ref=0
 num13:r.node.kind=13→0≤r.node.num
 num14:r.node.kind=14→0≤r.node.num∧r.node.num≤1
 num18:r.node.kind=18→1≤r.node.num∧r.node.num≤13
 num0:r.node.kind≠13→r.node.kind≠14→r.node.kind≠18→r.node.num=0
theorem Jb{l:List Row}{r:Row}(h:Bo l r=true):UI l r:=by
 unfold Bo at h;dsimp only at h;by_cases h1:r.node.kind < 1∨20 < r.node.kind∨decide (r.node.kind=1)≠decide (r.id=1)∨fits r.node.kind (classes l r.node.kids) (decide (kindOf l (parentOf l r.id).1=3))=false
 ·rw[if_pos h1] at h;cases h
 rw[if_neg h1] at h;by_cases h2:isNamed r.node.kind≠(r.node.name !=[])∨isNamed r.node.kind=true∧(Cb r.node.name=false∨inL words r.node.name=true)
 ·rw[if_pos h2] at h;cases h
 rw[if_neg h2] at h;by_cases h3:(isNamed r.node.kind && decide (r.node.kind≠2))≠(decide (r.node.type=1)||decide (r.node.type=2))∨(isNamed r.node.kind && decide (r.node.kind≠2))=false∧r.node.type≠0
 ·rw[if_pos h3] at h;cases h
 rw[if_neg h3] at h;have a1:1≤r.node.kind:=by omega
 have a2:r.node.kind≤20:=by omega
 have a3:decide (r.node.kind=1)=decide (r.id=1):=Classical.byContradiction fun h=>h1 (.inr (.inr (.inl h)));have a4:fits r.node.kind (classes l r.node.kids) (decide (kindOf l (parentOf l r.id).1=3))=true:=by
  cases hf:fits r.node.kind (classes l r.node.kids) (decide (kindOf l (parentOf l r.id).1=3)) with
  |true=>rfl
  |false=>exact absurd (.inr (.inr (.inr hf))) h1
 have b1:isNamed r.node.kind=(r.node.name !=[]):=Classical.byContradiction fun h=>h2 (.inl h);have b2:isNamed r.node.kind=true→Cb r.node.name=true∧inL words r.node.name=false:=fun hn=>by
  constructor
  ·cases h8:Cb r.node.name with
   |true=>rfl
   |false=>exact absurd (.inr ⟨hn,.inl h8⟩) h2
  ·cases h8:inL words r.node.name with
   |false=>rfl
   |true=>exact absurd (.inr ⟨hn,.inr h8⟩) h2
 have c1:=Classical.byContradiction fun h=>h3 (.inl h);have c2:(isNamed r.node.kind && decide (r.node.kind≠2))=false→r.node.type=0:=fun hn=>Classical.byContradiction fun h=>h3 (.inr ⟨hn,h⟩);have base:∀{p q t u v w x:Prop},p→q→t→u→v→w→x→p∧q∧t∧u∧v∧w∧x:=fun a b c d e f g=>⟨a,b,c,d,e,f,g⟩;have rest:(r.node.kind=7∨r.node.kind=15→kindOf l r.node.ref=4∨kindOf l r.node.ref=6)∧(r.node.kind=19→kindOf l r.node.ref=3)∧(r.node.kind≠7→r.node.kind≠15→r.node.kind≠19→r.node.ref=0)∧(r.node.kind=13→0≤r.node.num)∧(r.node.kind=14→0≤r.node.num∧r.node.num≤1)∧(r.node.kind=18→1≤r.node.num∧r.node.num≤13)∧(r.node.kind≠13→r.node.kind≠14→r.node.kind≠18→r.node.num=0):=by
  by_cases k7:r.node.kind=7∨r.node.kind=15
  ·rw[if_pos k7] at h
   by_cases hk:kindOf l r.node.ref≠4∧kindOf l r.node.ref≠6
   ·rw[if_pos hk] at h;cases h
   ·rw[if_neg hk] at h
    have:=of_decide_eq_true h;exact base (fun _=>by omega) (fun _=>by omega) (fun _ _=>by omega) (fun _=>by omega) (fun _=>by omega) (fun _=>by omega) (fun _ _ _=>this)
  rw[if_neg k7] at h;by_cases k19:r.node.kind=19
  ·rw[if_pos k19] at h
   by_cases hk:kindOf l r.node.ref≠3
   ·rw[if_pos hk] at h;cases h
   ·rw[if_neg hk] at h
    have:=of_decide_eq_true h;exact base (fun _=>by omega) (fun _=>by omega) (fun _ _=>by omega) (fun _=>by omega) (fun _=>by omega) (fun _=>by omega) (fun _ _ _=>this)
  rw[if_neg k19] at h;by_cases hr:r.node.ref≠0
  ·rw[if_pos hr] at h;cases h
  rw[if_neg hr] at h;have hr:r.node.ref=0:=by omega
  by_cases k13:r.node.kind=13
  ·rw[if_pos k13] at h
   have:=of_decide_eq_true h;exact base (fun _=>by omega) (fun _=>by omega) (fun _ _ _=>hr) (fun _=>this) (fun _=>by omega) (fun _=>by omega) (fun _ _ _=>by omega)
  rw[if_neg k13] at h;by_cases k14:r.node.kind=14
  ·rw[if_pos k14] at h
   have:=of_decide_eq_true h;exact base (fun _=>by omega) (fun _=>by omega) (fun _ _ _=>hr) (fun _=>by omega) (fun _=>this) (fun _=>by omega) (fun _ _ _=>by omega)
  rw[if_neg k14] at h;by_cases k18:r.node.kind=18
  ·rw[if_pos k18] at h
   have:=of_decide_eq_true h;exact base (fun _=>by omega) (fun _=>by omega) (fun _ _ _=>hr) (fun _=>by omega) (fun _=>by omega) (fun _=>this) (fun _ _ _=>by omega)
  rw[if_neg k18] at h;have:=of_decide_eq_true h;exact base (fun _=>by omega) (fun _=>by omega) (fun _ _ _=>hr) (fun _=>by omega) (fun _=>by omega) (fun _=>by omega) (fun _ _ _=>this)
 obtain⟨r1,r2,r3,r4,r5,r6,r7⟩:=rest;refine⟨a1,a2,⟨fun h=> ?_,fun h=> ?_⟩,a4,b1,b2,c1,c2,r1,r2,r3,r4,r5,r6,r7⟩
 ·rw[decide_eq_true h] at a3;exact of_decide_eq_true a3.symm
 ·rw[decide_eq_true h] at a3;exact of_decide_eq_true a3
theorem M8{s t:Str}(h:only s t=true){i:Nat}{c:UInt8}(hi:s[i]? =some c):c∈t:=by
 have:=List.all_eq_true.1 h c (List.mem_of_getElem? hi);obtain⟨x,hx,e⟩:=List.any_eq_true.1 this;rw[beq_iff_eq] at e;exact e ▸ hx
theorem Lu(k:Nat):(BO k=77→k=2)∧(BO k=70→k=3)∧(BO k=80→k=4)∧(BO k=66→k=5)∧(BO k=83→stP k)∧(BO k=82→k=10)∧(BO k=69∨BO k=67→exP k)∧(BO k=67→k=19):=by
 have no:∀{a b:UInt8} {p:Prop},a≠b→(a=b→p):=fun h e=>absurd e h;have no2:∀{a b c d:UInt8} {p:Prop},a≠b→c≠d→(a=b∨c=d→p):=fun h h' e=>e.elim (absurd · h) (absurd · h');unfold BO stP exP;by_cases h1:k=19
 ·rw[if_pos h1];subst h1;decide
 rw[if_neg h1];by_cases h2:EC k=true
 ·rw[if_pos h2]
  have:13≤k∧k≤20:=by unfold EC at h2;simpa using h2
  exact⟨no (by decide),no (by decide),no (by decide),no (by decide),no (by decide),no (by decide),fun _=>this,no (by decide)⟩
 rw[if_neg h2];by_cases h3:k=10
 ·rw[if_pos h3];exact⟨no (by decide),no (by decide),no (by decide),no (by decide),no (by decide),fun _=>h3,no2 (by decide) (by decide),no (by decide)⟩
 rw[if_neg h3];by_cases h4:6≤k∧k≤12
 ·rw[if_pos h4];exact⟨no (by decide),no (by decide),no (by decide),no (by decide),fun _=>⟨h4.1,h4.2,h3⟩,no (by decide),no2 (by decide) (by decide),no (by decide)⟩
 rw[if_neg h4];by_cases h5:k=5
 ·rw[if_pos h5];exact⟨no (by decide),no (by decide),no (by decide),fun _=>h5,no (by decide),no (by decide),no2 (by decide) (by decide),no (by decide)⟩
 rw[if_neg h5];by_cases h6:k=4
 ·rw[if_pos h6];exact⟨no (by decide),no (by decide),fun _=>h6,no (by decide),no (by decide),no (by decide),no2 (by decide) (by decide),no (by decide)⟩
 rw[if_neg h6];by_cases h7:k=3
 ·rw[if_pos h7];exact⟨no (by decide),fun _=>h7,no (by decide),no (by decide),no (by decide),no (by decide),no2 (by decide) (by decide),no (by decide)⟩
 rw[if_neg h7];by_cases h8:k=2
 ·rw[if_pos h8];exact⟨fun _=>h8,no (by decide),no (by decide),no (by decide),no (by decide),no (by decide),no2 (by decide) (by decide),no (by decide)⟩
 rw[if_neg h8];exact⟨no (by decide),no (by decide),no (by decide),no (by decide),no (by decide),no (by decide),no2 (by decide) (by decide),no (by decide)⟩
theorem LD(l:List Row)(n:Node)(i:Nat):kindOf l (n.kids.getD i 0)=kk (rowM l) n i:=by
 unfold kk kindOf;rw[AU]
theorem JF(l:List Row)(n:Node){i:Nat}(h:i < n.kids.length):(classes l n.kids)[i]? =some (BO (kk (rowM l) n i)):=by
 unfold classes;rw[List.getElem?_map,AX h,←LD]
 simp[List.getD,AX h]
theorem Pi(l:List Row)(n:Node):(classes l n.kids).length=n.kids.length:=by simp[classes]
theorem Ie{l:List Row}{n:Node}{b:Bool}(h:fits n.kind (classes l n.kids) b=true)(hi:n.kind≤20)(h1:1≤n.kind):BC (rowM l) n:=by
 have inv:=fun i=>Lu (kk (rowM l) n i);have on:∀{t:Str} {i:Nat},only (classes l n.kids) t=true→i < n.kids.length→BO (kk (rowM l) n i)∈t:=fun ho hi=>M8 ho (JF l n hi);have tk:∀{t:Str} {i m:Nat},only ((classes l n.kids).take m) t=true→i < m→i < n.kids.length→BO (kk (rowM l) n i)∈t:=fun ho him hi=>M8 ho (by rw[List.getElem?_take,if_pos him];exact JF l n hi);have dr:∀{t:Str} {i m:Nat},(classes l n.kids).drop m=t→m≤i→i < n.kids.length→t[i-m]? =some (BO (kk (rowM l) n i)):=fun ho him hi=>by
  rw[←ho,List.getElem?_drop,show _+(_-_)=_ from Nat.add_sub_cancel' him];exact JF l n hi
 have ex:∀{i:Nat},BO (kk (rowM l) n i)∈([69,67]:Str)→exP (kk (rowM l) n i):=fun hm=>(inv _).2.2.2.2.2.2.1 (by simpa using hm);have hlen:=Pi l n;unfold fits at h;unfold BC;by_cases k1:n.kind=1
 ·rw[if_pos k1] at h
  exact .inl ⟨k1,fun i hi=>(inv i).1 (by simpa using on h hi)⟩
 rw[if_neg k1] at h;by_cases k2:n.kind=2
 ·rw[if_pos k2] at h
  exact .inr (.inl ⟨k2,fun i hi=>(inv i).2.1 (by simpa using on h hi)⟩)
 rw[if_neg k2] at h;by_cases k3:n.kind=3
 ·rw[if_pos k3] at h
  simp only[Bool.and_eq_true,decide_eq_true_eq,beq_iff_eq,hlen] at h;obtain⟨⟨ha,hb⟩,hc⟩:=h;refine .inr (.inr (.inl ⟨k3,ha,fun i hi=>(inv i).2.2.1 (by simpa using tk hb hi (by omega)), ?_⟩));have:=dr hc AA (by omega:n.kids.length-1 < n.kids.length);rw[Nat.sub_self] at this;exact(inv _).2.2.2.1 (by simpa using this.symm)
 rw[if_neg k3] at h;by_cases k5:n.kind=5
 ·rw[if_pos k5] at h
  by_cases h0:n.kids.length=0
  ·exact .inr (.inr (.inr (.inl ⟨k5,h0⟩)))
  refine .inr (.inr (.inr (.inr (.inl ⟨k5,by omega, ?_⟩))));cases b with
  |true=>
    rw[if_pos rfl] at h;simp only[Bool.and_eq_true,decide_eq_true_eq,beq_iff_eq,hlen] at h;obtain⟨⟨ha,hb⟩,hc⟩:=h;refine⟨fun i hi=>(inv i).2.2.2.2.1 (by simpa using tk hb hi (by omega)),.inl ?_⟩;have:=dr hc AA (by omega:n.kids.length-1 < n.kids.length);rw[Nat.sub_self] at this;exact(inv _).2.2.2.2.2.1 (by simpa using this.symm)
  |false=>
    rw[if_neg (by simp)] at h;exact⟨fun i hi=>(inv i).2.2.2.2.1 (by simpa using on h (by omega)),.inr ((inv _).2.2.2.2.1 (by simpa using on h (by omega)))⟩
 rw[if_neg k5] at h;by_cases k6:n.kind=6∨n.kind=7∨n.kind=10∨n.kind=11∨n.kind=16∨n.kind=17
 ·rw[if_pos k6] at h
  simp only[Bool.and_eq_true,decide_eq_true_eq,hlen] at h;exact .inr (.inr (.inr (.inr (.inr (.inr (.inr (.inr (.inl ⟨by omega,h.1,ex (on h.2 (by omega))⟩))))))))
 rw[if_neg k6] at h;by_cases k8:n.kind=8
 ·rw[if_pos k8] at h
  simp only[Bool.and_eq_true,decide_eq_true_eq,beq_iff_eq,hlen] at h;obtain⟨⟨ha,hb⟩,hc⟩:=h;have e1:=dr hc (Nat.le_refl 1) (by omega:1 < n.kids.length);have e2:=dr hc (by omega:1≤2) (by omega:2 < n.kids.length);exact .inr (.inr (.inr (.inr (.inr (.inl ⟨k8,ha,ex (tk hb (by omega) (by omega)),(inv _).2.2.2.1 (by simpa using e1.symm),(inv _).2.2.2.1 (by simpa using e2.symm)⟩)))))
 rw[if_neg k8] at h;by_cases k9:n.kind=9
 ·rw[if_pos k9] at h
  simp only[Bool.and_eq_true,decide_eq_true_eq,beq_iff_eq,hlen] at h;obtain⟨⟨ha,hb⟩,hc⟩:=h;have e1:=dr hc (Nat.le_refl 1) (by omega:1 < n.kids.length);exact .inr (.inr (.inr (.inr (.inr (.inr (.inl ⟨k9,ha,ex (tk hb (by omega) (by omega)),(inv _).2.2.2.1 (by simpa using e1.symm)⟩))))))
 rw[if_neg k9] at h;by_cases k12:n.kind=12
 ·rw[if_pos k12] at h
  rw[beq_iff_eq] at h;have hl1:n.kids.length=1:=by rw[←hlen,h];rfl
  have e0:=JF l n (by omega:0 < n.kids.length);rw[h] at e0;exact .inr (.inr (.inr (.inr (.inr (.inr (.inr (.inl ⟨k12,hl1,(inv _).2.2.2.2.2.2.2 (by simpa using e0.symm)⟩)))))))
 rw[if_neg k12] at h;by_cases k18:n.kind=18
 ·rw[if_pos k18] at h
  simp only[Bool.and_eq_true,decide_eq_true_eq,hlen] at h;exact .inr (.inr (.inr (.inr (.inr (.inr (.inr (.inr (.inr (.inl ⟨k18,h.1,ex (on h.2 (by omega)),ex (on h.2 (by omega))⟩)))))))))
 rw[if_neg k18] at h;by_cases k19:n.kind=19
 ·rw[if_pos k19] at h
  exact .inr (.inr (.inr (.inr (.inr (.inr (.inr (.inr (.inr (.inr (.inl ⟨k19,fun i hi=>ex (on h hi)⟩))))))))))
 rw[if_neg k19] at h;have h0:=of_decide_eq_true h;rw[hlen] at h0;exact .inr (.inr (.inr (.inr (.inr (.inr (.inr (.inr (.inr (.inr (.inr ⟨by omega,h0⟩))))))))))
end Hg
namespace Hg
open Go.Proofs.YtijhlanclfajiaaGreatDoor (idxI Dx DK Aj)
theorem Ar{M:Nat→Option Node}{i:Nat}{a:Node}(h:M i=some a):ndAt M i=a:=by unfold ndAt;rw[h];rfl
theorem DW(ids:List Nat)(id:Nat):0≤idxI ids id↔id∈ids:=by
 unfold idxI;cases h:ids.findIdx? (· ==id) with
 |none=>
   simp only[List.findIdx?_eq_none_iff] at h;constructor
   ·intro h';exact absurd h' (by decide)
   ·intro hm;have:=h id hm;simp at this
 |some k=>
   obtain⟨hk,he,_⟩:=List.findIdx?_eq_some_iff_getElem.1 h;constructor
   ·intro _
    have:ids[k]=id:=by simpa using he
    exact this ▸ List.getElem_mem hk
   ·intro _;exact Int.natCast_nonneg k
theorem M3{l:List Row}(hT:Tr l)(hl:l.length≤20000)(h0:0 < l.length){p k:Nat}{a:Node}(hp:rowM l p=some a)(hk:k∈a.kids):(parR l k).1=p∧(parR l k).2=idxI a.kids k:=by
 have hM:=hT.trM hl h0;rcases DK (hT.rows hl) k with⟨h1,_,h3⟩|⟨h1,_,⟨b,hb,he,h5⟩,h6⟩
 ·have hpl:=(hM.dom p).1 (by rw[hp];rfl)
  have:=h3 p a (by show p < 18446744073709551616;omega) hp;have h4:=(DW a.kids k).2 hk;omega
 ·have hkb:k∈b.kids:=(DW b.kids k).1 (by rw[he];exact h5)
  have:=hM.par _ _ _ _ _ hp hb hk hkb;subst this;rw[hp] at hb;obtain rfl:=Option.some.inj hb;exact⟨rfl,he.symm⟩
theorem JP:∀(l:List Row) (id:Nat),(∃r∈l,id∈r.node.kids)→∃r∈l,id∈r.node.kids∧(parentOf l id).1=r.id
 |[],id,h=>by obtain⟨r,hr,_⟩:=h;simp at hr
 |q::rs,id,h=>by
   unfold parentOf;cases hf:q.node.kids.findIdx? (· ==id) with
   |some k=>
     obtain⟨hk,he,_⟩:=List.findIdx?_eq_some_iff_getElem.1 hf;exact⟨q,by simp,(by simpa using he:q.node.kids[k]=id) ▸ List.getElem_mem hk,rfl⟩
   |none=>
     simp only[List.findIdx?_eq_none_iff] at hf;obtain⟨r,hr,hid⟩:=h;rcases List.mem_cons.1 hr with e|e
     ·subst e;have:=hf id hid;simp at this
     ·obtain⟨r',h1,h2,h3⟩:=JP rs id ⟨r,e,hid⟩
      exact⟨r',List.mem_cons_of_mem _ h1,h2,h3⟩
theorem JQ:∀(l:List Row) (id:Nat),(∀r∈l,id∉r.node.kids)→(parentOf l id).1=0
 |[],_,_=>rfl
 |q::rs,id,h=>by
   unfold parentOf;rw[show q.node.kids.findIdx? (· ==id)=none from List.findIdx?_eq_none_iff.2 fun x hx=>by
    have:=h q (by simp);simp;exact fun e=>this (e ▸ hx)]
   exact JQ rs id fun r hr=>h r (List.mem_cons_of_mem _ hr)
theorem Li{l:List Row}(hT:Tr l)(hl:l.length≤20000)(h0:0 < l.length)(id:Nat):(parentOf l id).1=(parR l id).1:=by
 by_cases h:∃r∈l,id∈r.node.kids
 ·obtain⟨r,hr,hk,he⟩:=JP l id h
  rw[he];exact(M3 hT hl h0 ((BS (hT.rows hl)).2 ⟨r,hr,rfl,rfl⟩) hk).1.symm
 ·rw[JQ l id fun r hr hk=>h ⟨r,hr,hk⟩]
  rcases DK (hT.rows hl) id with⟨h1,_,_⟩|⟨h1,_,⟨b,hb,he,h5⟩,_⟩
  ·exact h1.symm
  ·obtain⟨r,hr,_,rfl⟩:=(BS (hT.rows hl)).1 hb
   exact absurd ⟨r,hr,(DW _ _).1 (by rw[he];exact h5)⟩ h
theorem NJ(M:Nat→Option Node)(ks:List Nat)(k:Nat):F3 M (ks++[k])=((ndAt M k).kind==10):=by unfold F3;rw[List.foldl_append];rfl
theorem X9{l:List Row}(hT:Tr l)(hl:l.length≤20000)(h0:0 < l.length){r:Row}(hr:r∈l)(ho:UI l r)(h5:r.node.kind=5):H7 (rowM l) (parR l) r.id r.node=true:=by
 have hf:=ho.fit;have e1:kindOf l (parentOf l r.id).1=(ndAt (rowM l) (parR l r.id).1).kind:=by rw[Li hT hl h0];unfold kindOf;rw[AU]
 rw[e1] at hf;unfold H7;unfold fits at hf;rw[if_neg (by omega),if_neg (by omega),if_neg (by omega),if_pos h5] at hf;have hlen:=Pi l r.node;rw[beq_iff_eq];rcases List.eq_nil_or_concat r.node.kids with hn|⟨ks,k,hn⟩
 ·rw[hn] at hlen⊢
  by_cases hb:(ndAt (rowM l) (parR l r.id).1).kind=3
  ·rw[if_pos (by simpa using hb)] at hf
   simp only[Bool.and_eq_true,decide_eq_true_eq] at hf;have:=hf.1.1;rw[hn] at this
   simp[classes] at this
  ·show false=_
   simpa using hb
 ·rw[List.concat_eq_append] at hn
  rw[hn,NJ];have hkl:ks.length < r.node.kids.length:=by rw[hn];simp
  have hkk:kk (rowM l) r.node ks.length=(ndAt (rowM l) k).kind:=by unfold kk;rw[hn];simp
  have hc:=JF l r.node hkl;rw[hkk] at hc;have inv:=Lu (ndAt (rowM l) k).kind;by_cases hb:(ndAt (rowM l) (parR l r.id).1).kind=3
  ·rw[if_pos (by simpa using hb)] at hf
   simp only[Bool.and_eq_true,decide_eq_true_eq,beq_iff_eq,hlen] at hf;have h1:=hf.2;have h2:(List.drop (r.node.kids.length-1) (classes l r.node.kids))[0]? =some (82:UInt8):=by rw[h1];rfl
   rw[List.getElem?_drop,show r.node.kids.length-1+0=ks.length by rw[hn];simp,hc] at h2;injection h2 with h2;rw[inv.2.2.2.2.2.1 h2,hb];rfl
  ·rw[if_neg (by simpa using hb)] at hf
   have h2:=M8 hf hc;have h3:=inv.2.2.2.2.1 (by simpa using h2);rw[beq_eq_false_iff_ne.2 h3.2.2,beq_eq_false_iff_ne.2 hb]
theorem Kb{l:List Row}{D:Nat→Option Nat}{E:Nat→Nat}{kind:Nat}:∀(ks:List Nat) (m d:Nat),(∀k∈ks,∀d,D k=some d→E k=d)→Db l D kind ks m=some d→
 ks.foldl (fun m k=>max m (E k+(if kindOf l k=5∧kind≠3 then 1 else 0))) m+ownD kind=d
 |[],m,d,hE,h=>by
   unfold Db at h;injection h with h;subst h;simp only[List.foldl_nil];unfold ownD;by_cases hk:16≤kind∧kind≤19
   ·rw[if_pos (by omega),if_pos hk]
   ·rw[if_neg (by omega),if_neg hk];rfl
 |k::ks,m,d,hE,h=>by
   unfold Db at h;cases hd:D k with
   |none=>rw[hd] at h;cases h
   |some e=>
     rw[hd] at h;dsimp only at h;have:=Kb ks _ d (fun k hk=>hE k (List.mem_cons_of_mem _ hk)) h;rw[List.foldl_cons,hE k (by simp) e hd];rw[←this]
     congr 2
     by_cases hc:kindOf l k=5∧kind≠3
     ·rw[if_pos hc,if_pos hc]
     ·rw[if_neg hc,if_neg hc];rfl
theorem Ov{l:List Row}:∀(f id d:Nat),DU l f id=some d→Dj (rowM l) f id=d
 |0,id,d,h=>by cases h
 |f+1,id,d,h=>by
   unfold DU at h;rw[Ij];cases hM:rowM l id with
   |none=>
     have e:AL l id=Node.zero:=by rw[←AU];unfold ndAt;rw[hM];rfl
     unfold kindOf at h;rw[e] at h;simpa[Db,Node.zero] using h
   |some a=>
     rw[if_neg (by simp)];have e:AL l id=a:=by rw[←AU];exact Ar hM
     have h2:=Kb (E:=fun k=>Dj (rowM l) f k) _ _ d (fun k _ d hd=>Ov f k d hd) h;rw[←h2,Nat.add_comm];have ek:kindOf l id=(ndAt (rowM l) id).kind:=by unfold kindOf;rw[AU]
     rw[ek,←AU];have ef:EW (rowM l) f (ndAt (rowM l) id).kind=fun m k=>max m (Dj (rowM l) f k+if kindOf l k=5∧(ndAt (rowM l) id).kind≠3 then 1 else 0):=by
      funext m k
      unfold EW kindOf;rw[AU]
     rw[ef]
theorem Iy{l:List Row}:∀(f:Nat) (s out r:List Nat),EA l f s out=some r→∃xs,wk (rowM l) f s out.reverse=some xs∧r=out++xs.map Prod.fst
 |0,s,out,r,h=>by cases h
 |f+1,[],out,r,h=>by
   injection h with h;subst h;exact⟨[],rfl,by simp⟩
 |f+1,i::s,out,r,h=>by
   unfold EA at h;rw[EF];unfold rowM;rw[Ig];cases ha:atI l i with
   |none=>
     rw[ha] at h;exact Iy f s out r h
   |some k=>
     rw[ha] at h;dsimp only at h;have hk:∃q,l[k]? =some q:=by
      unfold atI at ha;obtain⟨hk,_⟩:=List.findIdx?_eq_some_iff_getElem.1 ha;exact⟨l[k],AX hk⟩
     obtain⟨q,hq⟩:=hk;rw[Option.bind_some,hq];simp only[Option.map_some];by_cases hi:isIn out i=true
     ·rw[if_pos hi] at h
      rw[if_pos (by unfold isIn at hi;simpa using hi)];exact Iy f s out r h
     ·rw[if_neg hi] at h
      rw[if_neg (by unfold isIn at hi;simpa using hi)];have ek:CU l k=q.node.kids:=by unfold CU rowAt;simp[List.getD,hq]
      obtain⟨xs,h1,h2⟩:=Iy f (CU l k++s) (out++[i]) r h;rw[ek] at h1;refine⟨(i,q.node)::xs, ?_,by rw[h2];simp⟩;rw[show i::out.reverse=(out++[i]).reverse by simp];show((wk (rowM l) f (q.node.kids++s) (out++[i]).reverse).map _)=_;rw[h1];rfl
theorem MF(l:List Row)(id:Nat):∃xs,wk (rowM l) (BF l+2) [id] []=some xs∧walk l id=xs.map Prod.fst:=by
 obtain⟨xs,h1,h2⟩:=Iy _ _ _ _ (O7 l id);exact⟨xs,h1,by simpa using h2⟩
end Hg
namespace Hg
theorem Jm{k:Nat}(h:stP k):BO k=83:=by
 obtain⟨h1,h2,h3⟩:=h;unfold BO EC;rw[if_neg (by omega),if_neg (by simp;omega),if_neg h3,if_pos ⟨h1,h2⟩]
theorem Su{k:Nat}(h:exP k):BO k=67∨BO k=69:=by
 obtain⟨h1,h2⟩:=h;unfold BO EC;by_cases h19:k=19
 ·rw[if_pos h19];exact .inl rfl
 ·rw[if_neg h19,if_pos (by simp;omega)];exact .inr rfl
theorem Tk{s t:Str}(h:∀(i:Nat) (c:UInt8),s[i]? =some c→c∈t):only s t=true:=by
 unfold only;rw[List.all_eq_true];intro c hc;obtain⟨i,hi⟩:=List.getElem?_of_mem hc;rw[List.any_eq_true];exact⟨c,h i c hi,by simp⟩
theorem JE{s:Str}{m:Nat}{c:UInt8}(hl:s.length=m+1)(h:s[m]? =some c):s.drop m=[c]:=by
 have hm:m < s.length:=by omega
 rw[Au hm,List.drop_eq_nil_of_le (by omega)];rw[AX hm] at h;injection h with h;rw[h]
theorem Qt{l:List Row}{n:Node}{b:Bool}(hk:BC (rowM l) n)(h5:n.kind=5→F3 (rowM l) n.kids=b):fits n.kind (classes l n.kids) b=true:=by
 have cg:=fun {i:Nat} (h:i < n.kids.length)=>JF l n h;have hlen:=Pi l n;have on:∀{t:Str},(∀i,i < n.kids.length→BO (kk (rowM l) n i)∈t)→only (classes l n.kids) t=true:=fun h=>Tk fun i c hc=>by
  have hi:i < n.kids.length:=by rw[←hlen];exact(Af.1 hc).1
  rw[cg hi] at hc;injection hc with hc;rw[←hc];exact h i hi
 have tk:∀{t:Str} {m:Nat},(∀i,i < m→i < n.kids.length→BO (kk (rowM l) n i)∈t)→only ((classes l n.kids).take m) t=true:=fun h=>Tk fun i c hc=>by
  rw[List.getElem?_take] at hc
  split at hc
  ·rename_i him
   have hi:i < n.kids.length:=by rw[←hlen];exact(Af.1 hc).1
   rw[cg hi] at hc;injection hc with hc;rw[←hc];exact h i him hi
  ·cases hc
 have dl:∀{c:UInt8},0 < n.kids.length→BO (kk (rowM l) n (n.kids.length-1))=c→(classes l n.kids).drop (n.kids.length-1)=[c]:=fun h0 h=>JE (by rw[hlen];omega) (by rw[cg (by omega),h]);have ex:∀{k:Nat},exP k→BO k∈([69,67]:Str):=fun h=>by rcases Su h with e|e <;>simp[e]
 unfold BC at hk;unfold fits;rcases hk with⟨a1,a2⟩|⟨a1,a2⟩|⟨a1,a2,a3,a4⟩|⟨a1,a2⟩|⟨a1,a2,a3,a4⟩|⟨a1,a2,a3,a4,a5⟩|⟨a1,a2,a3,a4⟩|⟨a1,a2,a3⟩|⟨a1,a2,a3⟩|⟨a1,a2,a3,a4⟩|⟨a1,a2⟩|⟨a1,a2⟩
 ·rw[if_pos a1];exact on fun i hi=>by rw[a2 i hi];decide
 ·rw[if_neg (by omega),if_pos a1];exact on fun i hi=>by rw[a2 i hi];decide
 ·rw[if_neg (by omega),if_neg (by omega),if_pos a1,hlen,dl a2 (by rw[a4];try rfl),tk (fun i hi _=>by rw[a3 i hi];decide),decide_eq_true a2];first|done|rfl
 ·rw[if_neg (by omega),if_neg (by omega),if_neg (by omega),if_pos a1]
  have hnil:n.kids=[]:=List.eq_nil_of_length_eq_zero a2;have:=h5 a1;rw[hnil] at this⊢;have hb:b=false:=by rw[←this];rfl
  subst hb;rfl
 ·rw[if_neg (by omega),if_neg (by omega),if_neg (by omega),if_pos a1]
  have hb:=h5 a1;have hlast:F3 (rowM l) n.kids=decide (kk (rowM l) n (n.kids.length-1)=10):=by
   rcases List.eq_nil_or_concat n.kids with hn|⟨ks,k,hn⟩
   ·rw[hn] at a2;cases a2
   ·rw[List.concat_eq_append] at hn
    rw[hn,NJ];have:kk (rowM l) n ((ks++[k]).length-1)=(ndAt (rowM l) k).kind:=by unfold kk;rw[hn];simp
    rw[this];rw[Bool.eq_iff_iff];simp
  rw[hlast] at hb;rcases a4 with a4|a4
  ·rw[decide_eq_true a4] at hb
   subst hb;rw[if_pos rfl,hlen,dl a2 (by rw[a4];try rfl),tk (fun i hi _=>by rw[Jm (a3 i hi)];simp),decide_eq_true a2];first|done|rfl
  ·have hne:¬kk (rowM l) n (n.kids.length-1)=10:=a4.2.2
   rw[decide_eq_false hne] at hb;subst hb;rw[if_neg (by simp)];refine on fun i hi=> ?_;by_cases e:i=n.kids.length-1
   ·rw[e,Jm a4];simp
   ·rw[Jm (a3 i (by omega))];simp
 ·rw[if_neg (by omega),if_neg (by omega),if_neg (by omega),if_neg (by omega),if_neg (by omega),if_pos a1,hlen,decide_eq_true a2,tk (fun i hi _=>by cases(show i=0 by omega);exact ex a3)]
  have h1:=cg (show 1 < n.kids.length by omega);have h2:=cg (show 2 < n.kids.length by omega);rw[a4] at h1;rw[a5] at h2;have hd:(classes l n.kids).drop 1=[66,66]:=by
   rw[Au (by omega),JE (m:=2) (by omega) h2];rw[AX (by omega)] at h1;injection h1 with h1;rw[h1];rfl
  rw[hd];rfl
 ·rw[if_neg (by omega),if_neg (by omega),if_neg (by omega),if_neg (by omega),if_neg (by omega),if_neg (by omega),if_pos a1,hlen,decide_eq_true a2,tk (fun i hi _=>by cases(show i=0 by omega);exact ex a3)]
  have h1:=cg (show 1 < n.kids.length by omega);rw[a4] at h1;rw[JE (m:=1) (by omega) h1];rfl
 ·rw[if_neg (by omega),if_neg (by omega),if_neg (by omega),if_neg (by omega),if_neg (by omega),if_neg (by omega),if_neg (by omega),if_pos a1]
  have h1:=cg (show 0 < n.kids.length by omega);rw[a3] at h1;have:=JE (m:=0) (by omega) h1;rw[List.drop_zero] at this;rw[this];rfl
 ·rw[if_neg (by omega),if_neg (by omega),if_neg (by omega),if_neg (by omega),if_pos (by omega),hlen,decide_eq_true a2,on (fun i hi=>by cases(show i=0 by omega);exact ex a3)];rfl
 ·rw[if_neg (by omega),if_neg (by omega),if_neg (by omega),if_neg (by omega),if_neg (by omega),if_neg (by omega),if_neg (by omega),if_neg (by omega),if_pos a1,hlen,decide_eq_true a2,on (fun i hi=>by
   rcases(show i=0∨i=1 by omega) with rfl|rfl
   ·exact ex a3
   ·exact ex a4)];rfl
 ·rw[if_neg (by omega),if_neg (by omega),if_neg (by omega),if_neg (by omega),if_neg (by omega),if_neg (by omega),if_neg (by omega),if_neg (by omega),if_neg (by omega),if_pos a1]
  exact on fun i hi=>ex (a2 i hi)
 ·rw[if_neg (by omega),if_neg (by omega),if_neg (by omega),if_neg (by omega),if_neg (by omega),if_neg (by omega),if_neg (by omega),if_neg (by omega),if_neg (by omega),if_neg (by omega),hlen]
  exact decide_eq_true a2
end Hg
