/-
  A part of the proof.
-/
import Derived.Test.YtfgnfpdfohjopaaGreatDoorKgBF
set_option linter.all false
set_option maxHeartbeats 0
set_option maxRecDepth 100000
namespace Hg
def JF(M:Nat→Option Node)(n:Node):List Nat:=if n.num≤9 then[1,1] else if n.num≤11 then[Bt M (n.kids.getD 0 0),Bt M (n.kids.getD 0 0)] else[2,2]
def Bj(M:Nat→Option Node)(abv:Nat→Nat)(id:Nat)(n:Node):List Nat:=
 if n.kind=6 then[n.type]
 else if n.kind=7 then[(ndAt M n.ref).type]
 else if n.kind=8∨n.kind=9∨n.kind=16 then[2]
 else if n.kind=17 then[1]
 else if n.kind=10 then[(ndAt M (abv id)).type]
 else if n.kind=18 then JF M n
 else if n.kind=19 then(CO M n.ref 4).map fun p=>(ndAt M p).type
 else[]
def okT(M:Nat→Option Node)(abv:Nat→Nat)(x:Nat×Node):Bool:=
 (!(x.2.kind==19)||(Bj M abv x.1 x.2).length==x.2.kids.length) && (Bj M abv x.1 x.2).zipIdx.all fun p=>Bt M (x.2.kids.getD p.2 0)==p.1
theorem Oh(M:Nat→Option Node)(abv:Nat→Nat)(x:Nat×Node):okT M abv x=true↔(x.2.kind=19→(Bj M abv x.1 x.2).length=x.2.kids.length)∧∀i t,(Bj M abv x.1 x.2)[i]? =some t→Bt M (x.2.kids.getD i 0)=t:=by
 unfold okT;rw[Bool.and_eq_true,List.all_eq_true];constructor
 ·rintro⟨h1,h2⟩
  refine⟨fun hk=> ?_,fun i t hi=> ?_⟩
  ·rw[hk] at h1
   simpa using h1
  ·have:=h2 (t,i) (List.mem_zipIdx_iff_getElem?.2 hi)
   simpa using this
 ·rintro⟨h1,h2⟩
  refine⟨?_,fun p hp=> ?_⟩
  ·by_cases hk:x.2.kind=19
   ·simp[hk,h1 hk]
   ·simp[hk]
  ·obtain⟨t,i⟩:=p
   have:=h2 i t (List.mem_zipIdx_iff_getElem?.1 hp);simpa using this
def RB(M:Nat→Option Node):Prop:=∀i nd,M i=some nd→nd.ref < 18446744073709551616
theorem RB.at{M:Nat→Option Node}(h:RB M)(i:Nat):(ndAt M i).ref < 18446744073709551616:=by
 unfold ndAt;cases hM:M i with
 |none=>simp[Node.zero]
 |some nd=>exact h i nd hM
theorem JP(M:Nat→Option Node):∀(f:Nat) (s seen:List Nat) (r:List (Nat×Node)),wk M f s seen=some r→∀x∈r,M x.1=some x.2
 |0,_,_,_,h=>by cases h
 |f+1,[],_,r,h=>by rw[Qv] at h;injection h with h;subst h;intro x hx;simp at hx
 |f+1,i::s,seen,r,h=>by
   rw[Ea] at h;cases hM:M i with
   |none=>rw[hM] at h;exact JP M f s seen r h
   |some n=>
     rw[hM] at h;dsimp only at h;by_cases hi:i∈seen
     ·rw[if_pos hi] at h;exact JP M f s seen r h
     ·rw[if_neg hi] at h
      cases hw:wk M f (n.kids++s) (i::seen) with
      |none=>rw[hw] at h;cases h
      |some r'=>
        rw[hw] at h;have h:(i,n)::r'=r:=Option.some.inj h;intro x hx;rw[←h] at hx;rcases List.mem_cons.1 hx with e|e
        ·subst e;exact hM
        ·exact JP M f _ _ r' hw x e
def Iz(M:Nat→Option Node):Prop:=((Cm M).map (DK M)).Nodup∧(∀m∈Cm M,((Br M m).map (DK M)).Nodup)∧∀m∈Cm M,∀f∈Br M m,∃F xs,wk M F [f] []=some xs∧F≤1000000∧(CE xs).Nodup
def Jk(M:Nat→Option Node)(id:Nat):List Nat→List (Nat×Nat)→List Nat→Option (List (Nat×Nat)×List Nat)
 |[],deep,next=>some (deep,next)
 |k::ks,deep,next=>if (gl deep k).isSome∨(M k).isNone∨200≤(gl deep id).getD 0∨1000000≤deep.length∨1000000≤next.length then none else Jk M id ks ((k,(gl deep id).getD 0+1)::deep) (next++[k])
def FZ(M:Nat→Option Node):List Nat→List (Nat×Nat)→List Nat→Option (List (Nat×Nat)×List Nat)
 |[],deep,next=>some (deep,next)
 |id::ids,deep,next=>if (M id).isNone then none else match Jk M id (ndAt M id).kids deep next with
   |none=>none
   |some r=>FZ M ids r.1 r.2
def tRun(M:Nat→Option Node):Nat→List Nat→List (Nat×Nat)→Option (List (Nat×Nat))
 |0,_,_=>none
 |_+1,[],deep=>some deep
 |f+1,i::l,deep=>match FZ M (i::l) deep [] with
   |none=>none
   |some r=>tRun M f r.2 r.1
structure OL (M:Nat→Option Node) (F:Nat) (R:List (Nat×Nat)):Prop where
 root:∃nd,M 1=some nd∧nd.kind=1
 run:tRun M F [1] [(1,1)]=some R
 all:∀i,(gl R i).isSome=(M i).isSome
 refs:∀i nd,M i=some nd→nd.ref < 18446744073709551616∧(nd.ref=0∨(M nd.ref).isSome=true)
def Ht(M:Nat→Option Node)(ks:List Nat):Bool:=ks.foldl (fun _ k=>(ndAt M k).kind==10) false
def JC(M:Nat→Option Node)(par:Nat→Nat×Int)(id:Nat)(n:Node):Bool:=Ht M n.kids==((ndAt M (par id).1).kind==3)
end Hg
namespace Go.Proofs.YtfgnfpdfohjopaaGreatDoor
open Go.RowKit
open Hg (GT gl wk isK ndAt CO KB Bt JF Bj)
theorem Rw:(Tryz.prog.info? 5).map (fun i=>(i.zero,i.size,i.bytes))=some (some (.int .u8 0),1,1):=by kernel_rfl
@[reducible] def u8G(t:Nat):Value:= .int .u8 (t:Int)
def Lp(w:World)(l:List Nat)(e:Ending)(w':World):Prop:=(∃v,e= .returned v∧w'.ownsRow w.heap.size 5 1 v l.length (l.map u8G))∧Below w.heap.size w w'
theorem Fj{w w1:World}{k:Nat}(hb:Below w.heap.size w w1)(t:Nat)(hk:w1.heap.size=k):Lp w [t] (.returned (.slice (some ⟨k,0,none⟩) 1 1)) (w1.alloc (.cells #[u8G t] 5)):=by
 subst hk;exact⟨⟨_,rfl,⟨rfl,.inr ⟨w1.heap.size,1,#[u8G t],rfl,hb.size,AX w1 _,AA,by unfold maxLen;omega,rfl,rfl⟩⟩⟩,hb.alloc hb.size _⟩
theorem M8{w w1:World}{k:Nat}(hb:Below w.heap.size w w1)(s t:Nat)(hk:w1.heap.size=k):Lp w [s,t] (.returned (.slice (some ⟨k,0,none⟩) 2 2)) (w1.alloc (.cells #[u8G s,u8G t] 5)):=by
 subst hk;exact⟨⟨_,rfl,⟨rfl,.inr ⟨w1.heap.size,2,#[u8G s,u8G t],rfl,hb.size,AX w1 _,AA,by unfold maxLen;omega,rfl,rfl⟩⟩⟩,hb.alloc hb.size _⟩
theorem Vp(ab:Nat)(M:Nat→Option Hg.Node)(n:Hg.Node)(ka:Option Addr)(kc:Nat)(w:World)(hA:ArOk w ab M)(hs:Sl w w.heap.size (.slice ka n.kids.length kc) n.kids.length (n.kids.map idV))(hk:0 < n.kids.length)(h0:n.kids.getD 0 0 < Ah)(href:(ndAt M (n.kids.getD 0 0)).ref < Ah):
 Calls Tryz.prog 143 #[.pointer (some ⟨ab,0,none⟩),ndV n ka kc] w (Lp w (JF M n)):=by
 generalize hr:JF M n=r;unfold JF at hr;have hba:Below w.heap.size w (w.alloc (.cells (AZ n ka kc) 48)):=(AL).alloc AA _;have HB:=zz hba;have TT:=zz (PH ab M (n.kids.getD 0 0) _ (hA.below hba) h0 href);obtain⟨b,o,rfl,hbl,kcl⟩:=hs.mapAt hk;have hg0:n.kids[0]=n.kids.getD 0 0:=by simp[List.getD,hk]
 rw[hg0,Nat.add_zero] at kcl;generalize n.kids.getD 0 0=x at kcl TT hr h0 href;clear hA hs hg0;by_cases h9:n.num≤9
 ·rw[if_pos h9] at hr
  subst hr;go_enter Tryz.func143,Tryz.ntmps143;go_wp2;go_ret;exact M8 HB.out 1 1 (by simp)
 ·rw[if_neg h9] at hr
  by_cases h11:n.num≤11
  ·rw[if_pos h11] at hr
   subst hr;go_enter Tryz.func143,Tryz.ntmps143;go_wp2_with fail;refine TT.out.mono ?_;rintro e w1 ⟨rfl,hb1⟩;have HB1:=zz (HB.out.trans (hb1.mono HB.out.size));clear TT hb1;go_wp2;go_ret;exact M8 HB1.out _ _ (by simp)
  ·rw[if_neg h11] at hr
   subst hr;clear TT;go_enter Tryz.func143,Tryz.ntmps143;go_wp2;go_ret;exact M8 HB.out 2 2 (by simp)
structure Tf (M:Nat→Option Hg.Node) (abv:Nat→Nat):Prop where
 zero:M 0=none
 kind:∀i n,M i=some n→n.kind≤255
 dec:∀i n p k,M i=some n→Du M i (fun i=>i < Ah) p k→p < i∨p=0
 chain:∀id,id≤1000000→JM M 3 id (abv id)
 lt:∀id,abv id < Ah
theorem Tk(ab:Nat)(M:Nat→Option Hg.Node)(abv:Nat→Nat)(hV:Tf M abv)(id:Nat)(n:Hg.Node)(ka:Option Addr)(kc:Nat)(w:World)(hA:ArOk w ab M)(hid:id≤1000000)(hs:Sl w w.heap.size (.slice ka n.kids.length kc) n.kids.length (n.kids.map idV))(href:n.ref < Ah)
 (hb18:n.kind=18→0 < n.kids.length∧n.kids.getD 0 0 < Ah∧(ndAt M (n.kids.getD 0 0)).ref < Ah):
 Calls Tryz.prog 99 #[.pointer (some ⟨ab,0,none⟩),idV id,ndV n ka kc] w (Lp w (Bj M abv id n)):=by
 obtain⟨i0,hi0,hz0,hz1,hz2⟩:=info_parts Rw;generalize hr:Bj M abv id n=r;unfold Bj at hr;have hba:Below w.heap.size w (w.alloc (.cells (AZ n ka kc) 48)):=(AL).alloc AA _;have HA:=zz hA;have HV:=zz hV;have HS:=zz hs;have H18:=zz hb18;have TG:=zz ((hA.below hba).getN href);have HB:=zz hba;have HR:=zz hr;have hnew:=AX w (.cells (AZ n ka kc) 48);clear hA hs hb18 hba hV hr;go_enter Tryz.func99,Tryz.ntmps99;go_wp2_with fail;refine TG.out.mono ?_;rintro e w1 ⟨ka1,kc1,rfl,ho1,hb1⟩;have hw1:w1.heap[w.heap.size]? =some (.cells (AZ n ka kc) 48 (0,0)):=(hb1.block _ (by simp)).trans hnew;have hlw:w.heap.size < w1.heap.size:=(Ab.1 hw1).1;have e0:=AJ w1 w.heap.size 0 _ _ (0,0) hw1;have e1:=AJ w1 w.heap.size 1 _ _ (0,0) hw1;have e2:=AJ w1 w.heap.size 2 _ _ (0,0) hw1;have e3:=AJ w1 w.heap.size 3 _ _ (0,0) hw1;have e4:=AJ w1 w.heap.size 4 _ _ (0,0) hw1;have e5:=AJ w1 w.heap.size 5 _ _ (0,0) hw1;simp at e0 e1 e2 e3 e4 e5;have HB1:=zz (HB.out.trans (hb1.mono HB.out.size));have HB2:=zz (HB1.out.alloc HB1.out.size (.cells (AZ (ndAt M n.ref) ka1 kc1) 48));clear TG ho1 hb1 hnew hw1;generalize hto:ndAt M n.ref=tn at HR HB2⊢;have HTO:=zz hto;clear hto;obtain⟨kd,hkd⟩:∃kd,n.kind=kd:=⟨_,rfl⟩;rw[hkd] at e0;have H18b:=zz (show kd=18→0 < n.kids.length∧n.kids.getD 0 0 < Ah∧(ndAt M (n.kids.getD 0 0)).ref < Ah from fun h=>H18.out (hkd.trans h));rw[hkd] at HR;have HKD:=zz hkd;clear H18 hkd;by_cases k6:kd=6
 ·subst k6
  go_wp2;go_ret;have hr:=HR.out;simp at hr;subst hr;exact Fj HB2.out _ (by simp)
 by_cases k7:kd=7
 ·subst k7
  go_wp2;go_ret;have hr:=HR.out;simp at hr;subst hr;exact Fj HB2.out _ (by simp)
 by_cases k8:kd=8
 ·subst k8
  go_wp2;go_ret;have hr:=HR.out;simp at hr;subst hr;exact Fj HB2.out _ (by simp)
 by_cases k9:kd=9
 ·subst k9
  go_wp2;go_ret;have hr:=HR.out;simp at hr;subst hr;exact Fj HB2.out _ (by simp)
 by_cases k16:kd=16
 ·subst k16
  go_wp2;go_ret;have hr:=HR.out;simp at hr;subst hr;exact Fj HB2.out _ (by simp)
 by_cases k17:kd=17
 ·subst k17
  go_wp2;go_ret;have hr:=HR.out;simp at hr;subst hr;exact Fj HB2.out _ (by simp)
 by_cases k10:kd=10
 ·subst k10
  obtain⟨⟨mb,cc,hAr⟩,hkb⟩:=HA.out;have TA:=zz (VD ab mb cc M 3 id (abv id) (w1.alloc (.cells (AZ tn ka1 kc1) 48)) (hAr.below HB2.out AA) HV.out.zero hid HV.out.kind (by decide) HV.out.dec (HV.out.chain id hid));clear hAr hkb;go_wp2_with fail;refine TA.out.mono ?_;rintro e w3 ⟨rfl,hb3⟩;have HB3:=zz (HB2.out.trans (hb3.mono HB2.out.size));have TG2:=zz ((HA.out.below HB3.out).getN (HV.out.lt id));clear TA hb3;go_wp2_with fail;refine TG2.out.mono ?_;rintro e w4 ⟨ka4,kc4,rfl,ho4,hb4⟩;have HB4:=zz (HB3.out.trans (hb4.mono HB3.out.size));have HB5:=zz (HB4.out.alloc HB4.out.size (.cells (AZ (ndAt M (abv id)) ka4 kc4) 48));clear TG2 ho4 hb4;go_wp2;go_ret;have hr:=HR.out;simp at hr;subst hr;exact Fj HB5.out _ (by simp)
 by_cases k18:kd=18
 ·subst k18
  obtain⟨h1,h2,h3⟩:=H18b.out rfl;have hsW:=(HS.out.below HB2.out AA).more HB2.out.size;have TPR:=zz (Vp ab M n ka kc (w1.alloc (.cells (AZ tn ka1 kc1) 48)) (HA.out.below HB2.out) hsW h1 h2 h3);have hnk:n.kind=18:=HKD.out;have hq:(n.kind:Int)=18:=by omega
  rw[show ndV n ka kc= .agg #[.int .u8 18,strV n.name,.int .i64 n.num,.int .u8 (n.type:Int),.int .u64 (n.ref:Int),.slice ka n.kids.length kc] from by simp[ndV,hq]] at TPR;clear hsW h1 h2 h3 hq hnk;go_wp2_with fail;refine TPR.out.mono ?_;rintro e w3 ⟨⟨v,rfl,ho3⟩,hb3⟩;have HO3:=zz (CQ ho3 (show w.heap.size≤_ from HB2.out.size));have HB3:=zz (HB2.out.trans (hb3.mono HB2.out.size));clear TPR ho3 hb3;go_wp2;go_ret;have hr:=HR.out;simp only[show¬(18:Nat)=6 by decide,show¬(18:Nat)=7 by decide,show¬((18:Nat)=8∨(18:Nat)=9∨(18:Nat)=16) by decide,show¬(18:Nat)=17 by decide,show¬(18:Nat)=10 by decide,if_false,if_true] at hr;subst hr;exact⟨⟨v,rfl,HO3.out⟩,HB3.out⟩
 by_cases k19:kd=19
 ·subst k19
  have hr:=HR.out;simp only[show¬(19:Nat)=6 by decide,show¬(19:Nat)=7 by decide,show¬((19:Nat)=8∨(19:Nat)=9∨(19:Nat)=16) by decide,show¬(19:Nat)=17 by decide,show¬(19:Nat)=10 by decide,show¬(19:Nat)=18 by decide,if_false,if_true] at hr;have HR2:=zz hr;have TK:=zz (J2 ab M n.ref 4 (w1.alloc (.cells (AZ tn ka1 kc1) 48)) (HA.out.below HB2.out) href);have hkl:=HA.out.lenK n.ref 4;have HKI:=zz (HA.out.2.kids n.ref 4);generalize CO M n.ref 4=ps at TK hkl HKI HR2;clear hr HR H18b;go_wp2_with fail;refine TK.out.mono ?_;rintro e w3 ⟨⟨v,rfl,ho3⟩,hb3⟩;obtain⟨a3,c3,rfl⟩:=(Sl.Aj ho3).form;have HS3:=zz (Sl.Aj ho3);have HB3:=zz (HB2.out.trans (hb3.mono HB2.out.size));clear TK ho3 hb3 e0 e1 e2 e3 e4 e5;go_wp2
  go_loopw [11,68] (fun p q wr=>∃(k:Nat) (u:Value),p=u∧q= .int .i64 (k:Int)∧k≤ps.length∧wr.ownsRow w3.heap.size 5 1 u k ((ps.take k).map (fun x=>u8G (ndAt M x).type))∧Below w3.heap.size w3 wr) (fun _ q wr=>ps.length-(intOf q).toNat)
  case atStart=>exact⟨0,_,rfl,rfl,Nat.zero_le _,⟨rfl,.inl ⟨rfl,rfl⟩⟩,AL⟩
  case round=>
   obtain⟨k,u,hu,rfl,hk,ho,hb⟩:=hrel;have hu:=hu.symm;subst hu;have HBr:=zz hb;have HO:=zz ho;by_cases hlt:k < ps.length
   ·obtain⟨b,o,rfl,_,kcx⟩:=(HS3.out.below HBr.out AA).mapAt hlt
    have TN:=zz ((HA.out.below (HB3.out.trans (hb.mono HB3.out.size))).getN (HKI.out _ (List.getElem_mem hlt)));have htk:ps.take (k+1)=ps.take k++[ps[k]]:=List.take_succ_eq_append_getElem hlt;generalize ps[k]=x at kcx TN htk;have HTK:=zz htk;clear hb ho htk;go_wp2_with fail;refine TN.out.mono ?_;rintro e w4 ⟨ka4,kc4,rfl,ho4,hb4⟩;have HB4:=zz ((HBr.out.trans (hb4.mono HBr.out.size)).alloc (by have:=hb4.size;have:=HBr.out.size;omega) (.cells (AZ (ndAt M x) ka4 kc4) 48));have HO4:=zz ((Am HO.out (Fr.of_below (D:=fun _=>False) hb4) (fun _ _ e=>e)).alloc (.cells (AZ (ndAt M x) ka4 kc4) 48));have hsz:w3.heap.size≤w4.heap.size:=by have:=HBr.out.size;have:=hb4.size;omega
    clear ho4 hb4 TN
    go_wp2_with (at_builtin;refine wpList_append_own_at _ rfl (.tmp 78) (.tmp 81) _ rfl w3.heap.size 5 i0 _ 1 1 Tryz.underlying107 hi0 hz0 hz1 hz2 rfl (by decide) _ k ((ps.take k).map (fun x=>u8G (ndAt M x).type)) rfl (HO4.out.alloc _) ⟨w4.heap.size+1,0,none⟩ 1 1 [u8G (ndAt M x).type] rfl rfl ?_ ?_ ?_ ?_ ?_ ?_)
    all_goals first
     |intro v5 W5 own5 g5 _ at5
     |exact Jc _ _ _ _
     |(unfold maxLen;omega)
     |omega
     |(simp;omega)
     |(intro u hu;simp only[List.mem_singleton] at hu;subst hu;rfl)
    have HO5:=zz (show W5.ownsRow w3.heap.size 5 1 v5 (k+1) ((ps.take (k+1)).map (fun x=>u8G (ndAt M x).type)) from by rw[HTK.out,List.map_append,List.map_take];exact own5);have HB5:=zz (show Below w3.heap.size w3 W5 from(HB4.out.alloc HB4.out.size _).grown g5 (by have:=HB4.out.size;simp at this⊢;omega) (fun q hq=>(HO4.out.lt q hq).1));clear own5 g5 at5;go_wp2;go_roundw
    case rel=>exact⟨k+1,v5,rfl,by go_num,by omega,HO5.out,HB5.out⟩
    case measure=>simp[intOf];omega
   ·obtain rfl:k=ps.length:=by omega
    rw[List.take_length] at ho;have HO2:=zz ho;clear hb ho;go_wp2;go_ret;have hr:=HR2.out;subst hr;refine⟨⟨_,rfl, ?_⟩,HB3.out.trans (HBr.out.mono HB3.out.size)⟩;rw[List.length_map,List.map_map];exact CQ HO2.out HB3.out.size
 have hq:∀m:Nat,kd≠m→((kd:Int)==(m:Int))=false:=fun m h=>by simpa using(show¬(kd:Int)=(m:Int) by omega)
 have q6:=hq 6 k6;have q7:=hq 7 k7;have q8:=hq 8 k8;have q9:=hq 9 k9;have q16:=hq 16 k16;have q17:=hq 17 k17;have q10:=hq 10 k10;have q18:=hq 18 k18;have q19:=hq 19 k19;have hr:=HR.out;rw[if_neg k6,if_neg k7,if_neg (by omega),if_neg k17,if_neg k10,if_neg k18,if_neg k19] at hr;subst hr;clear hq HR;go_wp2;go_ret;exact⟨⟨_,rfl,⟨rfl,.inl ⟨rfl,rfl⟩⟩⟩,HB2.out⟩
open Hg (okT RB)
section
attribute [local go_sem] Oper.semAt_some
def typA(p1 p2 p3 p4:Value)(a:Act):Prop:=∃u0 u5 u6 u7 u8 u9 u10 u11 u12 u13 u14 u15 u16 u17 u18 u19 u20 u21 u22 u23 u24 u25 u26 u27 u28 u29 u30 u31 u32 u33 u34 u35 u36 u37 u38 u39 u40 u41 u42 u43 u44 u45:Value,a={tmps:= #[u0,p1,p2,p3,p4,u5,u6,u7,u8,u9,u10,u11,u12,u13,u14,u15,u16,u17,u18,u19,u20,u21,u22,u23,u24,u25,u26,u27,u28,u29,u30,u31,u32,u33,u34,u35,u36,u37,u38,u39,u40,u41,u42,u43,u44,u45],defers:=[]}
def TypR(ab B:Nat)(S:Nat→Prop)(x:Au)(a:Act)(A:World):Prop:=
 ∃S0 blk,BoxI ab B S0 A∧typA (.pointer (some ⟨B,0,none⟩)) (.pointer (some ⟨B+1,0,none⟩)) (idV x.id) (.pointer (some ⟨blk,0,none⟩)) a∧A.heap[blk]? =some (.cells (AZ x.nd x.ka x.kc) 48 (0,0))∧x.At A∧(∀q,S q↔S0 q∨q=blk)∧¬S0 blk
def TypX(M:Nat→Option Hg.Node)(abv:Nat→Nat)(xs:List (Nat×Hg.Node))(ab B:Nat)(c:Code)(S:Nat→Prop)(A:World):Prop:=c= .ret∧BoxI ab B S A∧A.heap[B+1]? =some (.cells #[.bool false] 4 (0,0))∧xs.all (okT M abv)=false
theorem Tm(ab:Nat)(M:Nat→Option Hg.Node)(abv:Nat→Nat)(hV:Tf M abv)(hRB:RB M)(F:Nat)(xs:List (Nat×Hg.Node))(w:World)(hA:ArOk w ab M)(hxs:wk M F [1] []=some xs)(hF:F≤1000000)(hid:∀x∈xs,x.1≤1000000)
 (h18:∀x∈xs,x.2.kind=18→0 < x.2.kids.length) (hidx:∀x∈xs,x.2.kind≠19→(Bj M abv x.1 x.2).length≤x.2.kids.length):
 Calls Tryz.prog 50 #[.pointer (some ⟨ab,0,none⟩)] w fun e w'=>e= .returned (.bool (xs.all (okT M abv)))∧Below w.heap.size w w':=by
 have HA:=zz hA;have HV:=zz hV;have HRB:=zz hRB;have HALL:=zz (And.intro hid (And.intro h18 hidx));have TW:=zz (Jf ab 1);have TR:=zz (H9 ab);have HMM:=zz (Hg.JP M F _ _ _ hxs);clear hV hRB hid h18 hidx;refine(callsIn_wide (n:=5)).1 (callsIn_of_wp_marks Tryz.func50 rfl trivial ?_ rfl);simp only[Tryz.ntmps50,List.size_toArray,List.length_cons,List.length_nil,Nat.reduceAdd,Nat.reduceSub,Array.replicate_succ,Array.replicate_zero,List.push_toArray,List.append_toArray,List.nil_append,List.cons_append];gi_wp2;refine wpIn_wide.2 (La ?_);have hb0:Below w.heap.size w ((w.alloc (.cells #[.pointer (some ⟨ab,0,none⟩)] 25)).alloc (.cells #[.bool false] 4)):=((AL).alloc AA _).alloc (by simp) _;have h0:((w.alloc (.cells #[.pointer (some ⟨ab,0,none⟩)] 25)).alloc (.cells #[.bool false] 4)).heap[w.heap.size]? =some (.cells #[.pointer (some ⟨ab,0,none⟩)] 25 (0,0)):=(heap_alloc_old _ _ (by simp)).trans (AX w _);have h1:((w.alloc (.cells #[.pointer (some ⟨ab,0,none⟩)] 25)).alloc (.cells #[.bool false] 4)).heap[w.heap.size+1]? =some (.cells #[.bool false] 4 (0,0)):=by
  have:=AX (w.alloc (.cells #[.pointer (some ⟨ab,0,none⟩)] 25)) (.cells #[.bool false] 4);rw[show(w.alloc (.cells #[.pointer (some ⟨ab,0,none⟩)] 25)).heap.size=w.heap.size+1 by simp] at this;exact this
 have hz:((w.alloc (.cells #[.pointer (some ⟨ab,0,none⟩)] 25)).alloc (.cells #[.bool false] 4)).heap.size=w.heap.size+2:=by simp
 generalize World.alloc (World.alloc w _) _=W0 at hb0 h0 h1 hz⊢;have e0:=AJ W0 w.heap.size 0 _ _ (0,0) h0;simp at e0;have hHeld:(fun w'=>w'.cell? ⟨w.heap.size,0,none⟩=some (.pointer (some ⟨ab,0,none⟩))) W0.drew:=e0;refine Ap (fun w'=>w'.cell? ⟨w.heap.size,0,none⟩=some (.pointer (some ⟨ab,0,none⟩))) 3 (by kernel_rfl) ?_;refine tz 0 ?_;refine tz 1 ?_;refine AU (i:=2) rfl (by kernel_rfl) (fun K hK=> ?_);go_simp;refine(TR.out _).mono ?_;rintro e w1 ⟨rfl,rfl⟩;refine hK.out _ _ (hHeld) (fun hHeld=> ?_);clear hK K
 try simp only[Act.put,sA,sB,sC,sD,sE,sF]
 refine Ag (by kernel_rfl) ?_;simp only[List.drop_succ_cons,List.drop_zero];go_wp2_with fail;refine(TW.out _).mono ?_;rintro e w1 ⟨rfl,rfl⟩;have hz':W0.drew.heap.size=w.heap.size+2:=hz;rw[hz'];have hbW:Below W0.heap.size W0 ((W0.drew.alloc (.cells #[.pointer (some ⟨ab,0,none⟩)] 25)).alloc (.cells #[idV 1] 45)):=(((AL).drew).alloc AA _).alloc (by simp) _;have k1:((W0.drew.alloc (.cells #[.pointer (some ⟨ab,0,none⟩)] 25)).alloc (.cells #[idV 1] 45)).heap[w.heap.size+2]? =some (.cells #[.pointer (some ⟨ab,0,none⟩)] 25 (0,0)):=by
  have:=AX W0.drew (.cells #[.pointer (some ⟨ab,0,none⟩)] 25);rw[hz'] at this;exact(heap_alloc_old _ _ (by simp[hz'])).trans this
 have k2:((W0.drew.alloc (.cells #[.pointer (some ⟨ab,0,none⟩)] 25)).alloc (.cells #[idV 1] 45)).heap[w.heap.size+2+1]? =some (.cells #[idV 1] 45 (0,0)):=by
  have:=AX (W0.drew.alloc (.cells #[.pointer (some ⟨ab,0,none⟩)] 25)) (.cells #[idV 1] 45);rw[show(W0.drew.alloc (.cells #[.pointer (some ⟨ab,0,none⟩)] 25)).heap.size=w.heap.size+2+1 by simp[hz']] at this;exact this
 have hzW:((W0.drew.alloc (.cells #[.pointer (some ⟨ab,0,none⟩)] 25)).alloc (.cells #[idV 1] 45)).heap.size=w.heap.size+4:=by simp[hz']
 generalize World.alloc (World.alloc W0.drew _) _=W1 at hbW k1 k2 hzW⊢;have g0:W1.heap[w.heap.size]? =some (.cells #[.pointer (some ⟨ab,0,none⟩)] 25 (0,0)):=(hbW.block _ (by omega)).trans h0;have g1:W1.heap[w.heap.size+1]? =some (.cells #[.bool false] 4 (0,0)):=(hbW.block _ (by omega)).trans h1;have hb1:Below w.heap.size w W1:=hb0.trans (hbW.mono (by omega));obtain⟨⟨mb,c,hAr⟩,hkb⟩:=HA.out;have hseq:=Hw ab mb c M w.heap.size 1 (w.heap.size+2+1) (w.heap.size+2) F xs W1 (fun W' hf=>hAr.below (hb1.trans (hf.below' (by omega))) AA) (AJ W1 (w.heap.size+2+1) 0 _ _ (0,0) k2) (AJ W1 (w.heap.size+2) 0 _ _ (0,0) k1) ⟨by omega,by omega,by omega,by omega⟩ (by decide) hkb hxs hF;have HB1:=zz hb1;have HARW:=zz (show∀W',Fr (fun q=>w.heap.size≤q) W1 W'→ArOk W' ab M from fun W' hf=>HA.out.below (hb1.trans (hf.below' (by omega))));clear hA hAr hkb k1 k2 hHeld h0 h1 hb0 hbW e0 TW TR hb1;go_wp2;gi_wp2;refine GI (gf:=129) rfl (enters_of Tryz.func129 (by kernel_rfl) rfl) hseq (Fr.refl _ _) rfl (fun q h=>by rcases h with h|h <;>omega) (by omega)
  (fun S pre A=>BoxI ab w.heap.size S A∧(pre.map Au.strip).all (okT M abv)=true) (fun c S _ A=>TypX M abv xs ab w.heap.size c S A) (fun S pre x a A=>TypR ab w.heap.size S x a A∧(pre.map Au.strip).all (okT M abv)=true) (fun S pre A A' h hf=>⟨h.1.fr hf,h.2⟩) (fun c S pre A A' h hf=>⟨h.1,h.2.1.fr hf,hf.at_ h.2.2.1 (fun k=>k ((h.2.1.2.2 _).2 (.inr rfl))),h.2.2.2⟩) ?hI1 (fun S pre A h q hq=>(h.1.lt q hq).2) ?hI1l
  (fun q=>q=w.heap.size∨q=w.heap.size+1) ⟨⟨g0,⟨_,g1⟩,fun q=>Iff.rfl⟩,rfl⟩ (fun q e=>by rcases e with e|e <;>subst e <;>exact⟨by omega,by omega,by omega⟩) ?assign ?body ?done ?stop
 case hI1=>
  rintro S pre x a A A' ⟨⟨S0,blk,hi,ha,hb,hx,hS,hn⟩,hp⟩ hf;exact⟨⟨S0,blk,hi.fr (hf.imp (fun q _ h h'=>h (.inl ((hS q).2 (.inl h'))))),ha,hf.at_ hb (fun h=>h (.inl ((hS blk).2 (.inr rfl)))),(hx.fr AA hf (fun q e h=>h (.inr e))).more hf.size,hS,hn⟩,hp⟩
 case hI1l=>
  rintro S pre x a A ⟨⟨S0,blk,hi,ha,hb,hx,hS,hn⟩,hp⟩ q hq;rcases(hS q).1 hq with h|h
  ·exact(hi.lt q h).2
  ·subst h;exact(Ab.1 hb).1
 case assign=>
  intro l m S pre x A K hi hpre hx hkb hf hK;gi_wp2;refine hK (fun q=>S q∨q=A.heap.size) _ _ ⟨⟨S,A.heap.size,hi.1.fr ((Fr.refl _ _).alloc _), ?_,AX A _,Sl.alloc hx AA _|>.more (by simp),fun q=>Iff.rfl,fun h=>by have:=(hi.1.lt _ h).2;omega⟩,hi.2⟩ ((Fr.refl _ _).alloc _) (fun q h=>h.imp (fun h=>h) (fun h=>by omega));exact⟨_,_,_,_,_,_,_,_,_,_,_,_,_,_,_,_,_,_,_,_,_,_,_,_,_,_,_,_,_,_,_,_,_,_,_,_,_,_,_,_,_,_,rfl⟩
 case body=>
  rintro l m S pre x a1 A ⟨⟨S0,blk,⟨hbx,⟨r0,hbr⟩,hSv⟩,ha,hb,hx,hS,hn⟩,hpo⟩ hpre hf;obtain⟨u0,u5,u6,u7,u8,u9,u10,u11,u12,u13,u14,u15,u16,u17,u18,u19,u20,u21,u22,u23,u24,u25,u26,u27,u28,u29,u30,u31,u32,u33,u34,u35,u36,u37,u38,u39,u40,u41,u42,u43,u44,u45,rfl⟩:=ha;have hxm:x.strip∈xs:=hpre.subset (by simp);have hf2:Fr (fun q=>w.heap.size≤q) W1 A:=hf.imp (fun q _ e=>by rcases e with(e|e)|e|e <;>omega);have HAA:=zz (HARW.out A hf2);obtain⟨xi,nd,ka,kc⟩:=x;have hxm:(xi,nd)∈xs:=hxm;have hMx:=HMM.out _ hxm;have hkt:=HA.out.2 xi nd hMx;have hnl:=HA.out.len xi;unfold ndAt at hnl;rw[hMx] at hnl;have hnl:nd.kids.length≤1000000:=hnl;have TWn:=zz (Tk ab M abv HV.out xi nd ka kc A HAA.out (HALL.out.1 _ hxm) hx (HRB.out xi nd hMx) (fun h=>⟨HALL.out.2.1 _ hxm h,by
   have h0:=HALL.out.2.1 _ hxm h;have:nd.kids.getD 0 0∈nd.kids:=by
    rw[show nd.kids.getD 0 0=nd.kids[0] from by simp[List.getD,h0]];exact List.getElem_mem _
   exact hkt _ this,HRB.out.at _⟩))
  have hidx:=HALL.out.2.2 _ hxm;have hiff:=Hg.Oh M abv (xi,nd);dsimp only at hidx hiff;have HX:=zz (show Sl A A.heap.size (.slice ka nd.kids.length kc) nd.kids.length (nd.kids.map idV) from hx);have HBK:=zz (show A.heap[blk]? =some (.cells (AZ nd ka kc) 48 (0,0)) from hb);have HBX:=zz (And.intro hbx hbr);have HSS:=zz (And.intro hSv hS);have HNO:=zz (show okT M abv (xi,nd)=false→xs.all (okT M abv)=false from fun h=>by
   rw[List.all_eq_false];exact⟨_,hxm,by rw[h];simp⟩)
  have HYES:=zz (show okT M abv (xi,nd)=true→((pre++[(⟨xi,nd,ka,kc⟩:Au)]).map Au.strip).all (okT M abv)=true from fun h=>by
   rw[List.map_append,List.all_append,hpo]
   simp[Au.strip,h])
  have HKT:=zz hkt;have hwl:(Bj M abv xi nd).length≤1000000:=by
   have h4:=HAA.out.lenK nd.ref 4;unfold Bj JF
   repeat' split
   all_goals simp
   exact h4
  generalize Bj M abv xi nd=ws at TWn hidx hiff hwl;have e0:=AJ A blk 0 _ _ (0,0) hb;have eB:=AJ A w.heap.size 0 _ _ (0,0) hbx;have b1:=AJ A blk 1 _ _ (0,0) hb;have b2:=AJ A blk 2 _ _ (0,0) hb;have b3:=AJ A blk 3 _ _ (0,0) hb;have b4:=AJ A blk 4 _ _ (0,0) hb;have b5:=AJ A blk 5 _ _ (0,0) hb;have hbl:=(Ab.1 hb).1;have hBl:=(Ab.1 hbx).1;have hRl:=(Ab.1 hbr).1;simp at e0 eB b1 b2 b3 b4 b5;have HIF:=zz hiff;have HID:=zz hidx;have HRET:=zz (show okT M abv (xi,nd)=false→∀W:World,Fr (fun _=>False) A W→∃S',TypX M abv xs ab w.heap.size .ret S' (W.setCell ⟨w.heap.size+1,0,none⟩ (.bool false))∧Fr S A (W.setCell ⟨w.heap.size+1,0,none⟩ (.bool false))∧∀q,S' q→S q∨A.heap.size≤q from fun hno W hf=>by
   have h1:W.heap[w.heap.size]? =some (.cells #[.pointer (some ⟨ab,0,none⟩)] 25 (0,0)):=hf.at_ hbx (fun h=>h);have h2:W.heap[w.heap.size+1]? =some (.cells #[r0] 4 (0,0)):=hf.at_ hbr (fun h=>h);have h3:(W.setCell ⟨w.heap.size+1,0,none⟩ (.bool false)).heap[w.heap.size+1]? =some (.cells #[.bool false] 4 (0,0)):=heap_setCell_same h2 _;exact⟨S0,⟨rfl,⟨(Below.heap_setCell W ⟨w.heap.size+1,0,none⟩ (.bool false) w.heap.size (by show¬w.heap.size=w.heap.size+1;omega)).trans h1,⟨_,h3⟩,hSv⟩,h3,HNO.out hno⟩,(hf.imp (fun q _ e=>e.elim)).set (p:=⟨w.heap.size+1,0,none⟩) (.inl ((hS _).2 (.inl ((hSv _).2 (.inr rfl))))) _,fun q h=> .inl ((hS q).2 (.inl h))⟩)
  have HGO:=zz (show okT M abv (xi,nd)=true→∀W:World,Fr (fun _=>False) A W→∃S',(BoxI ab w.heap.size S' W∧((pre++[(⟨xi,nd,ka,kc⟩:Au)]).map Au.strip).all (okT M abv)=true)∧Fr S A W∧∀q,S' q→S q∨A.heap.size≤q from fun hyes W hf=>
   ⟨S0,⟨⟨hf.at_ hbx (fun h=>h),⟨r0,hf.at_ hbr (fun h=>h)⟩,hSv⟩,HYES.out hyes⟩,hf.imp (fun q _ e=>e.elim),fun q h=> .inl ((hS q).2 (.inl h))⟩)
  clear hx hbx hbr hSv hS hn hb hpo hpre hf hf2 hxm hMx hkt hiff hidx;gi_wp2_with fail;refine⟨trivial,fun h=>(by cases h),(CallsIn.inRound l (callsIn_wide.2 TWn.out)).mono ?_⟩;rintro e W5 ⟨⟨v,rfl,ho5⟩,hb5⟩;obtain⟨a5,c5,rfl⟩:=(Sl.Aj ho5).form;have HO5:=zz (Sl.Aj ho5);have HB5:=zz hb5;have w0:W5.heap[blk]? =some (.cells (AZ nd ka kc) 48 (0,0)):=(hb5.block blk hbl).trans HBK.out;have d0:=AJ W5 blk 0 _ _ (0,0) w0;have d5:=AJ W5 blk 5 _ _ (0,0) w0;have wr5:W5.heap[w.heap.size+1]? =some (.cells #[r0] 4 (0,0)):=(hb5.block _ hRl).trans HBX.out.2;have dr:=AJ W5 (w.heap.size+1) 0 _ _ (0,0) wr5;have fr5:W5.frozen? ⟨w.heap.size+1,0,none⟩=false:=by simp[World.frozen?,wr5]
  simp at d0 d5 dr;have hl5:blk < W5.heap.size:=AR hbl hb5.size;have hR5:w.heap.size+1 < W5.heap.size:=AR hRl hb5.size;have HF5:=zz (Fr.of_below (D:=fun _=>False) hb5);clear TWn ho5 hb5 w0 wr5 e0 eB b1 b2 b3 b4 b5;by_cases hbad:nd.kind=19∧ws.length≠nd.kids.length
  ·have hk:((nd.kind:Int)==19)=true:=by simp[hbad.1]
   have hno:okT M abv (xi,nd)=false:=by
    rw[←Bool.not_eq_true];intro h;exact hbad.2 ((HIF.out.1 h).1 hbad.1)
   have hlq:((ws.length:Int) !=(nd.kids.length:Int))=true:=by simp;omega
   have hlq2:¬ws.length=nd.kids.length:=hbad.2;have HFIN:=zz (HRET.out hno W5 HF5.out);clear hbad hno;gi_wp2;exact HFIN.out
  have hle:ws.length≤nd.kids.length:=by
   by_cases h19:nd.kind=19
   ·have:ws.length=nd.kids.length:=by
     rcases Nat.lt_trichotomy ws.length nd.kids.length with h|h|h
     ·exact absurd ⟨h19,by omega⟩ hbad
     ·exact h
     ·exact absurd ⟨h19,by omega⟩ hbad
    omega
   ·exact HID.out h19
  have hrest:(nd.kind=19→ws.length=nd.kids.length):=fun h=>by
   rcases Nat.lt_trichotomy ws.length nd.kids.length with h'|h'|h'
   ·exact absurd ⟨h,by omega⟩ hbad
   ·exact h'
   ·exact absurd ⟨h,by omega⟩ hbad
  have HREST:=zz hrest;have hq19:((nd.kind:Int)==19)=false∨(((nd.kind:Int)==19)=true∧((ws.length:Int) !=(nd.kids.length:Int))=false∧ws.length=nd.kids.length):=by
   by_cases h:nd.kind=19
   ·exact .inr ⟨by simp[h],by simp[hrest h],hrest h⟩
   ·exact .inl (by simp;omega)
  clear hbad hrest;rcases hq19 with hq19|⟨hq19,hlq,hlq2⟩
  all_goals
   gi_wp2
   gi_loopw [31] (fun p wr=>∃i:Nat,p= .int .i64 (i:Int)∧i≤ws.length∧Below W5.heap.size W5 wr∧∀k t,k < i→ws[k]? =some t→Bt M (nd.kids.getD k 0)=t) (fun p wr=>ws.length-(intOf p).toNat)
   case atStart=>exact⟨0,rfl,Nat.zero_le _,AL,fun k t hk=>by omega⟩
   case round=>
    obtain⟨i,rfl,hi,hbr,hok⟩:=hrel;have HOK:=zz hok;have HBR:=zz hbr;by_cases hlt:i < ws.length
    ·obtain⟨b,o,rfl,_,kcw⟩:=(show Sl wr wr.heap.size (.slice a5 ws.length c5) ws.length (ws.map u8G) from(HO5.out.below hbr AA).more hbr.size).mapAt hlt
     have hki:i < nd.kids.length:=by omega
     obtain⟨gk,ok,rfl,hgl,kck⟩:=HX.out.mapAt hki;have hkm:nd.kids[i]∈nd.kids:=List.getElem_mem hki;have hkl:=HKT.out _ hkm;have hgd:nd.kids.getD i 0=nd.kids[i]:=by simp[List.getD,hki]
     have hws:ws[i]? =some ws[i]:=AY hlt;have hAk:ArOk wr.drew ab M:=HAA.out.below ((HB5.out.trans (hbr.mono HB5.out.size)).drew);have hrk:=HRB.out.at nd.kids[i];generalize nd.kids[i]=kid at kck hkl hgd hrk;generalize ws[i]=tw at kcw hws;have TT:=zz (PH ab M kid wr.drew hAk hkl hrk);have hBr:w.heap.size < wr.heap.size:=by have:=hbr.size;omega
     have hbr5:blk < wr.heap.size:=by have:=hbr.size;omega
     have hgr:gk < wr.heap.size:=by have:=hbr.size;have:=HB5.out.size;omega
     have hbA:Below A.heap.size A wr:=HB5.out.trans (hbr.mono HB5.out.size);have q0:wr.cell? ⟨w.heap.size,0,none⟩=some (.pointer (some ⟨ab,0,none⟩)):=by
      have:=AJ A w.heap.size 0 _ _ (0,0) HBX.out.1;rw[hbA.cell (p:=⟨w.heap.size,0,none⟩) hBl];simpa using this
     have q5:wr.cell? ⟨blk,5,none⟩=some (.slice (some ⟨gk,ok,none⟩) nd.kids.length kc):=by
      have:=AJ A blk 5 _ _ (0,0) HBK.out;rw[hbA.cell (p:=⟨blk,5,none⟩) hbl];simpa using this
     have qk:wr.cell? ⟨gk,ok+i,none⟩=some (idV kid):=(hbA.cell (p:=⟨gk,ok+i,none⟩) hgl).trans kck;have wr6:wr.heap[w.heap.size+1]? =some (.cells #[r0] 4 (0,0)):=(hbA.block _ hRl).trans HBX.out.2;have HWR:=zz wr6;have HGD:=zz hgd;have HWS:=zz hws;have hHeld:(fun w'=>w'.cell? ⟨w.heap.size,0,none⟩=some (.pointer (some ⟨ab,0,none⟩))∧w'.cell? ⟨blk,5,none⟩=some (.slice (some ⟨gk,ok,none⟩) nd.kids.length kc)∧w'.cell? ⟨gk,ok+i,none⟩=some (idV kid)) wr.drew:=⟨q0,q5,qk⟩;clear hok hbr hAk hkm hbA hgd hws wr6 q0 q5 qk;gi_wp2;refine CX (fun w'=>w'.cell? ⟨w.heap.size,0,none⟩=some (.pointer (some ⟨ab,0,none⟩))∧w'.cell? ⟨blk,5,none⟩=some (.slice (some ⟨gk,ok,none⟩) nd.kids.length kc)∧w'.cell? ⟨gk,ok+i,none⟩=some (idV kid)) 8 (by kernel_rfl) (by kernel_rfl) (by rintro⟨_,_,h⟩;exact h) ?_;refine tz 0 ?_;refine tz 1 ?_;refine tz 2 ?_;refine tz 3 ?_;refine tz 4 ?_;refine tz 5 ?_;refine tz 7 ?_;refine AU (i:=6) rfl (by kernel_rfl) (fun K hK=> ?_);go_simp;refine TT.out.mono ?_;rintro e W6 ⟨rfl,hb6⟩;have HB6:=zz hb6;clear TT;refine hK.out _ _ (⟨(hb6.cell (p:=⟨w.heap.size,0,none⟩) hBr).trans hHeld.1,(hb6.cell (p:=⟨blk,5,none⟩) hbr5).trans hHeld.2.1,(hb6.cell (p:=⟨gk,ok+i,none⟩) hgr).trans hHeld.2.2⟩) (fun hHeld=> ?_);clear hK K
     try simp only[Act.put,sA,sB,sC,sD,sE,sF]
     refine Ag (by kernel_rfl) ?_;simp only[List.drop_succ_cons,List.drop_zero];have wr7:W6.heap[w.heap.size+1]? =some (.cells #[r0] 4 (0,0)):=(HB6.out.block _ (show w.heap.size+1 < wr.heap.size from(Ab.1 HWR.out).1)).trans HWR.out;have dr7:=AJ W6 (w.heap.size+1) 0 _ _ (0,0) wr7;have fr7:W6.frozen? ⟨w.heap.size+1,0,none⟩=false:=by simp[World.frozen?,wr7]
     simp at dr7;have hl7:=(Ab.1 wr7).1;have HBR6:=zz (show Below W5.heap.size W5 W6 from HBR.out.trans (Below.mono (show Below wr.heap.size wr W6 from⟨HB6.out.os,HB6.out.tape,HB6.out.output,HB6.out.size,HB6.out.block⟩) HBR.out.size));clear wr7;by_cases heq:Bt M kid=tw
     ·have hqe:((Bt M kid:Int) !=(tw:Int))=false:=by simp[heq]
      have HOK2:=zz (show∀k t,k < i+1→ws[k]? =some t→Bt M (nd.kids.getD k 0)=t from fun k t hk ht=>by
       by_cases e:k=i
       ·subst e
        rw[HGD.out,heq];rw[HWS.out] at ht;injection ht
       ·exact HOK.out k t (by omega) ht)
      clear hHeld dr7 fr7;go_wp2;gi_wp2;go_roundw
      case rel=>exact⟨i+1,by go_num,by omega,HBR6.out,HOK2.out⟩
      case measure=>simp[intOf];omega
     ·have hqe:((Bt M kid:Int) !=(tw:Int))=true:=by simp;omega
      have hno:okT M abv (xi,nd)=false:=by
       rw[←Bool.not_eq_true];intro h;exact heq (by rw[←HGD.out];exact(HIF.out.1 h).2 i tw HWS.out)
      have HFIN:=zz (HRET.out hno W6 (HF5.out.trans (Fr.of_below HBR6.out)));clear hno hHeld heq;go_wp2;gi_wp2;exact HFIN.out
    ·obtain rfl:i=ws.length:=by omega
     have hyes:okT M abv (xi,nd)=true:=HIF.out.2 ⟨HREST.out,fun k t hk=>HOK.out k t (Ai.1 hk).1 hk⟩;have HFIN:=zz (HGO.out hyes wr (HF5.out.trans (Fr.of_below hbr)));clear hyes hok hbr;gi_wp2;exact HFIN.out
 case done=>
  rintro S ys W hys ⟨⟨hbx,⟨r0,hbr⟩,hSv⟩,hall⟩ hK hnS hf;rw[hys] at hall;have fB:W.frozen? ⟨w.heap.size+1,0,none⟩=false:=by simp[World.frozen?,hbr]
  have eB:=AJ W (w.heap.size+1) 0 _ _ (0,0) hbr;simp at eB;have hl2:=(Ab.1 hbr).1;have hne:¬w.heap.size+1=W1.heap.size:=by omega
  have hK2:(W.setCell ⟨w.heap.size+1,0,none⟩ (.bool true)).heap[W1.heap.size]? =some (.deferred (some [])):=(Below.heap_setCell W ⟨w.heap.size+1,0,none⟩ (.bool true) W1.heap.size (fun e=>hne e.symm)).trans hK;have hfs:=hf.set (p:=⟨w.heap.size+1,0,none⟩) (.inl (.inl (.inr rfl))) (.bool true);have hbs:(W.setCell ⟨w.heap.size+1,0,none⟩ (.bool true)).heap[w.heap.size+1]? =some (.cells #[.bool true] 4 (0,0)):=heap_setCell_same hbr _;have hpf:=DZ (W.setCell ⟨w.heap.size+1,0,none⟩ (.bool true)) W1.heap.size (.deferred none);have hcell:((W.setCell ⟨w.heap.size+1,0,none⟩ (.bool true)).putObj W1.heap.size (.deferred none)).cell? ⟨w.heap.size+1,0,none⟩=some (.bool true):=by
   have:=AJ _ (w.heap.size+1) 0 _ _ (0,0) (hpf.at_ hbs hne);simpa using this
  have HFIN:=zz (show Below w.heap.size w ((W.setCell ⟨w.heap.size+1,0,none⟩ (.bool true)).putObj W1.heap.size (.deferred none)) from by
   have h1:=HB1.out.trans ((hfs.imp (D':=fun q=>w.heap.size≤q) (fun q _ e=>by rcases e with(e|e)|e|e <;>omega)).below' (by omega));exact h1.trans ((hpf.imp (D':=fun q=>w.heap.size≤q) (fun q _ e=>by omega)).below' h1.size))
  clear hbx hbr hSv hf hfs hbs hpf;gi_wp2;refine⟨by simp,.inl ⟨_,_,rfl,run_takeDeferred hK2, ?_⟩⟩;refine⟨.bool true, ?_,by rw[hall],HFIN.out⟩
  simp[results,Tryz.results50,go_sem,hcell]
 case stop=>
  rintro c S pre W hpre ⟨rfl,⟨hbx,-,hSv⟩,hbr,hall⟩ hK hnS hf;have hne:¬w.heap.size+1=W1.heap.size:=by omega
  have hpf:=DZ W W1.heap.size (.deferred none);have hcell:(W.putObj W1.heap.size (.deferred none)).cell? ⟨w.heap.size+1,0,none⟩=some (.bool false):=by
   have:=AJ _ (w.heap.size+1) 0 _ _ (0,0) (hpf.at_ hbr hne);simpa using this
  have HFIN:=zz (show Below w.heap.size w (W.putObj W1.heap.size (.deferred none)) from by
   have h1:=HB1.out.trans ((hf.imp (D':=fun q=>w.heap.size≤q) (fun q _ e=>by rcases e with(e|e)|e|e <;>omega)).below' (by omega));exact h1.trans ((hpf.imp (D':=fun q=>w.heap.size≤q) (fun q _ e=>by omega)).below' h1.size))
  clear hbx hbr hSv hf hpf;gi_wp2;refine⟨by simp,.inl ⟨_,_,rfl,run_takeDeferred hK, ?_⟩⟩;refine⟨.bool false, ?_,by rw[hall],HFIN.out⟩
  simp[results,Tryz.results50,go_sem,hcell]
end
open Hg (Cm Br DK CE Iz)
theorem PK(B:Nat)(v:Value)(l:List (List UInt8))(w:World)(hn:l.Nodup)(hl:l.length≤1000000)(ho:w.ownsRow B 9 1 v l.length (l.map strV))(hB:B≤w.heap.size):
 Calls Tryz.prog 92 #[v] w fun e w'=>e= .returned (.bool false)∧Below B w w':=
 (Tp B v l w hn hl ho).mono fun _ _ h=>⟨h.1,(h.2.imp (fun q _ e=>(ho.lt q e).1)).below' hB⟩
theorem Uz(ab:Nat)(M:Nat→Option Hg.Node)(w:World)(hA:ArOk w ab M)(hN:Iz M):
 Calls Tryz.prog 48 #[.pointer (some ⟨ab,0,none⟩)] w fun e w'=>e= .returned (.bool false)∧Below w.heap.size w w':=by
 have T1:=zz (fun W (h:ArOk W ab M)=>LF ab M W h);have HA:=zz hA;have HN:=zz hN;have hml:=hA.lenK 1 2;have hmm:=hA.2.kids 1 2;have HMM:=zz hmm;have TT:=zz PK;change (Cm M).length≤1000000 at hml;clear hA hN hmm;go_enter Tryz.func48,Tryz.ntmps48;go_wp2_with fail;refine(T1.out w HA.out).mono ?_;rintro e w1 ⟨⟨v,rfl,ho1⟩,hb1⟩;have TN:=zz (Ni ab M v (Cm M) w1 (HA.out.below hb1) (Sl.Aj ho1) HMM.out hml);have HB1:=zz hb1;clear hb1 ho1;go_wp2_with fail;refine TN.out.mono ?_;rintro e w2 ⟨⟨v2,rfl,ho2⟩,hb2⟩;have TW:=zz (TT.out w1.heap.size v2 _ w2 HN.out.1 (by rw[List.length_map];exact hml) (by rw[List.length_map];simpa using ho2) hb2.size);have HB2:=zz (HB1.out.trans (hb2.mono HB1.out.size));have hs2:=HB1.out.size;clear hb2 ho2 TN;go_wp2_with fail;refine TW.out.mono ?_;rintro e w3 ⟨rfl,hb3⟩;have HB3:=zz (HB2.out.trans (hb3.mono hs2));have hs3:=HB3.out.size;have T2:=zz (T1.out w3 (HA.out.below HB3.out));clear TW hb3;go_wp2_with fail;refine T2.out.mono ?_;rintro e w4 ⟨⟨vm,rfl,ho4⟩,hb4⟩;obtain⟨a,c,rfl⟩:=(Sl.Aj ho4).form;have HS:=zz (Sl.Aj ho4);have HB4:=zz (HB3.out.trans (hb4.mono hs3));have HA4:=zz (HA.out.below HB4.out);clear ho4 hb4 T2;go_wp2
 go_loopw [15] (fun p wr=>∃i:Nat,p= .int .i64 (i:Int)∧i≤(Cm M).length∧Below w4.heap.size w4 wr) (fun p wr=>(Cm M).length-(intOf p).toNat)
 case atStart=>exact⟨0,rfl,Nat.zero_le _,AL⟩
 case round=>
  obtain⟨i,rfl,hi,hb⟩:=hrel;have HB:=zz hb;clear hb;by_cases hlt:i < (Cm M).length
  ·obtain⟨b,o,rfl,_,kc⟩:=(HS.out.below HB.out AA).mapAt hlt
   have hmem:=List.getElem_mem hlt;have hmi:=HMM.out _ hmem;generalize(Cm M)[i]=m at kc hmi hmem;have T2:=zz (fun W (h:ArOk W ab M)=>Nz ab M m W h hmi);have T2':=zz (T2.out wr (HA4.out.below HB.out));have hfl:=(HA4.out.below HB.out).lenK m 3;have HFM:=zz (HA.out.2.kids m 3);have HND:=zz (HN.out.2.1 m hmem);have HND3:=zz (HN.out.2.2 m hmem);have hsr:=HB.out.size;change (Br M m).length≤1000000 at hfl;clear hmem;go_wp2_with fail;refine T2'.out.mono ?_;rintro e w5 ⟨⟨v5,rfl,ho5⟩,hb5⟩;have TN:=zz (Ni ab M v5 (Br M m) w5 ((HA4.out.below HB.out).below hb5) (Sl.Aj ho5) HFM.out hfl);have HB5:=zz (HB.out.trans (hb5.mono hsr));clear hb5 ho5 T2';go_wp2_with fail;refine TN.out.mono ?_;rintro e w6 ⟨⟨v6,rfl,ho6⟩,hb6⟩;have TW:=zz (TT.out w5.heap.size v6 _ w6 HND.out (by rw[List.length_map];exact hfl) (by rw[List.length_map];simpa using ho6) hb6.size);have hs5:=HB5.out.size;have HB6:=zz (HB5.out.trans (hb6.mono hs5));clear hb6 ho6 TN;go_wp2_with fail;refine TW.out.mono ?_;rintro e w7 ⟨rfl,hb7⟩;have HB7:=zz (HB6.out.trans (hb7.mono hs5));have hs7:=HB7.out.size;have T3:=zz (T2.out w7 (HA4.out.below HB7.out));clear TW hb7;go_wp2_with fail;refine T3.out.mono ?_;rintro e w8 ⟨⟨v8,rfl,ho8⟩,hb8⟩;obtain⟨a2,c2,rfl⟩:=(Sl.Aj ho8).form;have HS2:=zz (Sl.Aj ho8);have HB8:=zz (HB7.out.trans (hb8.mono hs7));have HA8:=zz (HA4.out.below HB8.out);clear ho8 hb8 T3;go_wp2
   go_loopw [29] (fun p wr=>∃j:Nat,p= .int .i64 (j:Int)∧j≤(Br M m).length∧Below w8.heap.size w8 wr) (fun p wr=>(Br M m).length-(intOf p).toNat)
   case atStart=>exact⟨0,rfl,Nat.zero_le _,AL⟩
   case round=>
    obtain⟨j,rfl,hj,hb9⟩:=hrel;have HB9:=zz hb9;have hs9:=hb9.size;clear hb9;by_cases hltj:j < (Br M m).length
    ·obtain⟨b2,o2,rfl,_,kc2⟩:=(HS2.out.below HB9.out AA).mapAt hltj
     have hmj:=List.getElem_mem hltj;have hfj:=HFM.out _ hmj;generalize(Br M m)[j]=f at kc2 hfj hmj;obtain⟨F,xs,hxs,hF,hnd⟩:=HND3.out f hmj;have TK:=zz (RP ab M f F xs wr (HA8.out.below HB9.out) hfj hxs hF);have hnl:(CE xs).length≤1000000:=by
      have h1:=MU xs;have h2:=Ls M _ _ _ _ hxs;omega
     have HNL:=zz (And.intro hnd hnl);clear hmj hxs hF hnd hnl;go_wp2_with fail;refine TK.out.mono ?_;rintro e w10 ⟨⟨v10,rfl,ho10⟩,hb10⟩;have TW:=zz (TT.out wr.heap.size v10 _ w10 HNL.out.1 HNL.out.2 ho10 hb10.size);have HB10:=zz (HB9.out.trans (hb10.mono hs9));clear hb10 ho10 TK;go_wp2_with fail;refine TW.out.mono ?_;rintro e w11 ⟨rfl,hb11⟩;have HB11:=zz (HB10.out.trans (hb11.mono hs9));clear hb11 TW;go_wp2;go_roundw
     case rel=>exact⟨j+1,by go_num,by omega,HB11.out⟩
     case measure=>simp[intOf];omega
    ·have HB12:=zz (HB8.out.trans (HB9.out.mono HB8.out.size))
     go_wp2;go_roundw
     case rel=>exact⟨i+1,by go_num,by omega,HB12.out⟩
     case measure=>simp[intOf];omega
  ·go_wp2
   go_ret;exact⟨rfl,HB4.out.trans (HB.out.mono HB4.out.size)⟩
open Go.ChangeMaps Go.MapKept Go.WideShapes
open Go.WideElems (Fit rd rg)
open Hg (Jk FZ tRun OL)
theorem Si{R:Value→Option (DataW Value×List MemPlace)}{w:World}{b n:Nat}{D:DataW Value}(ho:w.ownsMap Tryz.prog 45 R b n D):
 ∃es:List (Lit×DataW Value),D= .map es∧(es.map (·.1)).Nodup∧∀p∈es,∃i,i < Ah∧p.1=idL i:=by
 obtain⟨es,he,hp⟩:=ho.tidy BL;refine⟨es,he, ?_,fun p hpm=> ?_⟩
 ·rw[List.Nodup,List.pairwise_map]
  exact hp
 ·obtain⟨es0,clock,hb,F,hs,hD⟩:=ho
  rw[he] at hD;injection hD with hD;subst hD;have hm:=(sorted_perm _).mem_iff.1 hpm;obtain⟨v,hv⟩:=Maps.fit_keys F p hm;obtain⟨x,e1,e2,hw⟩:=Maps.keyOf_int_inv Tryz.underlying45 hv;have hw':0≤x∧x≤18446744073709551615:=by
   have m1:IntKind.u64.min=0:=rfl;have m2:IntKind.u64.max=18446744073709551615:=rfl;simpa[Lit.wf,m1,m2] using hw
  obtain⟨i,rfl⟩:=Int.eq_ofNat_of_zero_le hw'.1;exact⟨i,by unfold Ah;omega,e2⟩
theorem WM{R1 R2:Value→Option (DataW Value×List MemPlace)}{w1 w2:World}{b1 n1 b2 n2:Nat}{D1 D2:DataW Value}(h1:w1.ownsMap Tryz.prog 45 R1 b1 n1 D1)(h2:w2.ownsMap Tryz.prog 45 R2 b2 n2 D2)
 (h:∀i,i < Ah→Maps.has D1 (idL i)=Maps.has D2 (idL i)):Maps.size D1=Maps.size D2:=by
 obtain⟨e1,rfl,n1,k1⟩:=Si h1;obtain⟨e2,rfl,n2,k2⟩:=Si h2;have hmem:∀(es:List (Lit×DataW Value)) i,i < Ah→(Maps.has (.map es) (idL i)=true↔idL i∈es.map (·.1)):=by
  intro es i hi;rw[Maps.has_eq,List.any_eq_true];constructor
  ·rintro⟨p,hp,hs⟩
   exact List.mem_map.2 ⟨p,hp,WideAt.sameKey_eq hs⟩
  ·intro hm
   obtain⟨p,hp,e⟩:=List.mem_map.1 hm;exact⟨p,hp,by rw[e];exact WideAt.sameKey_self (BL.key (BJ hi))⟩
 have hp:(e1.map (·.1)).Perm (e2.map (·.1)):=by
  rw[List.perm_ext_iff_of_nodup n1 n2];intro l;constructor
  ·intro hl
   obtain⟨p,hp,rfl⟩:=List.mem_map.1 hl;obtain⟨i,hi,e⟩:=k1 p hp;rw[e] at hl⊢;rw[←hmem _ i hi,←h i hi,hmem _ i hi];exact hl
  ·intro hl
   obtain⟨p,hp,rfl⟩:=List.mem_map.1 hl;obtain⟨i,hi,e⟩:=k2 p hp;rw[e] at hl⊢;rw[←hmem _ i hi,h i hi,hmem _ i hi];exact hl
 have:=hp.length_eq;simpa[Maps.size_eq] using this
theorem EO.lookW{Z:Nat→Prop}{w:World}{ab mb c:Nat}{M:Nat→Option Hg.Node}(h:EO Z w ab mb c M){id:Nat}(hid:id < Ah):
 ∃ka kc,Sl w w.heap.size (.slice ka (ndAt M id).kids.length kc) (ndAt M id).kids.length ((ndAt M id).kids.map idV)∧∀W,Below w.heap.size w W→
   (Instr.lookup 60 (.map (some mb)) (.int .u64 (id:Int)) true).run Tryz.prog W= .ok (.tuple #[ndV (ndAt M id) ka kc,.bool (M id).isSome]) W∧
   (Instr.lookup 60 (.map (some mb)) (.int .u64 (id:Int)) false).run Tryz.prog W= .ok (ndV (ndAt M id) ka kc) W:=by
 obtain⟨⟨D,ho,hc,hk⟩,hbd⟩:=h.map;have hx:=hk id hid;have hz:∀W,(zeroValue 48).run Tryz.prog W= .ok (ndV Hg.Node.zero none 0) W:=fun W=>by kernel_rfl
 unfold ndAt;cases hM:M id with
 |none=>
   rw[hM] at hx;have hx':Maps.has D (idL id)=false:=hx;refine⟨none,0,Sl.nil _ _,fun W hb=> ?_⟩;have ho2:=ho.kept (below_grown hb none) (by simp);obtain⟨v,ps,hrun,hv⟩:=ho2.look_ok BL Tryz.underlying60 (hz W) (zd:= .held (ndV Hg.Node.zero none 0)) (zp:=[]) rfl (BJ hid);obtain⟨v2,ps2,hrun2,hv2⟩:=ho2.lookup BL Tryz.underlying60 (hz W) (zd:= .held (ndV Hg.Node.zero none 0)) (zp:=[]) rfl (BJ hid);simp only[rawR,Option.some.injEq,Prod.mk.injEq] at hv hv2;rw[Maps.atKey_of_not_has hx'] at hv hv2;have e:v=ndV Hg.Node.zero none 0:=by simpa using hv.1
   have e2:v2=ndV Hg.Node.zero none 0:=by simpa using hv2.1
   exact⟨by rw[hrun,hx',e];rfl,by rw[hrun2,e2];rfl⟩
 |some nd=>
   rw[hM] at hx;obtain⟨ka,kc,h1,h2,h3⟩:=hx;refine⟨ka,kc,h2,fun W hb=> ?_⟩;have ho2:=ho.kept (below_grown hb none) (by simp);obtain⟨v,ps,hrun,hv⟩:=ho2.look_ok BL Tryz.underlying60 (hz W) (zd:= .held (ndV Hg.Node.zero none 0)) (zp:=[]) rfl (BJ hid);obtain⟨v2,ps2,hrun2,hv2⟩:=ho2.lookup BL Tryz.underlying60 (hz W) (zd:= .held (ndV Hg.Node.zero none 0)) (zp:=[]) rfl (BJ hid);simp only[rawR,Option.some.injEq,Prod.mk.injEq] at hv hv2;rw[h1] at hv hv2;have e:v=ndV nd ka kc:=by simpa using hv.1
   have e2:v2=ndV nd ka kc:=by simpa using hv2.1
   exact⟨by rw[hrun,Maps.has_true_of_atKey h1,e];rfl,by rw[hrun2,e2];rfl⟩
theorem Pi{k:TypeId}{R:Value→Option (DataW Value×List MemPlace)}{w w':World}{b r n:Nat}{D:DataW Value}{left:Lit→Bool}{cnt:Nat}(h:w.ranges Tryz.prog k R b r n D left cnt)(hb:Below w.heap.size w w'):w'.ranges Tryz.prog k R b r n D left cnt:=by
 have h1:=h.lt;have h2:=h.owns.lt;obtain⟨es,clock,since,seen,c0,e1,e2,e3,e4,e5,e6⟩:=h;exact⟨es,clock,since,seen,c0,(hb.block b h2).trans e1,e2,e3,e4,(hb.block r h1).trans e5,e6⟩
def dV(l:List (Nat×Nat)):List (Nat×Value):=l.map fun p=>(p.1,.int .i64 (p.2:Int))
theorem WQ(l:List (Nat×Nat))(k:Nat):gl (dV l) k=(gl l k).map fun d=> .int .i64 (d:Int):=Hg.YX (fun d:Nat=>Value.int .i64 (d:Int)) l k
structure TrSt (M:Nat→Option Hg.Node) (R:List (Nat×Nat)) (mk:Nat) (w:World) (f:Nat) (v:Value) (wr:World) (lvl:List Nat) (deep:List (Nat×Nat)):Prop where
 own:wr.ownsRow w.heap.size 45 1 v lvl.length (lvl.map idV)
 mp:IMap wr mk (dV deep)
 bel:Below w.heap.size w wr
 run:tRun M f lvl deep=some R
 top:∀x∈lvl,x < Ah
 len:lvl.length≤1000000
structure LvSt (mk:Nat) (w0 wr:World) (u:Value) (deep:List (Nat×Nat)) (next:List Nat):Prop where
 own:wr.ownsRow w0.heap.size 45 1 u next.length (next.map idV)
 mp:IMap wr mk (dV deep)
 fr:Fr (fun q=>q=mk∨w0.heap.size≤q) w0 wr
 top:∀x∈next,x < Ah
 len:next.length≤1000000
theorem Xu(n:Hg.Node)(ka:Option Addr)(kc:Nat)(W:World):(Instr.field 48 (ndV n ka kc) 5).run Tryz.prog W= .ok (.slice ka n.kids.length kc) W:=by kernel_rfl
def RgSt(mb cA:Nat)(D:DataW Value)(wE wr:World):Prop:=∃left cnt,wr.ranges Tryz.prog 45 rawR mb wE.heap.size cA D left cnt∧Below wE.heap.size wE wr
theorem VP(ab:Nat)(M:Nat→Option Hg.Node)(F:Nat)(R:List (Nat×Nat))(w:World)(hA:ArOk w ab M)(hT:OL M F R):
 Calls Tryz.prog 85 #[.pointer (some ⟨ab,0,none⟩)] w fun e w'=>e= .returned (.bool true)∧Below w.heap.size w w':=by
 obtain⟨j0,hJ,hJ0,hJ1,hJ2⟩:=info_parts IM;obtain⟨⟨mb,cA,hAr⟩,hkb⟩:=hA;have HAR:=zz hAr;have HKB:=zz hkb;clear hAr hkb;have hA:ArOk w ab M:=⟨⟨mb,cA,HAR.out⟩,HKB.out⟩;have hzi:∀W:World,(zeroValue 3).run Tryz.prog W= .ok (.int .i64 0) W:=fun W=>by kernel_rfl
 have HA:=zz hA;have HT:=zz hT;obtain⟨nd,hM1,hk1⟩:=hT.root;have TR:=zz (H9 ab w);have TG:=zz (show Calls Tryz.prog 55 #[.pointer (some ⟨ab,0,none⟩),.int .u64 ((1:Nat):Int)] w (Hf w (some nd)) from hM1 ▸ hA.get (by decide));have hq:((nd.kind:Int) !=1)=false:=by simp[hk1]
 have hq2:((nd.kind:Int)==1)=true:=by simp[hk1]
 clear hA hT hM1 hk1;go_enter Tryz.func85,Tryz.ntmps85;go_wp2_with fail;refine TR.out.mono ?_;rintro e w ⟨rfl,rfl⟩;clear TR;go_wp2_with fail;refine TG.out.mono ?_;rintro e w2 ⟨ka,kc,rfl,ho,hb2⟩;have HB2:=zz hb2;clear TG ho hb2;go_wp2;have hb3:=HB2.out.alloc HB2.out.size (.cells (AZ nd ka kc) 48);generalize World.alloc w2 _=W2 at hb3⊢;have hb4:=hb3.alloc hb3.size (.map #[] 0);obtain⟨W3,hrun3,hU3,hg3⟩:=(XMap.made 45 idV W2).put (t:=175) BL Tryz.underlying175 (fun x y h=>by injection h with _ h;exact Int.ofNat.inj h) (by simp) 1 ⟨_,BJ (by decide)⟩ (.int .i64 1);replace hrun3:(Instr.mapUpdate 175 (.map (some W2.heap.size)) (.int .u64 1) (.int .i64 1)).run Tryz.prog (W2.alloc (.map #[] 0))= .ok () W3:=hrun3;have hf3:Fr (fun q=>w.heap.size≤q) (W2.alloc (.map #[] 0)) W3:=(Fr.Y1 hg3 (fun q e=>(Option.some.inj e).symm)).imp (fun q _ e=>by have:=hb3.size;omega);have hb5:Below w.heap.size w W3:=hb4.trans (hf3.below' hb4.size);have hn4:=AX W3 (.cells #[.int .u64 1] 45);have HST:=zz (show TrSt M R W2.heap.size w F (.slice (some ⟨W3.heap.size,0,none⟩) 1 1) (W3.alloc (.cells #[.int .u64 1] 45)) [1] [(1,1)] from
  ⟨⟨rfl,.inr ⟨W3.heap.size,1,#[idV 1],rfl,hb5.size,hn4,AA,by unfold maxLen;omega,rfl,rfl⟩⟩,hU3.fr ((Fr.refl (fun _=>False) W3).alloc _) (fun e=>e),hb5.alloc hb5.size _,HT.out.run,by simp[Ah],by simp⟩)
 have HMK:=zz hb3.size;generalize hmk:W2.heap.size=mk at HST HMK⊢hrun3;rw[run_makeMap];go_wp2;generalize World.alloc W3 _=W4 at HST⊢;clear hb3 hb4 hU3 hg3 hrun3 hf3 hb5 hn4 HB2 hq hq2
 go_loopw [6] (fun p wr=>∃v f lvl deep,p=v∧TrSt M R mk w f v wr lvl deep) (fun p wr=>Hg.least (fun f=>∃lvl deep,TrSt M R mk w f p wr lvl deep))
 case atStart=>exact⟨_,F,[1],[(1,1)],rfl,HST.out⟩
 case round=>
  rename World=>wE
  obtain⟨v,f',lvl',deep',hv,hrel⟩:=hrel;have hv:=hv.symm;subst hv;have hl:=Hg.JZ (p:=fun f=>∃lvl deep,TrSt M R mk w f v wE lvl deep) ⟨f',lvl',deep',hrel⟩;generalize hf0:Hg.least _=f at hl;have HF0:=zz hf0;clear hrel hf0 HST;obtain⟨lvl,deep,hS⟩:=hl;have HS:=zz hS;obtain⟨a6,c6,rfl⟩:=(Sl.Aj hS.own).form;have hrun:=hS.run;have hll:=hS.len;clear hS;cases f with
  |zero=>cases hrun
  |succ f=>
  cases lvl with
  |nil=>
    have hrun:deep=R:=Option.some.inj hrun;subst hrun;obtain⟨c0,f0⟩:=(HAR.out.below HS.out.bel AA).read;obtain⟨⟨D,ho,hsz,hk⟩,hbd⟩:=(HAR.out.below HS.out.bel AA).map;obtain⟨n9,D9,hn9,ho9,hs9⟩:=HS.out.mp;have hsz9:Maps.size D9=Maps.size D:=WM ho9 ho (fun i hi=>by
     have h1:=hs9 i (idL i) (BJ hi);have h2:=hk i hi;have h3:=HT.out.all i;rw[WQ] at h1;have e1:Maps.has D9 (idL i)=(gl deep i).isSome:=by
      cases hg:gl deep i with
      |none=>rw[hg] at h1;exact h1
      |some d=>rw[hg] at h1;exact Maps.has_true_of_atKey h1
     have e2:Maps.has D (idL i)=(M i).isSome:=by
      cases hm:M i with
      |none=>rw[hm] at h2;exact h2
      |some d=>rw[hm] at h2;obtain⟨_,_,g1,_⟩:=h2;exact Maps.has_true_of_atKey g1
     rw[e1,e2,h3])
    have HK:=zz hk;have HO9:=zz (And.intro ho9 hsz9);have HREF:=zz HT.out.refs;clear f0 hk hbd hsz hn9 hs9 ho9 hsz9 hll hrun
    go_wp2_with (at_range;refine wpList_range_own _ rfl (.tmp 100) 60 rfl 45 48 BL Tryz.underlying60 rawR mb cA D rfl ho ?_;intro w0 hrg0 hg0 hs0)
    go_frame
    have hb0:=JK hg0;clear hg0 c0
    go_loopw [19] (fun p wr=>RgSt mb cA D wE wr) (fun _ wr=>wr.rangeLeft mb wE.heap.size)
    case atStart=>exact⟨_,_,hrg0,hb0⟩
    case round=>
     obtain⟨left,cnt,hrg,hbw⟩:=hrel;clear hrg0 hb0 hs0
     go_wp2_with (at_next;refine wpList_next_ranges (α:=Int) (β:=Value) _ rfl (.tmp 101) rfl 45 BL rawR (Value.int .u64) (fun v=>v) (fun key kl hkey=>by obtain⟨x,rfl,_⟩:=Maps.keyOf_int_inv Tryz.underlying45 hkey;exact⟨x,rfl⟩) (fun v y hv=>⟨v,rfl⟩) mb wE.heap.size cA D left cnt rfl hrg ?_ ?_)
     ·intro h0 hl
      have HBW:=zz (HS.out.bel.trans (hbw.mono HS.out.bel.size));have hl1:=(HO9.out.1.kept (below_grown hbw none) (by simp)).drew.len Tryz.underlying175 3;have hl2:=hrg.owns.drew.len Tryz.underlying60 3;rw[HO9.out.2] at hl1;obtain⟨c0,f0⟩:=(HAR.out.below HBW.out AA).read;clear hl h0 hrg hbw f0 ho;go_wp2;have HBD:=zz HBW.out.drew;have hHeld:(fun w'=>w'.cell? ⟨ab,0,none⟩=some (.map (some mb))∧(Builtin.len_ #[175] 3 #[.map (some mk)]).run Tryz.prog w'= .ok (.int .i64 (Maps.size D:Int)) w'∧(Builtin.len_ #[60] 3 #[.map (some mb)]).run Tryz.prog w'= .ok (.int .i64 (Maps.size D:Int)) w') wr.drew:=⟨c0,hl1,hl2⟩;refine Ap (fun w'=>w'.cell? ⟨ab,0,none⟩=some (.map (some mb))∧(Builtin.len_ #[175] 3 #[.map (some mk)]).run Tryz.prog w'= .ok (.int .i64 (Maps.size D:Int)) w'∧(Builtin.len_ #[60] 3 #[.map (some mb)]).run Tryz.prog w'= .ok (.int .i64 (Maps.size D:Int)) w') 8 (by kernel_rfl) ?_;refine tz 0 ?_;refine tz 1 ?_;refine tz 2 ?_;refine tz 3 ?_;refine tz 4 ?_;refine tz 5 ?_;refine tz 6 ?_;refine tz 7 ?_;refine Ag (by kernel_rfl) ?_;simp only[List.drop_succ_cons,List.drop_zero];clear hHeld hl1 hl2 c0;go_wp2;go_ret;exact⟨rfl,HBD.out⟩
     ·intro x cv kl y ps w1 cnt1 hkx hlx hrx hax hrg1 hlt1 hg1 hs1 hen
      obtain⟨i,nx,ka1,kc1,rfl,hi,rfl,hMi,rfl,hsl⟩:=Qc HK.out hkx hrx hax;have hrlt:=hrg.lt;have hle:=hrg.left_eq;have hb1:Below wE.heap.size wE w1:=hbw.grown hg1 hbw.size (fun k hk=>by injection hk with hk;omega);obtain⟨hrf,hr0⟩:=HREF.out i nx hMi;clear hkx hlx hrx hax hrg hg1 hMi hi hsl hs1;go_wp2;have hb5:=hb1.alloc hb1.size (.cells (AZ nx ka1 kc1) 48);have hn5:=AX w1 (.cells (AZ nx ka1 kc1) 48);have hr5:=hrg1.alloc (.cells (AZ nx ka1 kc1) 48);have hz5:w1.heap.size < (w1.alloc (.cells (AZ nx ka1 kc1) 48)).heap.size:=by simp
      simp only[AZ] at hb5 hn5 hr5 hz5;generalize World.alloc w1 _=W5 at hb5 hn5 hr5 hz5⊢;have hbE:=HS.out.bel.trans (hb5.mono HS.out.bel.size);have e4:=AJ W5 w1.heap.size 4 _ _ (0,0) hn5;simp at e4;generalize w1.heap.size=blk at hz5 hn5 e4⊢;obtain⟨kr,cr,hslr,hlkr⟩:=HAR.out.lookW hrf;have hso:nx.ref=0∨(M nx.ref).isSome=true:=hr0;generalize hsoe:(M nx.ref).isSome=so at hlkr hso;obtain⟨c5,f5⟩:=(HAR.out.below hbE AA).read;have hal:=(HAR.out.below hbE AA).lt;have HL:=zz hlkr;have HBE:=zz hbE;have HB5:=zz hb5;have HR5:=zz hr5;have hHeld:(fun w'=>w'.cell? ⟨ab,0,none⟩=some (.map (some mb))∧w'.cell? ⟨blk,4,none⟩=some (.int .u64 (nx.ref:Int))∧(Instr.lookup 60 (.map (some mb)) (.int .u64 (nx.ref:Int)) true).run Tryz.prog w'= .ok (.tuple #[ndV (ndAt M nx.ref) kr cr,.bool so]) w') W5.drew:=⟨c5,e4,(hlkr _ hbE.drew).1⟩;have hHeld0:=hHeld;clear hlkr hslr hbE hb5 hr5 hn5 hrg1 hb1 c5 f5 e4 hr0 hrf hsoe;refine Ap (fun w'=>w'.cell? ⟨ab,0,none⟩=some (.map (some mb))∧w'.cell? ⟨blk,4,none⟩=some (.int .u64 (nx.ref:Int))∧(Instr.lookup 60 (.map (some mb)) (.int .u64 (nx.ref:Int)) true).run Tryz.prog w'= .ok (.tuple #[ndV (ndAt M nx.ref) kr cr,.bool so]) w') 12 (by kernel_rfl) ?_;refine tz 0 ?_;refine tz 1 ?_;refine tz 2 ?_;refine tz 3 ?_;refine tz 4 ?_;refine tz 5 ?_;refine tz 6 ?_;refine tz 7 ?_;refine tz 8 ?_;refine tz 9 ?_;refine AU (i:=10) rfl (by kernel_rfl) (fun K hK=> ?_);go_simp;generalize hWa:World.alloc _ _=Wa;obtain⟨hBa,hha,hza⟩:=Iq hWa;have HBA:=zz hBa;clear hWa hBa;refine hK.out _ _ (⟨(HBA.out.cell (p:=⟨ab,0,none⟩) hal).trans hHeld.1,(HBA.out.cell (p:=⟨blk,4,none⟩) hz5).trans hHeld.2.1,(HL.out _ (HBE.out.trans (HBA.out.mono HBE.out.size)).drew).1⟩) (fun hHeld=> ?_);clear hK K
      try simp only[Act.put,sA,sB,sC,sD,sE,sF]
      refine AU (i:=11) rfl (by kernel_rfl) (fun K hK=> ?_);have z2:=fun i=>AJ Wa W5.heap.size i _ _ (0,0) hha;have y0:=z2 0;have y1:=z2 1;have y2:=z2 2;have y3:=z2 3;have y4:=z2 4;have y5:=z2 5;simp at y0 y1 y2 y3 y4 y5;have f2:∀i,Wa.frozen? ⟨W5.heap.size,i,none⟩=false:=fun i=>by simp[World.frozen?,hha]
      clear z2;go_simp;generalize hWb:World.setCell _ _ _=Wb;have HBB:=zz (show Below W5.heap.size W5 Wb from hWb ▸ Bg HBA.out AA _ _ _ _ _ _);clear hWb y0 y1 y2 y3 y4 y5 f2 hha hza;refine hK.out _ _ (⟨(HBB.out.cell (p:=⟨ab,0,none⟩) hal).trans hHeld0.1,(HBB.out.cell (p:=⟨blk,4,none⟩) hz5).trans hHeld0.2.1,(HL.out _ (HBE.out.trans (HBB.out.mono HBE.out.size)).drew).1⟩) (fun hHeld=> ?_);clear hK K
      try simp only[Act.put,sA,sB,sC,sD,sE,sF]
      refine Ag (by kernel_rfl) ?_;simp only[List.drop_succ_cons,List.drop_zero];have e9:Wb.cell? ⟨blk,4,none⟩=some (.int .u64 (nx.ref:Int)):=hHeld.2.1;clear hHeld hHeld0;have HBR:=zz (HB5.out.trans ((HBB.out.mono HB5.out.size)).drew);have HRR:=zz (Pi HR5.out HBB.out.drew);have HRG:=zz (show RgSt mb cA D wE Wb.drew from⟨_,_,HRR.out,HBR.out⟩);clear HBB HL HBE;rcases hso with h0|h1
      ·have q0:((nx.ref:Int) !=0)=false:=by simp[h0]
       go_wp2;go_roundw
       case rel=>exact HRG.out
       case measure=>first|exact hlt1|(rw[HRR.out.left_eq];first|exact hlt1|(rw[hle];exact hlt1))
      ·have hns:(!so)=false:=by simp[h1]
       clear h1;by_cases h0:nx.ref=0
       ·have q0:((nx.ref:Int) !=0)=false:=by simp[h0]
        go_wp2;go_roundw
        case rel=>exact HRG.out
        case measure=>first|exact hlt1|(rw[HRR.out.left_eq];first|exact hlt1|(rw[hle];exact hlt1))
       ·have q0:((nx.ref:Int) !=0)=true:=by simp;omega
        go_wp2;go_roundw
        case rel=>exact HRG.out
        case measure=>first|exact hlt1|(rw[HRR.out.left_eq];first|exact hlt1|(rw[hle];exact hlt1))
  |cons i0 lt=>
    rw[tRun] at hrun;cases hlv:FZ M (i0::lt) deep [] with
    |none=>rw[hlv] at hrun;cases hrun
    |some r=>
    rw[hlv] at hrun;have HRUN:=zz (show tRun M f r.2 r.1=some R from hrun);generalize hL:i0::lt=L at*;have hpos:0 < L.length:=by rw[←hL];simp
    have HLV:=zz hlv;clear hrun hlv hL;have HLS:=zz (show LvSt mk wE wE (.slice none 0 0) deep [] from⟨⟨rfl,.inl ⟨rfl,rfl⟩⟩,HS.out.mp,Fr.refl _ _,by simp,by simp⟩);have HTOP:=zz HS.out.top;have HBEL:=zz HS.out.bel;have HOWN:=zz HS.out.own;have hmkl:=HS.out.mp.lt;have hmk2:∀q,(Value.slice a6 L.length c6).ownBlock=some q→¬(q=mk∨wE.heap.size≤q):=fun q e e'=>by
     obtain⟨es,ck,hm⟩:=HS.out.mp.obj;rcases e' with e'|e'
     ·subst e'
      rcases Cs HS.out.own hm with h|h
      ·rw[h] at e;cases e
      ·exact h e
     ·have:=(HS.out.own.lt q e).2;omega
    have HMK2:=zz hmk2;clear hmk2;go_wp2
    go_loopw [7,42] (fun p q wr=>∃(u:Value) (j:Nat) (dp:List (Nat×Nat)) (nx:List Nat),p=u∧q= .int .i64 (j:Int)∧j≤L.length∧LvSt mk wE wr u dp nx∧FZ M (L.drop j) dp nx=some r) (fun _ q wr=>L.length-(intOf q).toNat)
    case atStart=>exact⟨_,0,deep,[],rfl,rfl,Nat.zero_le _,HLS.out,HLV.out⟩
    case round=>
     rename World=>wF
     obtain⟨u,j,dp,nx,hu,rfl,hj,hL,hlv⟩:=hrel;have hu:=hu.symm;subst hu;have HL:=zz hL;have hbF:Below w.heap.size w wF:=HBEL.out.trans ((hL.fr.imp (D':=fun q=>w.heap.size≤q) (fun q _ e=>by have:=HMK.out;have:=HBEL.out.size;rcases e with e|e <;>omega)).below' HBEL.out.size);have HBF:=zz hbF;clear hL hbF HLS;by_cases hlt:j < L.length
     ·have hof:=Am HOWN.out HL.out.fr HMK2.out
      obtain⟨b,o,rfl,_,kc6⟩:=(Sl.Aj hof).mapAt hlt;rw[Aw hlt,FZ] at hlv;have hidt:=HTOP.out _ (List.getElem_mem hlt);generalize L[j]=id at kc6 hlv hidt;cases hMs:(M id).isNone with
      |true=>rw[hMs] at hlv;cases hlv
      |false=>
      rw[hMs,if_neg (by simp)] at hlv;cases htk:Jk M id (ndAt M id).kids dp nx with
      |none=>rw[htk] at hlv;cases hlv
      |some r2=>
      rw[htk] at hlv;have HLV2:=zz (show FZ M (L.drop (j+1)) r2.1 r2.2=some r from hlv);obtain⟨kb,kcb,hskb,hlkb⟩:=HAR.out.lookW hidt;have hlk1:=(hlkb wF HBF.out).2;obtain⟨c0,f0⟩:=(HAR.out.below HBF.out AA).read;have HSK:=zz hskb;have hkl:=HA.out.len id;have HKT:=zz (HKB.out.at id);have HTK:=zz htk;have hfld:=Xu (ndAt M id) kb kcb wF;generalize hkids:(ndAt M id).kids=ks at*;clear hlv htk hMs f0 hskb hlkb hof;go_wp2;clear hfld hlk1 c0 kc6 hkids
      go_loopw [7,54] (fun p q wr=>∃(u:Value) (m:Nat) (d1:List (Nat×Nat)) (x1:List Nat),p=u∧q= .int .i64 (m:Int)∧m≤ks.length∧LvSt mk wE wr u d1 x1∧Jk M id (ks.drop m) d1 x1=some r2) (fun _ q wr=>ks.length-(intOf q).toNat)
      case atStart=>exact⟨_,0,dp,nx,rfl,rfl,Nat.zero_le _,HL.out,HTK.out⟩
      case round=>
       rename World=>wG
       obtain⟨u1,m,d1,x1,hu1,rfl,hm,hL1,htk⟩:=hrel;have hu1:=hu1.symm;subst hu1;have HL1:=zz hL1;have hbG:Below w.heap.size w wG:=HBEL.out.trans ((hL1.fr.imp (D':=fun q=>w.heap.size≤q) (fun q _ e=>by have:=HMK.out;have:=HBEL.out.size;rcases e with e|e <;>omega)).below' HBEL.out.size);have HBG:=zz hbG;clear hL1 hbG;by_cases hltm:m < ks.length
       ·obtain⟨bk,ok,rfl,_,kck⟩:=(HSK.out.below HBG.out AA).mapAt hltm
        rw[Aw hltm,Jk] at htk;have hkt:=HKT.out _ (List.getElem_mem hltm);generalize ks[m]=k at kck htk hkt;by_cases hc:(gl d1 k).isSome∨(M k).isNone∨200≤(gl d1 id).getD 0∨1000000≤d1.length∨1000000≤x1.length
        ·rw[if_pos hc] at htk;cases htk
        rw[if_neg hc] at htk;simp only[not_or] at hc;obtain⟨hc1,hc2,hc3,hc4,hc5⟩:=hc;have hg0:gl d1 k=none:=by simpa using hc1
        have hms:(M k).isSome=true:=by
         cases hmk9:M k with
         |none=>rw[hmk9] at hc2;simp at hc2
         |some _=>rfl
        obtain⟨kk,kkc,hskk,hlkk⟩:=HAR.out.lookW hkt;have hlk2:=(hlkk wG HBG.out).1;rw[hms] at hlk2;obtain⟨c0,f0⟩:=(HAR.out.below HBG.out AA).read;generalize hde:(gl d1 id).getD 0=d at hc3 htk;have HTK3:=zz htk;clear hc1 hc2 hms hskk hlkk f0 htk;go_wp2;have hmH:=HL1.out.mp.fr ((Fr.refl (fun _=>False) wG).alloc (.cells (AZ (ndAt M k) kk kkc) 48)) (fun e=>e);have hoH:=HL1.out.own.alloc (.cells (AZ (ndAt M k) kk kkc) 48);have hfH:=HL1.out.fr.alloc (.cells (AZ (ndAt M k) kk kkc) 48);simp only[AZ] at hmH hoH hfH;generalize World.alloc wG _=wH at hmH hoH hfH⊢;have hd1:=hmH.look_ok (t:=175) (x:=k) BL Tryz.underlying175 (hzi _) ⟨_,BJ hkt⟩;rw[WQ,hg0] at hd1;replace hd1:(Instr.lookup 175 (.map (some mk)) (.int .u64 (k:Int)) true).run Tryz.prog wH= .ok (.tuple #[.int .i64 0,.bool false]) wH:=hd1;have hd2:=hmH.look (t:=175) (x:=id) BL Tryz.underlying175 (hzi _) ⟨_,BJ hidt⟩;have hgd:(gl (dV d1) id).getD (.int .i64 0)= .int .i64 (d:Int):=by
         rw[WQ,←hde];cases gl d1 id <;>rfl
        rw[hgd] at hd2;replace hd2:(Instr.lookup 175 (.map (some mk)) (.int .u64 (id:Int)) false).run Tryz.prog wH= .ok (.int .i64 (d:Int)) wH:=hd2;obtain⟨wI,hrunI,hUI,hgI⟩:=hmH.put (t:=175) BL Tryz.underlying175 (fun x y h=>by injection h with _ h;exact Int.ofNat.inj h) (by simp[dV];omega) k ⟨_,BJ hkt⟩ (.int .i64 ((d:Int)+1));replace hrunI:(Instr.mapUpdate 175 (.map (some mk)) (.int .u64 (k:Int)) (.int .i64 ((d:Int)+1))).run Tryz.prog wH= .ok () wI:=hrunI;have hwr:IntKind.i64.wrap ((d:Int)+1)=(d:Int)+1:=IntWalk.i64_in _ (by omega);have hge:decide ((200:Int)≤(d:Int))=false:=by simp;omega
        have hge2:decide (200≤d)=false:=by simp;omega
        have hfI:Fr (fun q=>q=mk) wH wI:=Fr.Y1 hgI (fun q e=>(Option.some.inj e).symm);have HOI:=zz (Am hoH hfI (fun q e e'=>by have:=(hoH.lt q e).1;omega));have HUI:=zz (show IMap wI mk (dV ((k,d+1)::d1)) from hUI);have HFI:=zz (hfH.trans (hfI.imp (fun q _ e=> .inl e)));have hx5:x1.length < 1000000:=by omega
        clear hmH hoH hfH hUI hgI hfI hgd hde hg0 hc3 hc4 hc5
        first|rw[hd1]|erw [hd1]
        go_wp2_with (at_builtin;refine wpList_append_own_at _ rfl (.tmp 90) (.tmp 92) _ rfl wE.heap.size 45 j0 _ 1 8 Tryz.underlying46 hJ hJ0 hJ1 hJ2 rfl (by decide) _ x1.length (x1.map idV) rfl (HOI.out.alloc _) ⟨wI.heap.size,0,none⟩ 1 1 [idV k] rfl rfl (Aq _ _ _) ?_ ?_ ?_ ?_ ?_)
        all_goals first
         |intro v3 W3' own3 g3 _ at3
         |(unfold maxLen;omega)
         |omega
         |(simp;have:=HFI.out.size;omega)
         |(intro u hu;simp only[List.mem_singleton] at hu;subst hu;rfl)
        have hgF:=(Fr.refl (fun q=>u1.ownBlock=some q) wI).alloc (.cells #[idV k] 45);have hg9:=hgF.step g3 (fun q e=> .inl e);have HL3:=zz (show LvSt mk wE W3' v3 ((k,d+1)::d1) (x1++[k]) from
         ⟨by rw [List.map_append, List.length_append]; exact own3,
          HUI.out.fr hg9 (fun e=>by have:=(HOI.out.lt _ e).1;omega),
          HFI.out.trans (hg9.imp (fun q _ e=> .inr (HOI.out.lt _ e).1)),
          fun x hx=>by
           rcases List.mem_append.1 hx with h|h
           ·exact HL1.out.top x h
           ·simp at h;subst h;exact hkt,
          by simp;omega⟩)
        clear own3 g3 at3 hgF hg9;go_wp2;go_roundw
        case rel=>exact⟨v3,m+1,(k,d+1)::d1,x1++[k],rfl,by go_num,by omega,HL3.out,HTK3.out⟩
        case measure=>simp[intOf];omega
       ·obtain rfl:m=ks.length:=by omega
        rw[List.drop_length] at htk;have htk:(d1,x1)=r2:=Option.some.inj htk;subst htk;go_wp2;go_roundw
        case rel=>exact⟨u1,j+1,d1,x1,rfl,by go_num,by omega,HL1.out,HLV2.out⟩
        case measure=>simp[intOf];omega
     ·obtain rfl:j=L.length:=by omega
      rw[List.drop_length] at hlv;have hlv:(dp,nx)=r:=Option.some.inj hlv;subst hlv;have HT2:=zz (show TrSt M R mk w f u wF nx dp from⟨CQ HL.out.own HBEL.out.size,HL.out.mp,HBF.out,HRUN.out,HL.out.top,HL.out.len⟩);go_wp2;go_roundw
      case rel=>exact⟨u,f,nx,dp,rfl,HT2.out⟩
      case measure=>
       have:=Hg.IL (p:=fun f=>∃lvl deep,TrSt M R mk w f u wF lvl deep) ⟨nx,dp,HT2.out⟩;have:=HF0.out;omega
open Hg (Ht JC)
theorem WC(a b:Nat):((a:Int)==(b:Int))=(a==b):=by
 by_cases h:a=b
 ·subst h;rw[beq_self_eq_true,beq_self_eq_true]
 ·rw[beq_eq_false_iff_ne.2 h,beq_eq_false_iff_ne.2 (by omega)]
theorem Pg(ab:Nat)(M:Nat→Option Hg.Node)(par:Nat→Nat×Int)(hp:LY M par)(id:Nat)(n:Hg.Node)(ka:Option Addr)(kc:Nat)(w:World)(hA:ArOk w ab M)
 (hs:Sl w w.heap.size (.slice ka n.kids.length kc) n.kids.length (n.kids.map idV)) (hl:n.kids.length≤1000000) (hk:∀k∈n.kids,k < Ah):
 Calls Tryz.prog 90 #[.pointer (some ⟨ab,0,none⟩),.int .u64 (id:Int),ndV n ka kc] w fun e w'=>e= .returned (.bool (JC M par id n))∧Below w.heap.size w w':=by
 have hb0:Below w.heap.size w (w.alloc (.cells (AZ n ka kc) 48)):=(AL).alloc AA _;have hn0:=AX w (.cells (AZ n ka kc) 48);simp only[AZ] at hb0 hn0;have HA:=zz hA;have HS:=zz hs;have HK:=zz hk;have TP:=zz (hp.call (hA.below hb0) id);unfold JC;generalize hr:(Ht M n.kids==((ndAt M (par id).1).kind==3))=r;have HR:=zz hr;generalize(par id)=pk at TP HR;obtain⟨p,pi⟩:=pk;dsimp only at TP HR;clear hA hs hk hp hr;go_enter Tryz.func90,Tryz.ntmps90;go_wp2_with fail;generalize World.alloc w _=W0 at TP hb0 hn0⊢;have HB0:=zz hb0;have hz0:=hb0.size;have HN0:=zz hn0;clear hb0 hn0;refine TP.out.mono ?_;rintro e w1 ⟨rfl,hpl,hb1⟩;have HB1:=zz (HB0.out.trans (hb1.mono hz0));have HB01:=zz hb1;have TG:=zz ((HA.out.below HB1.out).getN hpl);clear TP hb1;go_wp2_with fail;refine TG.out.mono ?_;rintro e w2 ⟨ka2,kc2,rfl,ho2,hb2⟩;have hb3:=(hb2.alloc hb2.size (.cells (AZ (ndAt M p) ka2 kc2) 48));have hn3:=AX w2 (.cells (AZ (ndAt M p) ka2 kc2) 48);have e5:=AJ (w2.alloc (.cells (AZ (ndAt M p) ka2 kc2) 48)) w.heap.size 5 _ _ (0,0) (((HB01.out.trans (hb3.mono HB01.out.size)).block w.heap.size (by have:=(Ab.1 HN0.out).1;omega)).trans HN0.out);simp only[AZ] at hb3 hn3 e5;simp at e5;clear TG ho2 hb2;have HR2:=zz (show(Ht M n.kids==((ndAt M p).kind==3))=r from HR.out);go_wp2;generalize World.alloc w2 _=W3 at hb3 hn3 e5⊢;have HB3:=zz (HB1.out.trans (hb3.mono HB1.out.size));have HN3:=zz hn3;have HW2:=zz (show w2.heap.size < W3.heap.size from(Ab.1 hn3).1);clear hn3 hb3 e5;generalize w2.heap.size=nb at HN3 HW2⊢
 go_loopw [11,31] (fun p q wr=>∃i:Nat,p= .bool (Ht M (n.kids.take i))∧q= .int .i64 (i:Int)∧i≤n.kids.length∧Below W3.heap.size W3 wr) (fun _ q wr=>n.kids.length-(intOf q).toNat)
 case atStart=>exact⟨0,by simp[Ht],rfl,Nat.zero_le _,AL⟩
 case round=>
  obtain⟨i,rfl,rfl,hi,hb⟩:=hrel;have HB:=zz hb;have hzr:=hb.size;have hb4:=HB3.out.trans (hb.mono HB3.out.size);have HB4:=zz hb4;by_cases hlt:i < n.kids.length
  ·obtain⟨b,o,rfl,_,kck⟩:=(HS.out.below hb4 AA).mapAt hlt
   have hkt:=HK.out _ (List.getElem_mem hlt);have hlast:Ht M (n.kids.take (i+1))=((ndAt M n.kids[i]).kind==10):=by
    rw[List.take_succ_eq_append_getElem hlt];unfold Ht;rw[List.foldl_append];rfl
   generalize n.kids[i]=k at kck hkt hlast;have TG:=zz ((HA.out.below hb4).getN hkt);rw[←WC] at hlast;have HLA:=zz hlast;generalize Ht M (n.kids.take i)=l0;clear hb hb4 hlast;go_wp2_with fail;refine TG.out.mono ?_;rintro e w5 ⟨ka5,kc5,rfl,ho5,hb5⟩;have HB5:=zz ((HB.out.trans (hb5.mono hzr)).alloc (HB.out.trans (hb5.mono hzr)).size (.cells (AZ (ndAt M k) ka5 kc5) 48));clear TG ho5 hb5;go_wp2;go_roundw
   case rel=>exact⟨i+1,by rw[HLA.out];rfl,by go_num,by omega,HB5.out⟩
   case measure=>simp[intOf];omega
  ·obtain rfl:i=n.kids.length:=by omega
   rw[List.take_length];have hlk:(wr.cell? ⟨nb,0,none⟩)=some (.int .u8 ((ndAt M p).kind:Int)):=by
    have:=AJ wr nb 0 _ _ (0,0) ((HB.out.block nb HW2.out).trans HN3.out);simpa using this
   have hr:=HR2.out;rw[←WC] at hr;have HR3:=zz hr;generalize Ht M n.kids=l1 at HR3⊢;clear hb hb4 hr;go_wp2;go_ret;exact⟨Ad HR3.out,HB4.out⟩
def FM(M:Nat→Option Hg.Node)(n:Hg.Node):Prop:=
 n.ref < 18446744073709551616∧n.name.length≤1000000∧
 ((n.kind = 2 ∧ n.name ≠ [] ∧ LD n.name = true ∧ n.type = 0 ∧ n.num = 0 ∧ n.ref = 0) ∨
  ((n.kind=3∨n.kind=4∨n.kind=6)∧n.name≠[]∧LD n.name=true∧(n.type=1∨n.type=2)∧n.num=0∧n.ref=0)∨
  ((n.kind=7∨n.kind=15)∧n.name=[]∧n.type=0∧n.num=0∧n.ref≠0∧((ndAt M n.ref).kind=4∨(ndAt M n.ref).kind=6))∨
  (n.kind=19∧n.name=[]∧n.type=0∧n.num=0∧n.ref≠0∧(ndAt M n.ref).kind=3)∨
  (n.kind=13∧n.name=[]∧n.type=0∧(0≤n.num∧n.num≤9223372036854775807)∧n.ref=0)∨
  (n.kind=14∧n.name=[]∧n.type=0∧(0≤n.num∧n.num≤1)∧n.ref=0)∨
  (n.kind=18∧n.name=[]∧n.type=0∧(1≤n.num∧n.num≤13)∧n.ref=0)∨
  ((n.kind=1∨n.kind=5∨n.kind=8∨n.kind=9∨n.kind=10∨n.kind=11∨n.kind=12∨n.kind=16∨n.kind=17∨n.kind=20)∧n.name=[]∧n.type=0∧n.num=0∧n.ref=0))
theorem UL(ab:Nat)(M:Nat→Option Hg.Node)(hM0:M 0=none)(n:Hg.Node)(ka:Option Addr)(kc:Nat)(w:World)(hA:ArOk w ab M)(hT:Cv w)(hP:FM M n):
 Calls Tryz.prog 89 #[.pointer (some ⟨ab,0,none⟩),ndV n ka kc] w fun e w'=>e= .returned (.bool true)∧Below w.heap.size w w':=by
 have hz0:(ndAt M 0).kind=0:=by unfold ndAt;rw[hM0];rfl
 obtain⟨kd,nm,nu,ty,rf,ks⟩:=n;unfold FM at hP;dsimp only at hP;obtain⟨hrf,hnl,hP⟩:=hP;have TG:=zz (fun W (h:Below w.heap.size w W)=>(hA.below h).getN hrf);have TN:=zz (fun W (h:Below w.heap.size w W)=>RU nm W (by omega) (hT.block (h.block _ hT.lt)));have hb0:Below w.heap.size w (w.alloc (.cells (AZ ⟨kd,nm,nu,ty,rf,ks⟩ ka kc) 48)):=(AL).alloc AA _;have hn0:=AX w (.cells (AZ ⟨kd,nm,nu,ty,rf,ks⟩ ka kc) 48);simp only[AZ] at hb0 hn0;clear hA hT;have hq:rf≠0→((rf:Int) !=0)=true:=fun h=>by simp;omega
 rcases hP with⟨rfl,h1,h2,rfl,rfl,rfl⟩|⟨hkd,h1,h2,hty,rfl,rfl⟩|⟨hkd,rfl,rfl,rfl,hrf0,hk2⟩|⟨rfl,rfl,rfl,rfl,hrf0,hk2⟩|⟨rfl,rfl,rfl,⟨hn1,hn2⟩,rfl⟩|⟨rfl,rfl,rfl,⟨hn1,hn2⟩,rfl⟩|⟨rfl,rfl,rfl,⟨hn1,hn2⟩,rfl⟩|⟨hkd,rfl,rfl,rfl,rfl⟩
 ·have hk2:=hz0
  obtain⟨c0,nm,rfl⟩:=List.exists_cons_of_ne_nil h1;go_enter Tryz.func89,Tryz.ntmps89;go_wp2_with fail;refine(TG.out _ hb0).mono ?_;rintro e w1 ⟨ka1,kc1,rfl,ho1,hb1⟩;have hb2:=hb0.trans (hb1.mono hb0.size);have hb3:=hb2.alloc hb2.size (.cells (AZ (ndAt M 0) ka1 kc1) 48);have hn3:=(hb1.alloc hb1.size (.cells (AZ (ndAt M 0) ka1 kc1) 48)).block w.heap.size (by simp)|>.trans hn0
  have y:=fun i=>AJ (w1.alloc (.cells (AZ (ndAt M 0) ka1 kc1) 48)) w.heap.size i _ _ (0,0) hn3;have y0:=y 0;have y1:=y 1;have y2:=y 2;have y3:=y 3;have y4:=y 4;simp only[AZ] at hb3 hn3 y0 y1 y2 y3 y4;have HB3:=zz hb3;have HN3:=zz hn3;clear ho1 y TG hb0 hn0 hb1 hb2 hb3 hn3;generalize hto:ndAt M 0=tn at hk2 HB3 HN3 y0 y1 y2 y3 y4⊢;clear hto;obtain⟨kd2,nm2,nu2,ty2,rf2,ks2⟩:=tn;dsimp only at hk2 HB3 HN3 y0 y1 y2 y3 y4⊢;subst hk2;simp at y0 y1 y2 y3 y4;go_wp2_with fail;refine(TN.out _ HB3.out).mono ?_;rintro e w5 ⟨rfl,hb5⟩;have z:=fun i=>AJ w5 w.heap.size i _ _ (0,0) ((hb5.block w.heap.size (Ab.1 HN3.out).1).trans HN3.out);have z0:=z 0;have z1:=z 1;have z2:=z 2;have z3:=z 3;have z4:=z 4;simp at z0 z1 z2 z3 z4;have HB5:=zz (HB3.out.trans (hb5.mono HB3.out.size));rw[h2];clear z hb5 TN y0 y1 y2 y3 y4;go_wp2;go_ret;exact⟨rfl,HB5.out⟩
 ·have hk2:=hz0
  obtain⟨c0,nm,rfl⟩:=List.exists_cons_of_ne_nil h1;rcases hkd with rfl|rfl|rfl <;>rcases hty with rfl|rfl
  all_goals
   go_enter Tryz.func89,Tryz.ntmps89;go_wp2_with fail;refine(TG.out _ hb0).mono ?_;rintro e w1 ⟨ka1,kc1,rfl,ho1,hb1⟩;have hb2:=hb0.trans (hb1.mono hb0.size);have hb3:=hb2.alloc hb2.size (.cells (AZ (ndAt M 0) ka1 kc1) 48);have hn3:=(hb1.alloc hb1.size (.cells (AZ (ndAt M 0) ka1 kc1) 48)).block w.heap.size (by simp)|>.trans hn0
   have y:=fun i=>AJ (w1.alloc (.cells (AZ (ndAt M 0) ka1 kc1) 48)) w.heap.size i _ _ (0,0) hn3;have y0:=y 0;have y1:=y 1;have y2:=y 2;have y3:=y 3;have y4:=y 4;simp only[AZ] at hb3 hn3 y0 y1 y2 y3 y4;have HB3:=zz hb3;have HN3:=zz hn3;clear ho1 y TG hb0 hn0 hb1 hb2 hb3 hn3;generalize hto:ndAt M 0=tn at hk2 HB3 HN3 y0 y1 y2 y3 y4⊢;clear hto;obtain⟨kd2,nm2,nu2,ty2,rf2,ks2⟩:=tn;dsimp only at hk2 HB3 HN3 y0 y1 y2 y3 y4⊢;subst hk2;simp at y0 y1 y2 y3 y4;go_wp2_with fail;refine(TN.out _ HB3.out).mono ?_;rintro e w5 ⟨rfl,hb5⟩;have z:=fun i=>AJ w5 w.heap.size i _ _ (0,0) ((hb5.block w.heap.size (Ab.1 HN3.out).1).trans HN3.out);have z0:=z 0;have z1:=z 1;have z2:=z 2;have z3:=z 3;have z4:=z 4;simp at z0 z1 z2 z3 z4;have HB5:=zz (HB3.out.trans (hb5.mono HB3.out.size));rw[h2];clear z hb5 TN y0 y1 y2 y3 y4;go_wp2;go_ret;exact⟨rfl,HB5.out⟩
 ·have hq1:=hq hrf0
  rcases hkd with rfl|rfl <;>rcases hk2 with hk2|hk2
  all_goals
   go_enter Tryz.func89,Tryz.ntmps89;go_wp2_with fail;refine(TG.out _ hb0).mono ?_;rintro e w1 ⟨ka1,kc1,rfl,ho1,hb1⟩;have hb2:=hb0.trans (hb1.mono hb0.size);have hb3:=hb2.alloc hb2.size (.cells (AZ (ndAt M rf) ka1 kc1) 48);have hn3:=(hb1.alloc hb1.size (.cells (AZ (ndAt M rf) ka1 kc1) 48)).block w.heap.size (by simp)|>.trans hn0
   have y:=fun i=>AJ (w1.alloc (.cells (AZ (ndAt M rf) ka1 kc1) 48)) w.heap.size i _ _ (0,0) hn3;have y0:=y 0;have y1:=y 1;have y2:=y 2;have y3:=y 3;have y4:=y 4;simp only[AZ] at hb3 hn3 y0 y1 y2 y3 y4;have HB3:=zz hb3;have HN3:=zz hn3;clear ho1 y TG hb0 hn0 hb1 hb2 hb3 hn3;generalize hto:ndAt M rf=tn at hk2 HB3 HN3 y0 y1 y2 y3 y4⊢;clear hto;obtain⟨kd2,nm2,nu2,ty2,rf2,ks2⟩:=tn;dsimp only at hk2 HB3 HN3 y0 y1 y2 y3 y4⊢;subst hk2;simp at y0 y1 y2 y3 y4;go_wp2;go_ret;exact⟨rfl,HB3.out⟩
 ·have hq1:=hq hrf0
  go_enter Tryz.func89,Tryz.ntmps89;go_wp2_with fail;refine(TG.out _ hb0).mono ?_;rintro e w1 ⟨ka1,kc1,rfl,ho1,hb1⟩;have hb2:=hb0.trans (hb1.mono hb0.size);have hb3:=hb2.alloc hb2.size (.cells (AZ (ndAt M rf) ka1 kc1) 48);have hn3:=(hb1.alloc hb1.size (.cells (AZ (ndAt M rf) ka1 kc1) 48)).block w.heap.size (by simp)|>.trans hn0
  have y:=fun i=>AJ (w1.alloc (.cells (AZ (ndAt M rf) ka1 kc1) 48)) w.heap.size i _ _ (0,0) hn3;have y0:=y 0;have y1:=y 1;have y2:=y 2;have y3:=y 3;have y4:=y 4;simp only[AZ] at hb3 hn3 y0 y1 y2 y3 y4;have HB3:=zz hb3;have HN3:=zz hn3;clear ho1 y TG hb0 hn0 hb1 hb2 hb3 hn3;generalize hto:ndAt M rf=tn at hk2 HB3 HN3 y0 y1 y2 y3 y4⊢;clear hto;obtain⟨kd2,nm2,nu2,ty2,rf2,ks2⟩:=tn;dsimp only at hk2 HB3 HN3 y0 y1 y2 y3 y4⊢;subst hk2;simp at y0 y1 y2 y3 y4;go_wp2;go_ret;exact⟨rfl,HB3.out⟩
 iterate 3
  ·have hk2:=hz0
   go_enter Tryz.func89,Tryz.ntmps89;go_wp2_with fail;refine(TG.out _ hb0).mono ?_;rintro e w1 ⟨ka1,kc1,rfl,ho1,hb1⟩;have hb2:=hb0.trans (hb1.mono hb0.size);have hb3:=hb2.alloc hb2.size (.cells (AZ (ndAt M 0) ka1 kc1) 48);have hn3:=(hb1.alloc hb1.size (.cells (AZ (ndAt M 0) ka1 kc1) 48)).block w.heap.size (by simp)|>.trans hn0
   have y:=fun i=>AJ (w1.alloc (.cells (AZ (ndAt M 0) ka1 kc1) 48)) w.heap.size i _ _ (0,0) hn3;have y0:=y 0;have y1:=y 1;have y2:=y 2;have y3:=y 3;have y4:=y 4;simp only[AZ] at hb3 hn3 y0 y1 y2 y3 y4;have HB3:=zz hb3;have HN3:=zz hn3;clear ho1 y TG hb0 hn0 hb1 hb2 hb3 hn3;generalize hto:ndAt M 0=tn at hk2 HB3 HN3 y0 y1 y2 y3 y4⊢;clear hto;obtain⟨kd2,nm2,nu2,ty2,rf2,ks2⟩:=tn;dsimp only at hk2 HB3 HN3 y0 y1 y2 y3 y4⊢;subst hk2;simp at y0 y1 y2 y3 y4;go_wp2;go_ret;exact⟨rfl,HB3.out⟩
 ·have hk2:=hz0
  rcases hkd with rfl|rfl|rfl|rfl|rfl|rfl|rfl|rfl|rfl|rfl
  all_goals
   go_enter Tryz.func89,Tryz.ntmps89;go_wp2_with fail;refine(TG.out _ hb0).mono ?_;rintro e w1 ⟨ka1,kc1,rfl,ho1,hb1⟩;have hb2:=hb0.trans (hb1.mono hb0.size);have hb3:=hb2.alloc hb2.size (.cells (AZ (ndAt M 0) ka1 kc1) 48);have hn3:=(hb1.alloc hb1.size (.cells (AZ (ndAt M 0) ka1 kc1) 48)).block w.heap.size (by simp)|>.trans hn0
   have y:=fun i=>AJ (w1.alloc (.cells (AZ (ndAt M 0) ka1 kc1) 48)) w.heap.size i _ _ (0,0) hn3;have y0:=y 0;have y1:=y 1;have y2:=y 2;have y3:=y 3;have y4:=y 4;simp only[AZ] at hb3 hn3 y0 y1 y2 y3 y4;have HB3:=zz hb3;have HN3:=zz hn3;clear ho1 y TG hb0 hn0 hb1 hb2 hb3 hn3;generalize hto:ndAt M 0=tn at hk2 HB3 HN3 y0 y1 y2 y3 y4⊢;clear hto;obtain⟨kd2,nm2,nu2,ty2,rf2,ks2⟩:=tn;dsimp only at hk2 HB3 HN3 y0 y1 y2 y3 y4⊢;subst hk2;simp at y0 y1 y2 y3 y4;go_wp2;go_ret;exact⟨rfl,HB3.out⟩
end Go.Proofs.YtfgnfpdfohjopaaGreatDoor
