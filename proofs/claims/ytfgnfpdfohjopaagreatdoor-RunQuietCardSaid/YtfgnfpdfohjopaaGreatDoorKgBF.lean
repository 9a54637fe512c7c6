/-
  A part of the proof.
-/
import Derived.Test.YtfgnfpdfohjopaaGreatDoorKgBE
set_option linter.all false
set_option maxHeartbeats 0
set_option maxRecDepth 100000
namespace Go.Proofs.YtfgnfpdfohjopaaGreatDoor.Rn
open Go.RowKit
open Hg (Fz FV FO FT IT KB Ak BM isB Out TU JJ fv0)
section
variable {C:QC} {X:Nat→Prop} {ab mb nb fb n:Nat} {w0 w w':World} {s s':Fz} {tv tv':Value} {R:FV}
theorem Mach.frame(h:Mach C X ab mb nb w0 w s tv):St C X ab mb nb w.heap.size w0 (w.alloc (.map #[] 0)) s tv fv0:=by
 refine⟨h.below ((AL).alloc AA _),⟨0,FrAt.made w,Nat.zero_le _⟩,fun e=> ?_,h.bel.size⟩;obtain⟨es,ck,h9⟩:=h.nobj;have:=(Ab.1 h9).1;omega
theorem Sl.intAt{w:World}{B n c:Nat}{a:Option Addr}{l:List Int}(h:Sl w B (.slice a n c) l.length (l.map i64V)){k:Nat}(hk:k < l.length):
 ∃b o,a=some ⟨b,o,none⟩∧b < B∧w.cell? ⟨b,o+k,none⟩=some (i64V l[k]):=by
 obtain⟨a',c',hv,hc⟩:=h;injection hv with h1 h2 h3;subst h1;obtain⟨b,o,ha,hb,hx⟩:=hc (by simp;omega);have:=hx k (by simpa using hk);exact⟨b,o,ha,hb,by simpa using this⟩
theorem Keep.args{av:Value}{xs:List Int}(h:Sl w w.heap.size av xs.length (xs.map i64V))(hf:∀q,av.ownBlock=some q→¬MD mb nb mb tv q):Keep mb w tv av xs.length (xs.map i64V):=
 ⟨h,fun _ q hq=>⟨fun e=>hf q hq (.inl e),fun e=>hf q hq (.inr (.inr (.inr e)))⟩⟩
theorem U9{ks:List Nat}{xs:List Int}{i:Nat}{V:FV}(hk:i < ks.length)(hx:i < xs.length):JJ (ks.drop i) (xs.drop i) V=JJ (ks.drop (i+1)) (xs.drop (i+1)) (V.set ks[i] xs[i]):=by
 rw[Aw hk,Aw hx];rfl
def ARel(C:QC)(X:Nat→Prop)(ab mb nb fb:Nat)(w0:World)(tv:Value)(kids:List Nat)(args:List Int)(s1:Fz)(w3:World)(p:Value)(wr:World):Prop:=
 ∃(i:Nat) (V:FV) (k:Nat),p= .int .i64 (i:Int)∧i≤args.length∧JJ (kids.drop i) (args.drop i) V=JJ kids args fv0∧St C X ab mb nb fb w0 wr s1 tv V∧FrAt wr fb k V∧k≤i∧Fr (fun q=>q=fb) w3 wr
theorem Wn(hQ:QOk C)(d:Nat)(hB:Fp C ab mb nb w0 d):JN C ab mb nb w0 (d+1):=by
 intro X f args av s s' o tv w hin hrun hrd hM hav hfar;have TB:=NA hM;unfold KW at TB;have hcs:=TU hrun;have hoff:((C.burn s).1=false∧o=none∧s'=(C.burn s).2)∨¬(s.e≠0)∧¬C.fuel≤s.used:=by
  rcases hcs with⟨h1,h2,h3⟩|⟨h1,h2,h3,h4⟩|⟨h1,h2,-⟩
  ·rw[C.Qj h1];exact .inl ⟨rfl,h2,h3⟩
  ·rw[C.M9 h1 h2];exact .inl ⟨rfl,h3,h4⟩
  ·exact .inr ⟨fun h=>h h1,h2⟩
 rcases hoff with⟨g1,rfl,g3⟩|⟨g1,g2⟩
 ·rw[g1,←g3] at TB
  have TB:=zz TB;clear hcs g1 g3 hrun hrd hB hQ hin hav hfar;go_enter Tryz.func21,Tryz.ntmps21;go_wp2_with fail;refine TB.out.mono ?_;rintro e w1 ⟨rfl,hm1,hf1⟩;have HM1:=zz hm1;have HS1:=zz (show Ay mb nb mb w tv w1 tv from Ay.ofM hf1);clear hm1 hf1 hM TB;go_wp2;go_ret;exact⟨0,tv,rfl,fun a ha=>by (cases ha),HM1.out,HS1.out⟩
 ·rcases hcs with⟨h1,-⟩|⟨-,h2,-⟩|⟨he,hf,hn,o1,k1,k2⟩
  ·exact absurd h1 g1
  ·exact absurd h2 g2
  rw[C.O0 he hf] at TB;have TB:=zz TB;obtain⟨aa,cc,hv,-⟩:=id hav;subst hv;have hlen:=hQ.len f hin;have hkin:=hQ.kid f hin;have TN:=zz (fun(W:World) (hm:Mach C X ab mb nb w0 W {s with used:=s.used+1} tv)=>GQ hm f (hQ.lt f hin) hin);unfold Eu at TN;have hidk:∀k∈(C.nd f).kids,k < Ah:=fun k hk=>hQ.lt k (hkin k hk);unfold Hg.Node.k at k1;generalize C.nd f=nd at hn k1 TN hlen hkin hidk;have hll:args.length < nd.kids.length:=by omega
  have hk0:nd.kids.getD args.length 0=nd.kids[args.length]:=by simp[List.getD,hll]
  rw[hk0] at k1;generalize hkb:nd.kids[args.length]=kb at k1;have HKB:=zz (show∃h:args.length < nd.kids.length,nd.kids[args.length]=kb from⟨hll,hkb⟩);have HN:=zz hn;have HB1:=zz k1;have HO:=zz k2;have HBC:=zz hB;have HKIN:=zz hkin;have HIDK:=zz hidk;have HLEN:=zz hlen;have HRD:=zz hrd;have HAV:=zz (Keep.args hav hfar);have HM:=zz hM;have hw:wrap64 ((nd.kids.length:Int)-1)=(args.length:Int):=by unfold wrap64;omega
  have hmm:= @run_makeMap Tryz.prog;clear hn k1 k2 hB hkin hidk hlen hrd hav hfar hM he hf g1 g2 hQ hin hrun hk0 hkb hll;go_enter Tryz.func21,Tryz.ntmps21;go_wp2_with fail;refine TB.out.mono ?_;rintro e w1 ⟨rfl,hm1,hf1⟩;have hS2:=hm1.frame;have hb2:Below w1.heap.size w1 (w1.alloc (.map #[] 0)):=(AL).alloc AA _;have hM2:Ay mb nb nb w tv (w1.alloc (.map #[] 0)) tv:=(Ay.ofM hf1).trans (Ay.of_below hb2);have HK2:=zz (HAV.out.step hM2 HM.out.nobj HM.out.nobj);have HM2:=zz hM2;have HF0:=zz (FrAt.made w1);have HSZ:=zz hf1.size;clear TB hf1 hM2 hb2;go_upto_region 4 with fail;generalize hfb:w1.heap.size=fb at hS2 HF0 HSZ⊢;generalize World.alloc w1 _=w2 at hS2 HK2 HM2 HF0⊢;have HS2:=zz hS2;have T3:=zz (TN.out w2 hS2.m);clear hS2 hm1 TN;go_wp2_with fail;refine T3.out.mono ?_;rintro e w3 ⟨ka,kc,rfl,hm3,hf3,hk3⟩;have hfld:=SK nd ka kc w3;have HS3:=zz (HS2.out.node hm3 hf3);have HF3:=zz (HF0.out.fr hf3 HS2.out.ne);have HM3:=zz (HM2.out.trans (Ay.ofN hf3));have HA3:=zz (HK2.out.step (Ay.ofN (fb:=nb) hf3) HS2.out.nobj HS2.out.nobj);have HK3:=zz hk3;clear hm3 hf3 hk3 T3;go_wp2
  go_loopw [21] (fun p wr=>ARel C X ab mb nb fb w0 tv nd.kids args {s with used:=s.used+1} w3 p wr) (fun p wr=>args.length-(intOf p).toNat)
  case atStart=>exact⟨0,fv0,0,rfl,Nat.zero_le _,rfl,HS3.out,HF3.out,AA,Fr.refl _ _⟩
  case round=>
   obtain⟨i,V,k,rfl,hi,hbd,hst,hfk,hki,hfr⟩:=hrel;have hs:Ay mb nb fb w3 tv wr tv:=⟨hfr.imp (fun q _ e=> .inr (.inr (.inl e))),fun q e=> .inl e⟩;have hka:=HK3.out.step hs HS3.out.nobj HS3.out.fobj;by_cases hlt:i < args.length
   ·obtain⟨b,ob,rfl,hbl,e1⟩:=Sl.intAt (HA3.out.step hs HS3.out.nobj HS3.out.fobj).1 hlt
    have hki2:i < nd.kids.length:=by have:=HN.out;omega
    obtain⟨b2,o2,rfl,hbl2,e2⟩:=hka.1.idAt (l:=nd.kids) (k:=i) hki2;have hbs:=U9 (V:=V) hki2 hlt;have hlk:=HIDK.out _ (List.getElem_mem hki2);generalize nd.kids[i]=kd at e2 hbs hlk;generalize args[i]=xa at e1 hbs;have HBS:=zz (hbs.symm.trans hbd);obtain⟨w4,hrun4,hfr4,hg4⟩:=hfk.put xa hlk (by have:=HLEN.out;omega);obtain⟨w4',hrun4',hS4,-⟩:=hst.set kd xa hlk ⟨k,hfk,by have:=HLEN.out;have:=HN.out;omega⟩;obtain rfl:w4=w4':=by rw[hrun4] at hrun4';injection hrun4'
    have HS4:=zz hS4;have HF4:=zz hfr4;have HR4:=zz (hfr.Dw (Fr.Y1 hg4 (D:=fun q=>q=fb) (fun q e=>by injection e with e;exact e.symm)) (fun q _ e=>e));have hil:i < 100000:=by have:=HLEN.out;have:=HN.out;omega
    clear hS4 hfr4 hg4 hrun4' hbs hbd hst hfk hfr hs hka;go_wp2;go_roundw
    case measure=>simp[intOf];omega
    case rel=>exact⟨i+1,_,k+1,by go_num,by omega,HBS.out,HS4.out,HF4.out,by omega,HR4.out⟩
   ·obtain rfl:i=args.length:=by omega
    have hV:V=JJ nd.kids args fv0:=by rw[←hbd,List.drop_length];cases nd.kids.drop args.length <;>rfl
    have hb1:=HB1.out;rw[←hV] at hb1;obtain⟨hh,hke⟩:=HKB.out;obtain⟨b2,o2,rfl,hbl2,e2⟩:=hka.1.idAt (l:=nd.kids) (k:=args.length) hh;have hmem:=HKIN.out _ (List.getElem_mem hh);rw[hke] at e2 hmem;have T4:=zz (HBC.out X fb kb V _ s' o1 tv wr hmem hb1 HRD.out hst);have HSS:=zz hs;have hib:((args.length:Nat):Int) < (nd.kids.length:Int):=by omega
    clear hV hb1 hke hbd hst hfk hfr hs hka hmem;go_wp2_with fail;refine T4.out.mono ?_;rintro e w5 ⟨y,tv5,R5,rfl,hy5,hS5,hs5⟩;have hall:=HSS.out.trans hs5;have HR:=zz (show Ay mb nb mb w tv w5 tv5 from⟨(HM3.out.1.imp (fun q _ e=>MD.wid e)).Dw hall.1 (fun q hq e=>e.elim .inl fun e=>e.elim (fun e=> .inr (.inl e)) fun e=>e.elim (fun e=>by have:=HSZ.out;omega) fun e=> .inr (.inr (.inr e))),fun q e=>(hall.2 q e).elim .inl fun e=> .inr (AC HM3.out.1.size e)⟩);have HM5:=zz hS5.m;have HY:=zz hy5;clear hS5 hs5 T4 hall hy5;go_wp2;go_ret;exact⟨y,tv5,rfl,fun a ha=>by (obtain⟨p,e1,e2⟩:=HO.out a ha;rw[e2];exact(HY.out p e1).1),HM5.out,HR.out⟩
end
theorem Xl:(Tryz.prog.info? 2).map (fun i=>(i.zero,i.size,i.bytes))=some (some (.int .i64 0),1,8):=by kernel_rfl
def Ints(w:World)(v:Value)(l:List Int):Prop:=Sl w w.heap.size v l.length (l.map i64V)∧∃a c,v= .slice a l.length c∧l.length≤c
theorem Ints.below{w w':World}{v:Value}{l:List Int}(h:Ints w v l)(hb:Below w.heap.size w w'):Ints w' v l:=⟨(h.1.below hb AA).more hb.size,h.2⟩
theorem Ints.drewN{w:World}{v:Value}{l:List Int}(h:Ints w v l)(n:Nat):Ints (w.drewN n) v l:=h
theorem Ints.Aj{w:World}{base:Nat}{v:Value}{l:List Int}(h:w.ownsRow base 2 1 v l.length (l.map i64V)):Ints w v l:=⟨Sl.Aj h,by
 rcases h.2 with⟨rfl,hx⟩|⟨g,cap,cur,rfl,_,_,hnc,_⟩
 ·have:l=[]:=by simpa using hx
  subst this;exact⟨none,0,rfl,AA⟩
 ·exact⟨_,cap,rfl,hnc⟩⟩
theorem Ints.take{w:World}{a:Option Addr}{n c:Nat}{l:List Int}(h:Ints w (.slice a n c) l){k:Nat}(hk:k≤l.length):Ints w (.slice a k c) (l.take k):=by
 obtain⟨⟨a',c',hv,hc⟩,a2,c2,hv2,hlc⟩:=h;injection hv with e1 e2 e3;injection hv2 with e4 e5 e6;subst e1;subst e3;subst e6;have hkl:(l.take k).length=k:=by rw[List.length_take];omega
 refine⟨⟨a,c,by rw[hkl],fun hn=> ?_⟩,a,c,by rw[hkl],by rw[hkl];omega⟩;rw[List.length_map,hkl] at hn;obtain⟨b,o,ha,hb,hx⟩:=hc (by rw[List.length_map];omega);refine⟨b,o,ha,hb,fun j hj=> ?_⟩;rw[List.length_map,hkl] at hj;rw[hx j (by rw[List.length_map];omega)];simp
theorem MG(W:World)(a:Option Addr)(n c k:Nat)(hk:k≤c):(Instr.slice 22 (.slice a n c) none (some (.int .i64 (k:Int))) none).run Tryz.prog W= .ok (.slice a k c) W:=by
 have hz:∀w,(Go.sizeOf 2).run Tryz.prog w= .ok 1 w:=fun w=>by kernel_rfl
 have he:Tryz.prog.elem 22=2:=by kernel_rfl
 rw[run_slice_h W 22 a n c Tryz.underlying22 .i64 (k:Int) (by omega) (by omega)];cases a <;>simp[Result.andThen,sliced,Addr.add,hz,he]
def Yv(l:List Int)(w:World)(e:Ending)(w':World):Prop:=∃v,e= .returned v∧Ints w' v (l.take 20)∧Below w.heap.size w w'
theorem WH(l:List Int):∀u∈l.map i64V,u.oneCell'=true:=fun u hu=>by obtain⟨x,_,rfl⟩:=List.mem_map.1 hu;rfl
theorem Uh(v:Value)(l:List Int)(w:World)(h:Ints w v l)(hl:l.length≤1000000000000000):Calls Tryz.prog 8 #[v] w (Yv l w):=by
 obtain⟨j0,hj,hj0,hj1,hj2⟩:=info_parts Xl;obtain⟨a,c,rfl,hlc⟩:=h.2;rcases Nat.lt_or_ge 20 l.length with h20|h20
 case' inl=>
  have HT:=zz (show Ints w (.slice a 20 c) (l.take 20)∧(l.take 20).length=20 from⟨h.take (by omega),by rw[List.length_take];omega⟩);have hsl:=fun W=>MG W a l.length c 20 (by omega);have hq:(20:Int) < (l.length:Int):=by omega
  have hmn:min (l.length:Int) 20=20:=by omega
 case' inr=>
  have HT:=zz (show Ints w (.slice a l.length c) (l.take 20)∧(l.take 20).length=l.length from by rw[List.take_of_length_le h20];exact⟨h,rfl⟩);have hsl:=fun W=>MG W a l.length c l.length (by omega);have hq:¬(20:Int) < (l.length:Int):=by omega
  have hmn:min (l.length:Int) 20=(l.length:Int):=by omega
 all_goals
  try simp only[Int.cast_ofNat_Int] at hsl
  clear h hlc;go_enter Tryz.func8,Tryz.ntmps8
  go_wp2_with (at_builtin;refine Bd _ rfl (.tmp 3) (.tmp 8) _ rfl w.heap.size 2 j0 _ 8 Tryz.underlying22 hj hj0 hj1 hj2 rfl _ _ _ rfl (Da _ _ _ ?_) w.heap.size _ _ _ rfl (HT.out.1.1.alloc ?_ _) ?_ (WH _) ?_ ?_ ?_ ?_)
  all_goals try(first|(simp;done)|(have:=HT.out.2;first|omega|(unfold maxLen;omega)))
  intro v3 W3 own3 g3 at3;have own3:W3.ownsRow w.heap.size 2 1 v3 (l.take 20).length ((l.take 20).map i64V):=by first|(rw[HT.out.2];simpa using own3)|simpa using own3
  have hb3:Below w.heap.size w W3:=((Below.refl w.heap.size w).alloc AA _).grown g3 (by simp) (fun k hk=>by simp[Value.ownBlock] at hk;omega);have HI:=zz (Ints.Aj own3);obtain⟨a3,c3,rfl,-⟩:=HI.out.2;clear own3 at3 g3;go_wp2;go_ret;exact⟨_,rfl,HI.out,hb3⟩
theorem PZ(f:Nat)(hf:f=23∨f=10)(p q:Value)(xs:List Int)(w:World)(hl:xs.length≤1000000)(hp:Ints w p xs)(hq:Ints w q xs):
 Calls Tryz.prog f #[p,q] w fun e w'=>e= .returned (.bool true)∧∃n,w'=w.drewN n:=by
 obtain⟨a1,c1,rfl,-⟩:=hp.2;obtain⟨a2,c2,rfl,-⟩:=hq.2;have HP:=zz hp;have HQ:=zz hq;clear hp hq;rcases hf with rfl|rfl
 case' inl=>go_enter Tryz.func23,Tryz.ntmps23
 case' inr=>go_enter Tryz.func10,Tryz.ntmps10
 all_goals
  go_wp2
  go_loopw [5,13] (fun _ i wr=>∃k n:Nat,k≤xs.length∧i= .int .i64 (k:Int)∧wr=w.drewN n) (fun _ i _=>xs.length-(intOf i).toNat)
  case atStart=>exact⟨0,0,by omega,rfl,by first|rfl|simp[World.drewN]⟩
  case round=>
   obtain⟨k,n,hk,rfl,rfl⟩:=hrel;by_cases h0:k < xs.length
   ·obtain⟨b1,o1,rfl,hb1,e1⟩:=Sl.intAt HP.out.1 h0
    obtain⟨b2,o2,rfl,hb2,e2⟩:=Sl.intAt HQ.out.1 h0;generalize xs[k]=x at e1 e2;go_upto_region 6 with fail
    go_quiet (fail)
    go_wp2;go_roundw
    case rel=>exact⟨k+1,_,by omega,by go_num,by first|rfl|simp⟩
    case measure=>simp[intOf];omega
   ·obtain rfl:k=xs.length:=by omega
    go_wp2;go_ret;exact⟨rfl,_,rfl⟩
variable {C:QC} {ab mb nb:Nat} {w0:World}
theorem SA:LX C ab mb nb w0 0:=fun X fb id V s s' o tv w _ he h _ _=>(Hg.Out.bot h he).elim
theorem Qk(hQ:QOk C):Fp C ab mb nb w0 0:=fun X fb id V s s' o tv w hin h hrd hS=>by
 have he:s.e≠0:=fun e=>Hg.Out.bot h e;exact LU hQ 0 SA X fb id V s s' o tv w hin (.inr ⟨he,h.ended he⟩) hrd hS
theorem Xw(hQ:QOk C):JN C ab mb nb w0 0:=fun X f args av s s' o tv w hin h hrd hM hav hf=>by
 have he:s.e≠0:=fun e=>Hg.Out.bot h e;exact Wn hQ 0 (Qk hQ) X f args av s s' o tv w hin (.inr ⟨he,h.ended he⟩) hrd hM hav hf
theorem Yp(hQ:QOk C)(d:Nat):FB C ab mb nb w0 d∧JN C ab mb nb w0 d∧LX C ab mb nb w0 d∧Fp C ab mb nb w0 d:=by
 induction d using Nat.strongRecOn with
 |_ d ih=>
   cases d with
   |zero=>exact⟨Xv hQ,Xw hQ,SA,Qk hQ⟩
   |succ d=>
     obtain⟨h1,h2,h3,h4⟩:=ih d (Nat.lt_succ_self d);exact⟨Ri hQ d h1 h2,Wn hQ d h4,YE hQ d (fun k hk=>(ih k hk).1) (fun k hk=>(ih k hk).2.2.2),LU hQ d h3⟩
end Go.Proofs.YtfgnfpdfohjopaaGreatDoor.Rn
namespace Hg
def DK(M:Nat→Option Node)(id:Nat):Str:=(ndAt M id).name
def Bt(M:Nat→Option Node)(id:Nat):Nat:=
 if (ndAt M id).kind=13∨(ndAt M id).kind=17∨(ndAt M id).kind=20 then 1
 else if (ndAt M id).kind=14∨(ndAt M id).kind=16 then 2
 else if (ndAt M id).kind=18 then(if (ndAt M id).num≤5 then 1 else 2)
 else if (ndAt M id).kind=15∨(ndAt M id).kind=19 then(ndAt M (ndAt M id).ref).type
 else 0
def CE(xs:List (Nat×Node)):List Str:=(xs.filter fun x=>x.2.kind==4||x.2.kind==6).map fun x=>x.2.name
def Hu(M:Nat→Option Node)(mod fn:Str)(m:Nat)(l:List Nat):Option Nat:=l.find? fun f=>DK M m==mod && DK M f==fn
def Fw(M:Nat→Option Node)(mod fn:Str):List Nat→Option Nat
 |[]=>none
 |m::l=>match Hu M mod fn m (Br M m) with|some f=>some f|none=>Fw M mod fn l
def IQ(M:Nat→Option Node)(mod fn:Str):Nat:=(Fw M mod fn (Cm M)).getD 0
def DL(M:Nat→Option Node):Nat:=match M (IQ M Cg Cg) with
 |none=>0
 |some n=>if n.type=1∧(CO M (IQ M Cg Cg) 4).length=0 then IQ M Cg Cg else 0
theorem N7{M:Nat→Option Node}{mod fn:Str}{m f:Nat}{l:List Nat}(h:Hu M mod fn m l=some f):f∈l:=List.mem_of_find?_eq_some h
theorem QT{M:Nat→Option Node}(hk:KB M){mod fn:Str}{f:Nat}:∀{l:List Nat},Fw M mod fn l=some f→f < 18446744073709551616
 |[],h=>by cases h
 |m::l,h=>by
   rw[Fw] at h;cases hf:Hu M mod fn m (Br M m) with
   |some g=>
     rw[hf] at h;have h:some g=some f:=h;injection h with h;subst h;exact hk.kids m 3 _ (N7 hf)
   |none=>rw[hf] at h;exact QT hk h
theorem WU{M:Nat→Option Node}(hk:KB M)(mod fn:Str):IQ M mod fn < 18446744073709551616:=by
 unfold IQ;cases h:Fw M mod fn (Cm M) with
 |none=>decide
 |some f=>exact QT hk h
def DC(M:Nat→Option Node)(n:Node)(x:Nat):Bool:=(decide (n.kind=5) && decide ((ndAt M x).kind=6))||(decide (n.kind=3) && decide ((ndAt M x).kind=4))
def Jq(M:Nat→Option Node)(n:Node)(k:Nat):List Nat:=(n.kids.take k).filter (DC M n)
def El(M:Nat→Option Node)(par:Nat→Nat×Int):Nat→Nat→List Nat→List Nat→Option (List Nat)
 |0,_,_,_=>none
 |f+1,id,seen,out=>if id∈seen then some out else match M (par id).1 with
   |none=>some out
   |some n=>El M par f (par id).1 (id::seen) (Jq M n (par id).2.toNat++out)
end Hg
namespace Go.Proofs.YtfgnfpdfohjopaaGreatDoor
open Go.RowKit Go.Sort Go.Lib
open Hg (GT gl wk isK ndAt CO Cm Br KB DK Bt)
theorem Km(ab:Nat)(M:Nat→Option Hg.Node)(id:Nat)(w:World)(hA:ArOk w ab M)(hid:id < Ah):
 Calls Tryz.prog 102 #[.pointer (some ⟨ab,0,none⟩),idV id] w fun e w'=>e= .returned (strV (DK M id))∧Below w.heap.size w w':=by
 have TG:=zz (hA.getN hid);unfold DK;clear hA;go_enter Tryz.func102,Tryz.ntmps102;go_wp2_with fail;refine TG.out.mono ?_;rintro e w1 ⟨ka,kc,rfl,ho1,hb1⟩;have HB:=zz hb1;clear TG ho1 hb1;go_wp2;go_ret;exact⟨rfl,HB.out.alloc HB.out.size _⟩
theorem LF(ab:Nat)(M:Nat→Option Hg.Node)(w:World)(hA:ArOk w ab M):
 Calls Tryz.prog 94 #[.pointer (some ⟨ab,0,none⟩)] w (O4 w (Cm M)):=by
 have T1:=zz (H9 ab w);have T2:=zz (J2 ab M 1 2 w hA (by decide));clear hA;go_enter Tryz.func94,Tryz.ntmps94;go_wp2_with fail;refine T1.out.mono ?_;rintro e w1 ⟨rfl,rfl⟩;clear T1;go_wp2_with fail;refine T2.out.mono ?_;rintro e w2 ⟨⟨v,rfl,ho⟩,hb⟩;have HO:=zz ho;have HB:=zz hb;clear T2 ho hb;go_wp2;go_ret;exact⟨⟨v,rfl,HO.out⟩,HB.out⟩
theorem Nz(ab:Nat)(M:Nat→Option Hg.Node)(m:Nat)(w:World)(hA:ArOk w ab M)(hm:m < Ah):
 Calls Tryz.prog 95 #[.pointer (some ⟨ab,0,none⟩),idV m] w (O4 w (Br M m)):=by
 have T2:=zz (J2 ab M m 3 w hA hm);clear hA;go_enter Tryz.func95,Tryz.ntmps95;go_wp2_with fail;refine T2.out.mono ?_;rintro e w2 ⟨⟨v,rfl,ho⟩,hb⟩;have HO:=zz ho;have HB:=zz hb;clear T2 ho hb;go_wp2;go_ret;exact⟨⟨v,rfl,HO.out⟩,HB.out⟩
theorem NR:(Tryz.prog.info? 9).map (fun i=>(i.zero,i.size,i.bytes))=some (some (.string ⟨#[]⟩),1,16):=by kernel_rfl
def Wy(w:World)(l:List (List UInt8))(e:Ending)(w':World):Prop:=(∃v,e= .returned v∧w'.ownsRow w.heap.size 9 1 v l.length (l.map strV))∧Below w.heap.size w w'
theorem Ni(ab:Nat)(M:Nat→Option Hg.Node)(v:Value)(ids:List Nat)(w:World)(hA:ArOk w ab M)(hs:Sl w w.heap.size v ids.length (ids.map idV))(hi:∀x∈ids,x < Ah)(hl:ids.length≤1000000):
 Calls Tryz.prog 93 #[.pointer (some ⟨ab,0,none⟩),v] w (Wy w (ids.map (DK M))):=by
 obtain⟨i0,hi0,hz0,hz1,hz2⟩:=info_parts NR;have HA:=zz hA;have HS:=zz hs;have HI:=zz hi;obtain⟨a,c,rfl⟩:=hs.form;clear hA hs hi;go_enter Tryz.func93,Tryz.ntmps93;go_wp2
 go_loopw [5,10] (fun p q wr=>∃(k:Nat) (u:Value),p=u∧q= .int .i64 (k:Int)∧k≤ids.length∧wr.ownsRow w.heap.size 9 1 u k ((ids.take k).map (fun x=>strV (DK M x)))∧Below w.heap.size w wr) (fun _ q wr=>ids.length-(intOf q).toNat)
 case atStart=>exact⟨0,_,rfl,rfl,Nat.zero_le _,⟨rfl,.inl ⟨rfl,rfl⟩⟩,AL⟩
 case round=>
  obtain⟨k,u,hu,rfl,hk,ho,hb⟩:=hrel;have hu:=hu.symm;subst hu;have HB:=zz hb;have HO:=zz ho;by_cases hlt:k < ids.length
  ·obtain⟨b,o,rfl,_,kc⟩:=(HS.out.below HB.out AA).mapAt hlt
   have TN:=zz (Km ab M ids[k] wr (HA.out.below HB.out) (HI.out _ (List.getElem_mem hlt)));have htk:ids.take (k+1)=ids.take k++[ids[k]]:=List.take_succ_eq_append_getElem hlt;generalize ids[k]=x at kc TN htk;have HTK:=zz htk;clear hb ho htk;go_wp2_with fail;refine TN.out.mono ?_;rintro e w1 ⟨rfl,hb1⟩;have HB1:=zz (HB.out.trans (hb1.mono HB.out.size));have HO1:=zz (Am HO.out (Fr.of_below (D:=fun _=>False) hb1) (fun _ _ e=>e));have hsz:=HB1.out.size;clear hb1 TN
   go_wp2_with (at_builtin;refine wpList_append_own_at _ rfl (.tmp 14) (.tmp 18) _ rfl w.heap.size 9 i0 _ 1 16 Tryz.underlying87 hi0 hz0 hz1 hz2 rfl (by decide) _ k ((ids.take k).map (fun x=>strV (DK M x))) rfl (HO1.out.alloc _) ⟨w1.heap.size,0,none⟩ 1 1 [strV (DK M x)] rfl rfl (Aq _ _ _) ?_ ?_ ?_ ?_ ?_)
   all_goals first
    |intro v3 W3 own3 g3 _ at3
    |(unfold maxLen;omega)
    |omega
    |(simp;omega)
    |(intro u hu;simp only[List.mem_singleton] at hu;subst hu;rfl)
   have HO3:=zz (show W3.ownsRow w.heap.size 9 1 v3 (k+1) ((ids.take (k+1)).map (fun x=>strV (DK M x))) from by rw[HTK.out,List.map_append,List.map_take];exact own3);have HB3:=zz ((HB1.out.alloc HB1.out.size _).grown g3 (by simp;omega) (fun q hq=>(HO1.out.lt q hq).1));clear own3 g3 at3;go_wp2;go_roundw
   case rel=>exact⟨k+1,v3,rfl,by go_num,by omega,HO3.out,HB3.out⟩
   case measure=>simp[intOf];omega
  ·obtain rfl:k=ids.length:=by omega
   rw[List.take_length] at ho;have HO2:=zz ho;clear hb ho;go_wp2;go_ret;refine⟨⟨_,rfl, ?_⟩,HB.out⟩;rw[List.length_map,List.map_map];exact HO2.out
theorem V6(w:World):Calls Tryz.prog 169 #[.int .u64 0] w fun e w'=>e= .returned (.int .i64 0)∧w'=w:=by
 have T1:Calls Tryz.prog 198 #[.int .u64 0] w fun e w'=>e= .returned (.int .i64 0)∧w'=w:=by
  go_enter Tryz.func198,Tryz.ntmps198;go_wp2;go_ret;exact⟨by kernel_rfl,rfl⟩
 have T1:=zz T1;go_enter Tryz.func169,Tryz.ntmps169;go_wp2_with fail;refine T1.out.mono ?_;rintro e w1 ⟨rfl,rfl⟩;go_wp2;go_ret;exact⟨rfl,rfl⟩
theorem UE(a:Option Addr)(c:Nat)(w:World):Calls Tryz.prog 139 #[.slice a 0 c] w fun e w'=>e= .returned (.tuple #[])∧w'=w:=by
 have T1:Calls Tryz.prog 188 #[.slice a 0 c,.int .i64 0,.int .i64 0] w fun e w'=>e= .returned (.tuple #[])∧w'=w:=by
  go_enter Tryz.func188,Tryz.ntmps188;go_wp2
  go_loopw [6] (fun p wr=>p= .int .i64 1∧wr=w) (fun p wr=>0)
  case atStart=>exact⟨rfl,rfl⟩
  case round=>
   obtain⟨rfl,rfl⟩:=hrel;go_wp2;go_end0;exact⟨rfl,rfl⟩
 have T1:=zz T1;have T2:Calls Tryz.prog 168 #[.slice a 0 c,.int .i64 0,.int .i64 0,.int .i64 0] w fun e w'=>e= .returned (.tuple #[])∧w'=w:=by
  go_enter Tryz.func168,Tryz.ntmps168;go_wp2;refine wp_loop_once ?_;go_wp2_with fail;refine T1.out.mono ?_;rintro e w1 ⟨rfl,rfl⟩;go_wp2;refine bodyPost_ret (results_none rfl _ _ _) rfl ?_;exact⟨rfl,rfl⟩
 have T2:=zz T2;have T3:=zz (V6 w);go_enter Tryz.func139,Tryz.ntmps139;go_wp2_with fail;refine T3.out.mono ?_;rintro e w1 ⟨rfl,rfl⟩;go_wp2_with fail;refine T2.out.mono ?_;rintro e w1 ⟨rfl,rfl⟩;go_wp2;go_end0;exact⟨rfl,rfl⟩
theorem Ya(T:TypeId):EqlAt Tryz.prog T encStr (fun x y=>decide (x=y)):=by
 refine⟨fun x y w=> ?_,fun op a b x y w=>(EqlAt.string Tryz.prog T).2 op a b ⟨x.toArray⟩ ⟨y.toArray⟩ w⟩;have:=(EqlAt.string Tryz.prog T).1 ⟨x.toArray⟩ ⟨y.toArray⟩ w;rw[this];by_cases h:x=y <;>simp[h]
theorem YP(T:TypeId):NeqAt Tryz.prog T encStr (fun x y=>decide (x=y)):=by
 refine⟨fun x y w=> ?_,fun op a b x y w=>(NeqAt.string Tryz.prog T).2 op a b ⟨x.toArray⟩ ⟨y.toArray⟩ w⟩;have:=(NeqAt.string Tryz.prog T).1 ⟨x.toArray⟩ ⟨y.toArray⟩ w;rw[this];by_cases h:x=y <;>simp[h]
theorem NL{l:List (List UInt8)}(h:l.Nodup):(compactUpTo l.toArray l.toArray.size)=l:=by
 have:compact l=l:=compact_all l (fun j hj=>by
  unfold keeps;rw[decide_eq_true_iff];by_cases h0:j=0
  ·exact .inl h0
  ·refine .inr (fun e=> ?_)
   have h1:l.toArray[j]! =l[j]:=by simp[hj]
   have h2:l.toArray[j-1]! =l[j-1]:=by simp[show j-1 < l.length by omega]
   rw[h1,h2] at e;exact(List.pairwise_iff_getElem.1 h (j-1) j (by omega) hj (by omega)) e.symm)
 simpa[compact] using this
theorem Tp(B:Nat)(v:Value)(l:List (List UInt8))(w:World)(hn:l.Nodup)(hl:l.length≤1000000)(ho:w.ownsRow B 9 1 v l.length (l.map strV)):
 Calls Tryz.prog 92 #[v] w fun e w'=>e= .returned (.bool false)∧Fr (fun q=>v.ownBlock=some q) w w':=by
 rcases ho.2 with⟨h0,h1⟩|⟨g,cap,cur,hv,hg,hh,hc1,hc2,hc3,ht⟩
 ·subst h0
  have T1:=zz (UE none 0 w);have T2:Calls Tryz.prog 140 #[.slice none 0 0] w fun e w'=>e= .returned (.slice none 0 0)∧w'=w:=by
   go_enter Tryz.func140,Tryz.ntmps140;go_wp2;go_ret;exact⟨rfl,rfl⟩
  have T2:=zz T2;clear ho;go_enter Tryz.func92,Tryz.ntmps92;go_wp2_with fail;refine T1.out.mono ?_;rintro e w1 ⟨rfl,rfl⟩;go_wp2_with fail;refine T2.out.mono ?_;rintro e w1 ⟨rfl,rfl⟩;go_wp2;go_ret;exact⟨rfl,Fr.refl _ _⟩
 ·subst hv
  rw[Nat.mul_one] at ht;have hperm:(l.mergeSort fun x y=>decide (x≤y)).Perm l:=List.mergeSort_perm l _;have hts:(l.mergeSort fun x y=>decide (x≤y)).Nodup:=hperm.nodup_iff.2 hn;have hlen:(l.mergeSort fun x y=>decide (x≤y)).length=l.length:=hperm.length_eq;generalize hT:(l.mergeSort fun x y=>decide (x≤y))=ts at hts hlen;have hgl:g < w.heap.size:=(Ab.1 hh).1;have T1:=zz ((Tryz.slices_Sort_string g 0 cap l w (holds_of_block hh ht) hgl (by omega)).mono (R':=fun e w'=>e= .returned (.tuple #[])∧w'.ownsRow B 9 1 (.slice (some ⟨g,0,none⟩) l.length cap) l.length (ts.map strV)∧Fr (fun q=>q=g) w w') (by
   rintro e w' ⟨rfl,n,os,rfl⟩;rw[hT];exact⟨rfl,ownsRow_sorted hlen hg hh (by simpa using hc1) hc2 hc3,Fr.Y1 (grownBy_sorted _) (fun q e=>by injection e with e;exact e.symm)⟩))
  have T2:=zz (fun(W:World) (h:W.ownsRow B 9 1 (.slice (some ⟨g,0,none⟩) l.length cap) l.length (ts.map strV))=>show Calls Tryz.prog 140 #[.slice (some ⟨g,0,none⟩) l.length cap] W fun e w'=>e= .returned (.slice (some ⟨g,0,none⟩) l.length cap)∧Fr (fun q=>q=g) W w' from by
   rcases h.2 with⟨h0,_⟩|⟨g',cap',cur',hv',hg',hh',hc1',hc2',hc3',ht'⟩
   ·cases h0
   ·injection hv' with e1 e2 e3
    injection e1 with e1;injection e1 with e1;subst e1;subst e3;rw[Nat.mul_one,←hlen] at ht';have:=AnyE.slices_Compact Tryz.lCmp encStr (fun x=>rfl) (Ya _) (YP _) [] (fun W=>by kernel_rfl) g 0 cap ts.toArray W (holds_of_block hh' ht') (by simp;omega) (by simp;omega);rw[NL hts] at this;have hsz:ts.toArray.size=l.length:=by simpa using hlen
    rw[hsz] at this;refine this.mono ?_;rintro e w' ⟨rfl,q,rfl⟩;exact⟨by rw[hlen],frE encStr _⟩)
  clear ho hh hg hc1 hc2 hc3 ht;go_enter Tryz.func92,Tryz.ntmps92;go_wp2_with fail;refine T1.out.mono ?_;rintro e w1 ⟨rfl,ho1,hf1⟩;have T3:=zz (T2.out w1 ho1);have HF1:=zz hf1;clear T1 T2 ho1 hf1;go_wp2_with fail;refine T3.out.mono ?_;rintro e w2 ⟨rfl,hf2⟩;have HF2:=zz (HF1.out.trans hf2);clear T3 hf2;go_wp2;go_ret;refine⟨?_,HF2.out.imp (fun q _ e=>by subst e;rfl)⟩;simp
theorem PH(ab:Nat)(M:Nat→Option Hg.Node)(id:Nat)(w:World)(hA:ArOk w ab M)(hid:id < Ah)(href:(ndAt M id).ref < Ah):
 Calls Tryz.prog 100 #[.pointer (some ⟨ab,0,none⟩),idV id] w fun e w'=>e= .returned (.int .u8 (Bt M id:Int))∧Below w.heap.size w w':=by
 have TG:=zz (hA.getN hid);have HA:=zz hA;generalize hr:Bt M id=r;unfold Bt at hr;clear hA;go_enter Tryz.func100,Tryz.ntmps100;go_wp2_with fail;refine TG.out.mono ?_;rintro e w1 ⟨ka,kc,rfl,ho1,hb1⟩;have hbn:=NB (w1:=w1) (ndAt M id) ka kc;have hbw:=hb1.alloc hb1.size (.cells #[.int .u8 ((ndAt M id).kind:Int),strV (ndAt M id).name,.int .i64 (ndAt M id).num,.int .u8 ((ndAt M id).type:Int),.int .u64 ((ndAt M id).ref:Int),.slice ka (ndAt M id).kids.length kc] 48);have c0:=hbn 0;have c2:=hbn 2;have c4:=hbn 4;simp at c0 c2 c4;have HB:=zz hbw;have T2:=zz ((HA.out.below hbw).getN href);generalize ndAt M id=nd at*;obtain⟨kd,nm,nu,ty,rf,ks⟩:=nd;clear TG ho1 hb1 hbn hbw c0 c2 c4;dsimp only at href HB T2 hr;have HR:=zz hr;clear hr;by_cases h13:kd=13
 ·subst h13
  go_wp2;go_ret;have hr:=HR.out;simp at hr;subst hr;exact⟨rfl,HB.out⟩
 by_cases h17:kd=17
 ·subst h17
  go_wp2;go_ret;have hr:=HR.out;simp at hr;subst hr;exact⟨rfl,HB.out⟩
 by_cases h20:kd=20
 ·subst h20
  go_wp2;go_ret;have hr:=HR.out;simp at hr;subst hr;exact⟨rfl,HB.out⟩
 by_cases h14:kd=14
 ·subst h14
  go_wp2;go_ret;have hr:=HR.out;simp at hr;subst hr;exact⟨rfl,HB.out⟩
 by_cases h16:kd=16
 ·subst h16
  go_wp2;go_ret;have hr:=HR.out;simp at hr;subst hr;exact⟨rfl,HB.out⟩
 by_cases h18:kd=18
 ·subst h18
  by_cases h5:nu≤5
  ·go_wp2
   go_ret;have hr:=HR.out
   simp[h5] at hr
   subst hr;exact⟨rfl,HB.out⟩
  ·go_wp2
   go_ret;have hr:=HR.out;simp at hr;rw[if_neg (by omega)] at hr;subst hr;exact⟨rfl,HB.out⟩
 have hq:∀n:Nat,kd≠n→((kd:Int)==(n:Int))=false:=fun n h=>by simpa using(show¬(kd:Int)=(n:Int) by omega)
 have q13:=hq 13 h13;have q17:=hq 17 h17;have q20:=hq 20 h20;have q14:=hq 14 h14;have q16:=hq 16 h16;have q18:=hq 18 h18;by_cases h15:kd=15
 ·subst h15
  clear q13 q17 q20 q14 q16 q18 hq;go_wp2_with fail;refine T2.out.mono ?_;rintro e w2 ⟨ka2,kc2,rfl,ho2,hb2⟩;have HB2:=zz ((HB.out.trans (hb2.mono HB.out.size)));clear T2 ho2 hb2;go_wp2;go_ret;have hr:=HR.out;simp at hr;subst hr;exact⟨rfl,HB2.out.alloc HB2.out.size _⟩
 by_cases h19:kd=19
 ·subst h19
  clear q13 q17 q20 q14 q16 q18 hq;go_wp2_with fail;refine T2.out.mono ?_;rintro e w2 ⟨ka2,kc2,rfl,ho2,hb2⟩;have HB2:=zz ((HB.out.trans (hb2.mono HB.out.size)));clear T2 ho2 hb2;go_wp2;go_ret;have hr:=HR.out;simp at hr;subst hr;exact⟨rfl,HB2.out.alloc HB2.out.size _⟩
 have q15:=hq 15 h15;have q19:=hq 19 h19;clear hq T2;go_wp2;go_ret;have hr:=HR.out;rw[if_neg (by omega),if_neg (by omega),if_neg h18,if_neg (by omega)] at hr;subst hr;exact⟨rfl,HB.out⟩
open Hg (CE)
section
attribute [local go_sem] Oper.semAt_some
theorem QA(l:List (Nat×Hg.Node))(p:Nat×Hg.Node):CE (l++[p])=CE l++(if p.2.kind==4||p.2.kind==6 then[p.2.name] else[]):=by
 unfold CE;rw[List.filter_append,List.map_append]
 congr 1
 by_cases h:(p.2.kind==4||p.2.kind==6)=true
 ·simp[h]
 ·simp only[Bool.not_eq_true] at h
  simp[h]
theorem MU(l:List (Nat×Hg.Node)):(CE l).length≤l.length:=by unfold CE;rw[List.length_map];exact List.length_filter_le _ _
theorem Ls(M:Nat→Option Hg.Node):∀(f:Nat) (s seen:List Nat) (r:List (Nat×Hg.Node)),wk M f s seen=some r→r.length < f
 |0,_,_,_,h=>by cases h
 |f+1,[],_,r,h=>by rw[Hg.Qv] at h;injection h with h;subst h;simp
 |f+1,i::s,seen,r,h=>by
   rw[Hg.Ea] at h;cases hM:M i with
   |none=>rw[hM] at h;have:=Ls M f s seen r h;omega
   |some n=>
     rw[hM] at h;dsimp only at h;by_cases hi:i∈seen
     ·rw[if_pos hi] at h;have:=Ls M f s seen r h;omega
     ·rw[if_neg hi] at h
      cases hw:wk M f (n.kids++s) (i::seen) with
      |none=>rw[hw] at h;cases h
      |some r'=>
        rw[hw] at h;have h:(i,n)::r'=r:=Option.some.inj h;have:=Ls M f _ _ r' hw;rw[←h];simp;omega
@[reducible] def AZ(nd:Hg.Node)(ka:Option Addr)(kc:Nat):Array Value:= #[.int .u8 (nd.kind:Int),strV nd.name,.int .i64 nd.num,.int .u8 (nd.type:Int),.int .u64 (nd.ref:Int),.slice ka nd.kids.length kc]
def Ib(B:Nat)(S:Nat→Prop)(pre:List Au)(A:World):Prop:=∃v,A.heap[B]? =some (.cells #[v] 87 (0,0))∧A.ownsRow (B+1) 9 1 v (CE (pre.map Au.strip)).length ((CE (pre.map Au.strip)).map strV)∧∀q,S q↔q=B∨v.ownBlock=some q
theorem Ib.fr{B:Nat}{S:Nat→Prop}{pre:List Au}{A A':World}(h:Ib B S pre A)(hf:Fr (fun q=>¬S q) A A'):Ib B S pre A':=by
 obtain⟨v,h1,h2,h3⟩:=h;exact⟨v,hf.at_ h1 (fun h=>h ((h3 B).2 (.inl rfl))),Am h2 hf (fun q e h=>h ((h3 q).2 (.inr e))),h3⟩
theorem Ib.lt{B:Nat}{S:Nat→Prop}{pre:List Au}{A:World}(h:Ib B S pre A):∀q,S q→B≤q∧q < A.heap.size:=by
 obtain⟨v,h1,h2,h3⟩:=h;intro q hq;rcases(h3 q).1 hq with e|e
 ·subst e;exact⟨AA,(Ab.1 h1).1⟩
 ·have:=h2.lt q e;exact⟨by omega,this.2⟩
def YQ(p5 p7:Value)(a:Act):Prop:=∃u0 u1 u2 u3 u4 u6 u8 u9 u10 u11 u12 u13 u14 u15 u16 u17 u18 u19 u20 u21 u22 u23 u24 u25 u26:Value,a={tmps:= #[u0,u1,u2,u3,u4,p5,u6,p7,u8,u9,u10,u11,u12,u13,u14,u15,u16,u17,u18,u19,u20,u21,u22,u23,u24,u25,u26],defers:=[]}
def Ye(B:Nat)(S:Nat→Prop)(pre:List Au)(x:Au)(a:Act)(A:World):Prop:=
 ∃S0 blk,Ib B S0 pre A∧YQ (.pointer (some ⟨B,0,none⟩)) (.pointer (some ⟨blk,0,none⟩)) a∧A.heap[blk]? =some (.cells (AZ x.nd x.ka x.kc) 48 (0,0))∧(∀q,S q↔S0 q∨q=blk)∧¬S0 blk
theorem RP(ab:Nat)(M:Nat→Option Hg.Node)(id F:Nat)(xs:List (Nat×Hg.Node))(w:World)(hA:ArOk w ab M)(hid:id < Ah)(hxs:wk M F [id] []=some xs)(hF:F≤1000000):
 Calls Tryz.prog 96 #[.pointer (some ⟨ab,0,none⟩),idV id] w (Wy w (CE xs)):=by
 obtain⟨i0,hi0,hz0,hz1,hz2⟩:=info_parts NR;have HA:=zz hA;have TW:=zz (Jf ab id);refine(callsIn_wide (n:=5)).1 (callsIn_of_wp_marks Tryz.func96 rfl trivial ?_ rfl);simp only[Tryz.ntmps96,List.size_toArray,List.length_cons,List.length_nil,Nat.reduceAdd,Nat.reduceSub,Array.replicate_succ,Array.replicate_zero,List.push_toArray,List.append_toArray,List.nil_append,List.cons_append];gi_wp2_with fail;refine⟨trivial,(callsIn_wide.2 (TW.out _)).mono ?_⟩;rintro e w1 ⟨rfl,rfl⟩;gi_wp2;obtain⟨⟨mb,c,hAr⟩,hkb⟩:=HA.out;have hb0:Below w.heap.size w (((w.alloc (.cells #[.slice none 0 0] 87)).alloc (.cells #[.pointer (some ⟨ab,0,none⟩)] 25)).alloc (.cells #[idV id] 45)):=(((AL).alloc AA _).alloc (by simp) _).alloc (by simp;omega) _;have hzW:(((w.alloc (.cells #[.slice none 0 0] 87)).alloc (.cells #[.pointer (some ⟨ab,0,none⟩)] 25)).alloc (.cells #[idV id] 45)).heap.size=w.heap.size+3:=by simp
 have h0:(((w.alloc (.cells #[.slice none 0 0] 87)).alloc (.cells #[.pointer (some ⟨ab,0,none⟩)] 25)).alloc (.cells #[idV id] 45)).heap[w.heap.size]? =some (.cells #[.slice none 0 0] 87 (0,0)):=(heap_alloc_old _ _ (by simp;omega)).trans ((heap_alloc_old _ _ (by simp)).trans (AX w _));have h1:(((w.alloc (.cells #[.slice none 0 0] 87)).alloc (.cells #[.pointer (some ⟨ab,0,none⟩)] 25)).alloc (.cells #[idV id] 45)).heap[w.heap.size+1]? =some (.cells #[.pointer (some ⟨ab,0,none⟩)] 25 (0,0)):=by
  have:=AX (w.alloc (.cells #[.slice none 0 0] 87)) (.cells #[.pointer (some ⟨ab,0,none⟩)] 25);rw[show(w.alloc (.cells #[.slice none 0 0] 87)).heap.size=w.heap.size+1 by simp] at this;exact(heap_alloc_old _ _ (by simp)).trans this
 have h2:(((w.alloc (.cells #[.slice none 0 0] 87)).alloc (.cells #[.pointer (some ⟨ab,0,none⟩)] 25)).alloc (.cells #[idV id] 45)).heap[w.heap.size+2]? =some (.cells #[idV id] 45 (0,0)):=by
  have:=AX ((w.alloc (.cells #[.slice none 0 0] 87)).alloc (.cells #[.pointer (some ⟨ab,0,none⟩)] 25)) (.cells #[idV id] 45);rw[show((w.alloc (.cells #[.slice none 0 0] 87)).alloc (.cells #[.pointer (some ⟨ab,0,none⟩)] 25)).heap.size=w.heap.size+2 by simp] at this;exact this
 generalize World.alloc (World.alloc (World.alloc w _) _) _=W1 at hb0 hzW h0 h1 h2⊢;have hseq:=Hw ab mb c M w.heap.size id (w.heap.size+2) (w.heap.size+1) F xs W1 (fun W' hf=>hAr.below (hb0.trans (hf.below' (by omega))) AA) (AJ W1 (w.heap.size+2) 0 _ _ (0,0) h2) (AJ W1 (w.heap.size+1) 0 _ _ (0,0) h1) ⟨by omega,by omega,by omega,by omega⟩ hid hkb hxs hF;have HB0:=zz hb0;have hxl:=Ls M F _ _ _ hxs;clear hA TW hAr hkb h1 h2;refine GI (gf:=129) rfl (enters_of Tryz.func129 (by kernel_rfl) rfl) hseq (Fr.refl _ _) rfl (fun q h=>by rcases h with h|h <;>omega) (by omega)
  (Ib w.heap.size) (fun _ _ _ _=>False) (Ye w.heap.size) (fun S pre A A' h hf=>h.fr hf) (fun _ _ _ _ _ h _=>h) ?hI1 (fun S pre A h q hq=>(h.lt q hq).2) ?hI1l
  (fun q=>q=w.heap.size) ⟨_,h0,⟨rfl,.inl ⟨rfl,rfl⟩⟩,fun q=>by simp[Value.ownBlock]⟩ (fun q e=>by subst e;exact⟨AA,by omega,by omega⟩) ?assign ?body ?done ?stop
 case hI1=>
  rintro S pre x a A A' ⟨S0,blk,hi,ha,hb,hS,hn⟩ hf;exact⟨S0,blk,hi.fr (hf.imp (fun q _ h h'=>h (.inl ((hS q).2 (.inl h'))))),ha,hf.at_ hb (fun h=>h (.inl ((hS blk).2 (.inr rfl)))),hS,hn⟩
 case hI1l=>
  rintro S pre x a A ⟨S0,blk,hi,ha,hb,hS,hn⟩ q hq;rcases(hS q).1 hq with h|h
  ·exact(hi.lt q h).2
  ·subst h;exact(Ab.1 hb).1
 case assign=>
  intro l m S pre x A K hi hpre hx hkb hf hK;gi_wp2;refine hK (fun q=>S q∨q=A.heap.size) _ _ ⟨S,A.heap.size,hi.fr ((Fr.refl _ _).alloc _), ?_,AX A _,fun q=>Iff.rfl,fun h=>by have:=(hi.lt _ h).2;omega⟩ ((Fr.refl _ _).alloc _) (fun q h=>h.imp (fun h=>h) (fun h=>by omega));exact⟨_,_,_,_,_,_,_,_,_,_,_,_,_,_,_,_,_,_,_,_,_,_,_,_,_,rfl⟩
 case body=>
  rintro l m S pre x a1 A ⟨S0,blk,⟨v,hbx,hrow,hSv⟩,ha,hb,hS,hn⟩ hpre hf;obtain⟨u0,u1,u2,u3,u4,u6,u8,u9,u10,u11,u12,u13,u14,u15,u16,u17,u18,u19,u20,u21,u22,u23,u24,u25,u26,rfl⟩:=ha;have hlen:(CE (pre.map Au.strip)).length≤1000000:=by
   have h1:=MU (pre.map Au.strip);have h2:=hpre.length_le;simp at h1 h2;omega
  have hsn:=QA (pre.map Au.strip) x.strip;rw[show pre.map Au.strip++[x.strip]=(pre++[x]).map Au.strip by simp] at hsn;have e0:=AJ A blk 0 _ _ (0,0) hb;have e1:=AJ A blk 1 _ _ (0,0) hb;have eB:=AJ A w.heap.size 0 _ _ (0,0) hbx;have fB:A.frozen? ⟨w.heap.size,0,none⟩=false:=by simp[World.frozen?,hbx]
  have hBl:=(Ab.1 hbx).1;have hbl:=(Ab.1 hb).1;simp at e0 e1 eB;generalize hnd:x.nd=nd at e0 e1;have HSN:=zz hsn;have HND:=zz hnd;have HROW:=zz hrow;have HBX:=zz hbx;have HSS:=zz (And.intro hSv hS);clear hsn hrow hSv hS hb hpre hf;by_cases hk:nd.kind=4∨nd.kind=6
  ·have hcond:(x.strip.2.kind==4||x.strip.2.kind==6)=true:=by
    show(x.nd.kind==4||x.nd.kind==6)=true;rw[hnd];rcases hk with h|h <;>simp[h]
   rw[hcond] at HSN;have HSN2:=zz (show CE ((pre++[x]).map Au.strip)=CE (pre.map Au.strip)++[nd.name] from by rw[HSN.out,←hnd];rfl);have hq:((nd.kind:Int)==4)=true∨(((nd.kind:Int)==4)=false∧((nd.kind:Int)==6)=true):=by
    rcases hk with h|h
    ·exact .inl (by simp[h])
    ·exact .inr ⟨by simp[h],by simp[h]⟩
   clear hcond HSN hnd hk;rcases hq with hq|⟨hq,hq6⟩
   all_goals
    gi_wp2_with (gi_at_builtin;refine wpListIn_append_own_at _ rfl (.tmp 21) (.tmp 24) _ rfl (w.heap.size+1) 9 i0 _ 1 16 Tryz.underlying87 hi0 hz0 hz1 hz2 rfl (by decide) _ (CE (pre.map Au.strip)).length ((CE (pre.map Au.strip)).map strV) rfl (HROW.out.alloc _) ⟨A.heap.size,0,none⟩ 1 1 [strV nd.name] rfl rfl (Aq _ _ _) ?_ ?_ ?_ ?_ ?_)
    all_goals first
     |intro v3 W3 own3 g3 _ at3
     |(unfold maxLen;omega)
     |omega
     |(simp;omega)
     |(intro u hu;simp only[List.mem_singleton] at hu;subst hu;rfl)
    obtain⟨y3,z3,rfl⟩:=ownsRow_succ own3;have hfa:Fr (fun q=>v.ownBlock=some q) A W3:=((Fr.refl _ A).alloc _).step g3 (fun q e=> .inl e);have hb3:W3.heap[w.heap.size]? =some (.cells #[v] 87 (0,0)):=hfa.at_ HBX.out (fun e=>by have:=(HROW.out.lt _ e).1;omega);have c3:W3.cell? ⟨w.heap.size,0,none⟩=some v:=by have:=AJ W3 w.heap.size 0 _ _ (0,0) hb3;simpa using this
    have f3:W3.frozen? ⟨w.heap.size,0,none⟩=false:=by simp[World.frozen?,hb3]
    have hBl3:w.heap.size < W3.heap.size:=(Ab.1 hb3).1;have HFIN:=zz (show∃S',Ib w.heap.size S' (pre++[x]) (W3.setCell ⟨w.heap.size,0,none⟩ (.slice (some ⟨y3,0,none⟩) ((CE (pre.map Au.strip)).length+1) z3))∧Fr S A (W3.setCell ⟨w.heap.size,0,none⟩ (.slice (some ⟨y3,0,none⟩) ((CE (pre.map Au.strip)).length+1) z3))∧∀q,S' q→S q∨A.heap.size≤q from by
     refine⟨fun q=>q=w.heap.size∨y3=q,⟨_,heap_setCell_same hb3 _, ?_,fun q=>by simp[Value.ownBlock]⟩, ?_,fun q hq=> ?_⟩
     ·rw[HSN2.out,List.map_append,List.length_append]
      exact Am own3 ((Fr.refl (fun q=>q=w.heap.size) W3).set (p:=⟨w.heap.size,0,none⟩) (.inl rfl) _) (fun q e e'=>by have:=(own3.lt q e).1;omega)
     ·refine(hfa.imp (fun q _ e=>(HSS.out.2 q).2 (.inl ((HSS.out.1 q).2 (.inr e))))).set (p:=⟨w.heap.size,0,none⟩) (.inl ((HSS.out.2 w.heap.size).2 (.inl ((HSS.out.1 w.heap.size).2 (.inl rfl))))) _
     ·rcases hq with e|e
      ·exact .inl ((HSS.out.2 q).2 (.inl ((HSS.out.1 q).2 (.inl e))))
      ·rcases at3 with h|h
       ·exact .inl ((HSS.out.2 q).2 (.inl ((HSS.out.1 q).2 (.inr (by rw[←h,←e];rfl)))))
       ·injection h with h
        have h:y3=_:=h
        try simp at h
        exact .inr (by omega))
    clear own3 g3 at3 hfa hb3;gi_wp2;exact HFIN.out
  ·have hcond:(x.strip.2.kind==4||x.strip.2.kind==6)=false:=by
    show(x.nd.kind==4||x.nd.kind==6)=false;rw[hnd]
    simp;omega
   rw[hcond] at HSN;have HSN2:=zz (show CE ((pre++[x]).map Au.strip)=CE (pre.map Au.strip) from by rw[HSN.out];simp);have q4:((nd.kind:Int)==4)=false:=by simp;omega
   have q6:((nd.kind:Int)==6)=false:=by simp;omega
   clear hcond HSN hnd hk;gi_wp2;exact⟨_,⟨v,HBX.out,by rw[HSN2.out];exact HROW.out,HSS.out.1⟩,Fr.refl _ _,fun q h=> .inl ((HSS.out.2 q).2 (.inl h))⟩
 case done=>
  rintro S ys W hys ⟨v,hbx,hrow,hSv⟩ hK hnS hf;have eB:=AJ W w.heap.size 0 _ _ (0,0) hbx;simp at eB;have hpf:=DZ W W1.heap.size (.deferred none);have hnv:∀q,v.ownBlock=some q→¬q=W1.heap.size:=fun q e e'=>hnS ((hSv _).2 (.inr (e' ▸ e)));have HFIN:=zz (show(∃u,(Ending.returned v= .returned u)∧(W.putObj W1.heap.size (.deferred none)).ownsRow w.heap.size 9 1 u (CE xs).length ((CE xs).map strV))∧Below w.heap.size w (W.putObj W1.heap.size (.deferred none)) from⟨⟨v,rfl,by
   rw[←hys];exact CQ (Am hrow hpf (fun q e e'=>hnv q e e')) (by omega)⟩,by
   have h1:=HB0.out.trans ((hf.imp (D':=fun q=>w.heap.size≤q) (fun q _ e=>by rcases e with e|e|e <;>omega)).below' (by omega));exact h1.trans ((hpf.imp (D':=fun q=>w.heap.size≤q) (fun q _ e=>by omega)).below' h1.size)⟩)
  clear hbx hrow hSv hf hpf hnv;gi_wp2;refine⟨by simp,.inl ⟨_,_,rfl,run_takeDeferred hK, ?_⟩⟩;refine⟨_,results_tmp rfl _ _ _, ?_⟩;exact HFIN.out
 case stop=>
  intro c S pre W hpre h;exact h.elim
end
open Hg (Hu Fw IQ DL Cg)
theorem WS(ab:Nat)(M:Nat→Option Hg.Node)(mod fn:List UInt8)(w:World)(hA:ArOk w ab M):
 Calls Tryz.prog 54 #[.pointer (some ⟨ab,0,none⟩),strV mod,strV fn] w fun e w'=>e= .returned (idV (IQ M mod fn))∧Below w.heap.size w w':=by
 have T1:=zz (LF ab M w hA);have HA:=zz hA;have hml:=hA.lenK 1 2;have hmm:=hA.2.kids 1 2;have HMM:=zz hmm;generalize hR:Fw M mod fn (Cm M)=R;have HR0:=zz hR;have HFK:=zz (show IQ M mod fn=R.getD 0 from by unfold IQ;rw[hR]);clear hA hmm hR;go_enter Tryz.func54,Tryz.ntmps54;go_wp2_with fail;refine T1.out.mono ?_;rintro e w1 ⟨⟨v,rfl,ho1⟩,hb1⟩;obtain⟨a,c,rfl⟩:=(Sl.Aj ho1).form;have HS:=zz (Sl.Aj ho1);have HB1:=zz hb1;have HA1:=zz (HA.out.below hb1);change (Cm M).length≤1000000 at hml;clear ho1 hb1 T1;go_wp2
 go_loopw [14] (fun p wr=>∃i:Nat,p= .int .i64 (i:Int)∧i≤(Cm M).length∧Below w1.heap.size w1 wr∧Fw M mod fn ((Cm M).drop i)=R) (fun p wr=>(Cm M).length-(intOf p).toNat)
 case atStart=>exact⟨0,rfl,Nat.zero_le _,AL,HR0.out⟩
 case round=>
  obtain⟨i,rfl,hi,hb,hR⟩:=hrel;have HB:=zz hb;clear hb;by_cases hlt:i < (Cm M).length
  ·obtain⟨b,o,rfl,_,kc⟩:=(HS.out.below HB.out AA).mapAt hlt
   have hmi:=HMM.out _ (List.getElem_mem hlt);rw[Aw hlt,Fw] at hR;generalize(Cm M)[i]=m at kc hmi hR;have T2:=zz (Nz ab M m wr (HA1.out.below HB.out) hmi);have hfl:=(HA1.out.below HB.out).lenK m 3;have HFM:=zz (HA.out.2.kids m 3);have HR:=zz hR;change (Br M m).length≤1000000 at hfl;clear hR;go_wp2_with fail;refine T2.out.mono ?_;rintro e w2 ⟨⟨v2,rfl,ho2⟩,hb2⟩;obtain⟨a2,c2,rfl⟩:=(Sl.Aj ho2).form;have HS2:=zz (Sl.Aj ho2);have HB2:=zz (HB.out.trans (hb2.mono HB.out.size));clear ho2 hb2 T2;generalize hR2:Hu M mod fn m (Br M m)=R2 at HR;have HR2:=zz hR2;clear hR2;go_wp2
   go_loopw [22] (fun p wr=>∃j:Nat,p= .int .i64 (j:Int)∧j≤(Br M m).length∧Below w2.heap.size w2 wr∧Hu M mod fn m ((Br M m).drop j)=R2) (fun p wr=>(Br M m).length-(intOf p).toNat)
   case atStart=>exact⟨0,rfl,Nat.zero_le _,AL,HR2.out⟩
   case round=>
    obtain⟨j,rfl,hj,hb3,hr2⟩:=hrel;have HB3:=zz hb3;have HB3':=zz (HB2.out.trans (hb3.mono HB2.out.size));clear hb3;by_cases hltj:j < (Br M m).length
    ·obtain⟨b2,o2,rfl,_,kc2⟩:=(HS2.out.below HB3.out AA).mapAt hltj
     have hfj:=HFM.out _ (List.getElem_mem hltj);rw[Aw hltj] at hr2;unfold Hu at hr2;rw[List.find?_cons] at hr2;generalize(Br M m)[j]=f at kc2 hfj hr2;have TN:=zz (Km ab M m wr (HA1.out.below HB3'.out) hmi);replace hr2:(match DK M m==mod && DK M f==fn with|true=>some f|false=>Hu M mod fn m ((Br M m).drop (j+1)))=R2:=hr2;have HR3:=zz hr2;clear hr2;generalize hnm:DK M m=nm at TN HR3;have HNM:=zz hnm;clear hnm;by_cases hm:nm=mod
     ·subst hm
      go_wp2_with fail;refine TN.out.mono ?_;rintro e w3 ⟨rfl,hb3⟩;have HB4:=zz (HB3'.out.trans (hb3.mono HB3'.out.size));have HB5:=zz (HB3.out.trans (hb3.mono HB3.out.size));have TF:=zz (Km ab M f w3 (HA1.out.below HB4.out) hfj);generalize hnf:DK M f=nf at TF HR3;have HNF:=zz hnf;clear hb3 TN hnf;by_cases hf:nf=fn
      ·subst hf
       have hr3:=HR3.out;simp only[beq_self_eq_true,Bool.and_self] at hr3;go_wp2_with fail;refine TF.out.mono ?_;rintro e w4 ⟨rfl,hb4⟩;have HB6:=zz (HB1.out.trans ((HB4.out.trans (hb4.mono HB4.out.size)).mono HB1.out.size));clear hb4 TF;subst hr3;have hR:=HR.out;have hR:some f=R:=hR;subst hR;go_wp2;go_ret;rw[HFK.out];exact⟨rfl,HB6.out⟩
      ·have hr3:=HR3.out
       have hbf:(nf==fn)=false:=by simpa using hf
       rw[hbf,Bool.and_false] at hr3;have HR5:=zz hr3;clear hr3;go_wp2_with fail;refine TF.out.mono ?_;rintro e w4 ⟨rfl,hb4⟩;have HB7:=zz (HB5.out.trans (hb4.mono HB5.out.size));clear hb4 TF;go_wp2;go_roundw
       case rel=>exact⟨j+1,by go_num,by omega,HB7.out,HR5.out⟩
       case measure=>simp[intOf];omega
     ·have hr3:=HR3.out
      have hbf:(nm==mod)=false:=by simpa using hm
      rw[hbf,Bool.false_and] at hr3;have HR5:=zz hr3;clear hr3;go_wp2_with fail;refine TN.out.mono ?_;rintro e w3 ⟨rfl,hb3⟩;have HB5:=zz (HB3.out.trans (hb3.mono HB3.out.size));clear hb3 TN;go_wp2;go_roundw
      case rel=>exact⟨j+1,by go_num,by omega,HB5.out,HR5.out⟩
      case measure=>simp[intOf];omega
    ·obtain rfl:j=(Br M m).length:=by omega
     rw[List.drop_length] at hr2;have hr2:none=R2:=hr2;subst hr2;have HR4:=zz (show Fw M mod fn ((Cm M).drop (i+1))=R from HR.out);go_wp2;go_roundw
     case rel=>exact⟨i+1,by go_num,by omega,HB3'.out,HR4.out⟩
     case measure=>simp[intOf];omega
  ·obtain rfl:i=(Cm M).length:=by omega
   rw[List.drop_length] at hR;have hR:none=R:=hR;subst hR;go_wp2;go_ret;rw[HFK.out];exact⟨rfl,HB1.out.trans (HB.out.mono HB1.out.size)⟩
theorem QG(ab:Nat)(M:Nat→Option Hg.Node)(w:World)(hA:ArOk w ab M):
 Calls Tryz.prog 22 #[.pointer (some ⟨ab,0,none⟩)] w fun e w'=>e= .returned (idV (DL M))∧Below w.heap.size w w':=by
 have T1:=zz (WS ab M Cg Cg w hA);have HA:=zz hA;generalize hr:DL M=r;unfold DL at hr;have hfl:=Hg.WU hA.2 Cg Cg;generalize hf:IQ M Cg Cg=f at hr hfl T1;clear hA hf;have hget:∀W,ArOk W ab M→∀o,M f=o→Calls Tryz.prog 55 #[.pointer (some ⟨ab,0,none⟩),.int .u64 (f:Int)] W (Hf W o):=fun W h o e=>e ▸ h.get hfl;cases hM:M f with
 |none=>
   rw[hM] at hr;have hr:0=r:=hr;subst hr;go_enter Tryz.func22,Tryz.ntmps22;go_wp2_with fail;refine T1.out.mono ?_;rintro e w1 ⟨rfl,hb1⟩;have TG:=zz (hget w1 (HA.out.below hb1) none hM);have HB1:=zz hb1;clear T1 hb1;go_wp2_with fail;refine TG.out.mono ?_;rintro e w2 ⟨ka,kc,rfl,ho,hb2⟩;have HB2:=zz (HB1.out.trans (hb2.mono HB1.out.size));clear TG ho hb2;go_wp2;go_ret;exact⟨rfl,HB2.out.alloc HB2.out.size _⟩
 |some nd=>
   rw[hM] at hr;have hr:(if nd.type=1∧(CO M f 4).length=0 then f else 0)=r:=hr;have HR:=zz hr;clear hr;go_enter Tryz.func22,Tryz.ntmps22;go_wp2_with fail;refine T1.out.mono ?_;rintro e w1 ⟨rfl,hb1⟩;have TG:=zz (hget w1 (HA.out.below hb1) (some nd) hM);have HB1:=zz hb1;clear T1 hb1;go_wp2_with fail;refine TG.out.mono ?_;rintro e w2 ⟨ka,kc,rfl,ho,hb2⟩;have HB2:=zz (HB1.out.trans (hb2.mono HB1.out.size));have hb3:=HB2.out.alloc HB2.out.size (.cells (AZ nd ka kc) 48);have HB3:=zz hb3;have TK:=zz (J2 ab M f 4 _ (HA.out.below hb3) hfl);clear TG ho hb2 hb3;by_cases ht:nd.type=1
   ·have hq:((nd.type:Int) !=1)=false:=by simp[ht]
    have hq2:((nd.type:Int)==1)=true:=by simp[ht]
    rw[ht] at HR;clear ht;go_wp2_with fail;refine TK.out.mono ?_;rintro e w4 ⟨⟨v,rfl,ho4⟩,hb4⟩;obtain⟨a4,c4,rfl⟩:=(Sl.Aj ho4).form;have HB4:=zz (HB3.out.trans (hb4.mono HB3.out.size));have hr:=HR.out;simp only[true_and] at hr;clear TK ho4 hb4;by_cases hk:(CO M f 4).length=0
    ·rw[if_pos hk] at hr
     subst hr;generalize(CO M f 4).length=n at hk⊢;subst hk;go_wp2;go_ret;exact⟨rfl,HB4.out⟩
    ·rw[if_neg hk] at hr
     subst hr;generalize(CO M f 4).length=n at hk⊢;have hk2:0 < n:=by omega
     go_wp2;go_ret;exact⟨rfl,HB4.out⟩
   ·have hq:((nd.type:Int) !=1)=true:=by simp;omega
    have hq2:((nd.type:Int)==1)=false:=by simp;omega
    have hr:=HR.out;rw[if_neg (fun h=>ht h.1)] at hr;subst hr;clear ht TK;go_wp2;go_ret;exact⟨rfl,HB3.out⟩
open Hg (DC Jq El)
structure LY (M:Nat→Option Hg.Node) (par:Nat→Nat×Int):Prop where
 zero:M 0=none
 par:∀id,Du M id (fun i=>i < Ah) (par id).1 (par id).2
theorem LY.call{M:Nat→Option Hg.Node}{par:Nat→Nat×Int}(h:LY M par){w:World}{ab:Nat}(hA:ArOk w ab M)(id:Nat):
 Calls Tryz.prog 138 #[.pointer (some ⟨ab,0,none⟩),.int .u64 (id:Int)] w fun e w'=>e= .returned (.tuple #[.int .u64 ((par id).1:Int),.int .i64 (par id).2])∧(par id).1 < Ah∧Below w.heap.size w w':=by
 obtain⟨⟨mb,c,hAr⟩,_⟩:=hA;refine(KO ab mb c M id w hAr h.zero).mono ?_;rintro e w' ⟨p,k,hp,hlt,rfl,hb⟩;obtain⟨e1,e2⟩:=hp.unique (h.par id);subst e1;subst e2;exact⟨rfl,hlt,hb⟩
theorem Xn(l:List Nat)(id k:Nat)(h:idxI l id=(k:Int)):k < l.length:=by
 unfold idxI at h;cases hf:l.findIdx? (· ==id) with
 |none=>rw[hf] at h;simp at h
 |some j=>
   rw[hf] at h;have h:(j:Int)=(k:Int):=h;have h2:=(List.findIdx?_eq_some_iff_getElem.1 hf).1;omega
structure SnSt (M:Nat→Option Hg.Node) (par:Nat→Nat×Int) (F sb:Nat) (R:List Nat) (w:World) (f:Nat) (v:Value) (id:Nat) (wr:World) (seen out:List Nat):Prop where
 own:wr.ownsRow w.heap.size 45 1 v out.length (out.map idV)
 mp:IMap wr sb (Jp seen)
 bel:Below w.heap.size w wr
 sl:w.heap.size≤sb
 run:El M par f id seen out=some R
 cnt:seen.length+f≤F
 out:out.length≤seen.length*1000000
 lt:id < Ah
theorem Vb(ab:Nat)(M:Nat→Option Hg.Node)(par:Nat→Nat×Int)(hp:LY M par)(id F:Nat)(R:List Nat)(w:World)(hA:ArOk w ab M)(hid:id < Ah)(hR:El M par F id [] []=some R)(hF:F≤1000000):
 Calls Tryz.prog 98 #[.pointer (some ⟨ab,0,none⟩),idV id] w (O4 w R):=by
 obtain⟨j0,hj,hj0,hj1,hj2⟩:=info_parts IM;have hzb:∀W:World,(zeroValue 4).run Tryz.prog W= .ok (.bool false) W:=fun W=>by kernel_rfl
 have hmm:= @run_makeMap Tryz.prog;have HA:=zz hA;have HP:=zz hp;have HST:=zz (show SnSt M par F w.heap.size R w F (.slice none 0 0) id (w.alloc (.map #[] 0)) [] [] from⟨⟨rfl,.inl ⟨rfl,rfl⟩⟩,XMap.made 45 idV w,(AL).alloc AA _,AA,hR,by simp,by simp,hid⟩);clear hA hp hR hid;go_enter Tryz.func98,Tryz.ntmps98;go_wp2;generalize World.alloc w _=W1 at HST⊢
 go_loopw [5,7] (fun p q wr=>∃(v:Value) (id:Nat),p=v∧q=idV id∧∃f seen out,SnSt M par F w.heap.size R w f v id wr seen out) (fun p q wr=>Hg.least (fun f=>∃id seen out,q=idV id∧SnSt M par F w.heap.size R w f p id wr seen out))
 case atStart=>exact⟨_,id,rfl,rfl,F,[],[],HST.out⟩
 case round=>
  obtain⟨v,id,hv,rfl,hrel⟩:=hrel;have hv:=hv.symm;subst hv;have hl:=Hg.JZ (p:=fun f=>∃id2 seen out,idV id=idV id2∧SnSt M par F w.heap.size R w f v id2 wr seen out) (by
   obtain⟨f,seen,out,h⟩:=hrel;exact⟨f,id,seen,out,rfl,h⟩)
  generalize hf0:Hg.least _=f at hl;have HF0:=zz hf0;obtain⟨id2,seen,out,hid2,hS⟩:=hl;have hid2:id=id2:=by injection hid2 with _ h;exact Int.ofNat.inj h
  subst hid2;have HS:=zz hS;have hlk:=(hS.mp.look (t:=178) (x:=id) BL Tryz.underlying178 (hzb _) ⟨_,BJ hS.lt⟩);unfold Jp at hlk;rw[Hg.WP] at hlk;clear hf0 hrel HST hv;cases f with
  |zero=>have:=hS.run;cases this
  |succ f=>
  by_cases hin:id∈seen
  ·rw[if_pos hin] at hlk
   replace hlk:(Instr.lookup 178 (.map (some w.heap.size)) (.int .u64 (id:Int)) false).run Tryz.prog wr= .ok (.bool true) wr:=hlk;have hrun:=hS.run;rw[El,if_pos hin] at hrun;have hrun:out=R:=Option.some.inj hrun;clear hS;go_wp2;go_ret;exact⟨⟨_,rfl,hrun ▸ HS.out.own⟩,HS.out.bel⟩
  ·rw[if_neg hin] at hlk
   replace hlk:(Instr.lookup 178 (.map (some w.heap.size)) (.int .u64 (id:Int)) false).run Tryz.prog wr= .ok (.bool false) wr:=hlk;have hrun:=hS.run;rw[El,if_neg hin] at hrun;obtain⟨W2,hrun2,hU2,hg2⟩:=hS.mp.put (t:=178) BL Tryz.underlying178 (fun x y h=>by injection h with _ h;exact Int.ofNat.inj h) (by have:=hS.cnt;unfold Jp;simp;omega) id ⟨_,BJ hS.lt⟩ (.bool true);replace hrun2:(Instr.mapUpdate 178 (.map (some w.heap.size)) (.int .u64 (id:Int)) (.bool true)).run Tryz.prog wr= .ok () W2:=hrun2;have hf2:Fr (fun q=>q=w.heap.size) wr W2:=Fr.Y1 hg2 (fun q e=>by injection e with e;exact e.symm);have HO2:=zz (show W2.ownsRow w.heap.size 45 1 v out.length (out.map idV) from Am hS.own hf2 (fun q e e'=>by
    obtain⟨es,ck,hm⟩:=hS.mp.obj;rcases Cs hS.own hm with h|h
    ·rw[h] at e;cases e
    ·exact h (e' ▸ e)))
   have hb2:Below w.heap.size w W2:=hS.bel.trans ((hf2.imp (D':=fun q=>w.heap.size≤q) (fun q _ e=>by omega)).below' hS.bel.size);have HB2:=zz hb2;have HU2:=zz (show IMap W2 w.heap.size (Jp (id::seen)) from hU2);have TP:=zz (HP.out.call (HA.out.below hb2) id);have hpar:=HP.out.par id;generalize par id=pk at TP hrun hpar;obtain⟨p,k⟩:=pk;dsimp only at TP hrun hpar;have hcn:=hS.cnt;have hol:=hS.out;clear hS hU2 hg2 hf2 hb2;go_wp2_with fail;refine TP.out.mono ?_;rintro e W3 ⟨rfl,hpl,hb3⟩;have HB3:=zz (HB2.out.trans (hb3.mono HB2.out.size));have HO3:=zz (Am HO2.out (Fr.of_below (D:=fun _=>False) hb3) (fun _ _ e=>e));have HU3:=zz (HU2.out.fr (Fr.of_below (D:=fun _=>False) hb3) (fun e=>e));have hget:∀o,M p=o→Calls Tryz.prog 55 #[.pointer (some ⟨ab,0,none⟩),.int .u64 (p:Int)] W3 (Hf W3 o):=fun o e=>e ▸ (HA.out.below HB3.out).get hpl;clear TP hb3 hlk hrun2;cases hM:M p with
   |none=>
     rw[hM] at hrun;have hrun:out=R:=Option.some.inj hrun;have TG:=zz (hget none hM);clear hget;go_wp2_with fail;refine TG.out.mono ?_;rintro e W4 ⟨ka,kc,rfl,ho4,hb4⟩;have HB4:=zz (HB3.out.trans (hb4.mono HB3.out.size));have HO4:=zz (Am HO3.out (Fr.of_below (D:=fun _=>False) hb4) (fun _ _ e=>e));clear TG ho4 hb4;go_wp2;go_ret;exact⟨⟨_,rfl,hrun ▸ HO4.out.alloc _⟩,HB4.out.alloc HB4.out.size _⟩
   |some n=>
     rw[hM] at hrun;dsimp only at hrun;have hk0:0≤k∧idxI n.kids id=k:=by
      rcases hpar with⟨h1,h2,h3⟩|⟨h1,h2,⟨nd,hn,h3,h4⟩,h5⟩
      ·rw[h1,HP.out.zero] at hM;cases hM
      ·rw[hM] at hn;injection hn with hn;subst hn;exact⟨h4,h3⟩
     obtain⟨kn,rfl⟩:∃kn:Nat,k=(kn:Int):=⟨k.toNat,by omega⟩;have hkl:kn < n.kids.length:=Xn n.kids id kn hk0.2;have hnl:n.kids.length≤1000000:=by have:=(HA.out.below HB3.out).len p;unfold ndAt at this;rw[hM] at this;exact this
     have hnk:=HA.out.2 p n hM;have TG:=zz (hget (some n) hM);have hrun:El M par f p (id::seen) (Jq M n kn++out)=some R:=hrun;have HRUN:=zz hrun;have HNK:=zz hnk;clear hget hpar hk0 hrun hnk;go_wp2_with fail;refine TG.out.mono ?_;rintro e W4 ⟨ka,kc,rfl,ho4,hb4⟩;have HB4:=zz (HB3.out.trans (hb4.mono HB3.out.size));obtain⟨g,rfl⟩:∃g,ka=some ⟨g,0,none⟩:=by
      rcases ho4.2 with⟨h1,h2⟩|⟨g,cap,cur,hv,_⟩
      ·have h2:n.kids.length=0:=h2
       omega
      ·injection hv with e1;exact⟨g,e1⟩
     have hcap:n.kids.length≤kc:=(by obtain⟨c9,e,h,_⟩:=IC ho4 rfl;injection e with _ _ e;have h:n.kids.length≤c9:=h;omega);have hcap2:kn≤kc:=by omega
     have hW5:Below W4.heap.size W4 (W4.alloc (.cells (AZ n (some ⟨g,0,none⟩) kc) 48)):=(AL).alloc AA _;have hnew:=AX W4 (.cells (AZ n (some ⟨g,0,none⟩) kc) 48);have HB5:=zz (HB4.out.alloc HB4.out.size (.cells (AZ n (some ⟨g,0,none⟩) kc) 48));have HO5:=zz ((Am HO3.out (Fr.of_below (D:=fun _=>False) hb4) (fun _ _ e=>e)).alloc (.cells (AZ n (some ⟨g,0,none⟩) kc) 48));have HU5:=zz ((HU3.out.fr (Fr.of_below (D:=fun _=>False) hb4) (fun e=>e)).fr (Fr.of_below (D:=fun _=>False) hW5) (fun e=>e));have HS5:=zz (Sl.Aj (Jt (ho4.alloc (.cells (AZ n (some ⟨g,0,none⟩) kc) 48)) (show kn≤n.kids.length by omega)));have hks:IntKind.i64.wrap (kn:Int)=(kn:Int):=IntWalk.i64_in _ (by omega);clear TG ho4 hb4 hW5;go_wp2;obtain⟨W5,hW5⟩:∃W5,W4.alloc (.cells (AZ n (some ⟨g,0,none⟩) kc) 48)=W5:=⟨_,rfl⟩;have hz5:W4.heap.size < W5.heap.size:=by rw[←hW5];simp
     simp only[AZ] at HB5 HO5 HU5 HS5 hnew hW5;rw[hW5] at HB5 HO5 HU5 HS5 hnew⊢;generalize hnb:W4.heap.size=nbk at hnew hz5⊢;clear hnb hW5;have HNW:=zz hnew;clear hnew;rw[←List.map_take] at HS5
     go_loopw [12,44] (fun p q wr=>∃(i:Nat) (u:Value),p=u∧q= .int .i64 (i:Int)∧i≤kn∧wr.ownsRow W5.heap.size 45 1 u (((n.kids.take kn).take i).filter (DC M n)).length ((((n.kids.take kn).take i).filter (DC M n)).map idV)∧Below W5.heap.size W5 wr) (fun _ q wr=>kn-(intOf q).toNat)
     case atStart=>exact⟨0,_,rfl,rfl,Nat.zero_le _,⟨rfl,.inl ⟨rfl,rfl⟩⟩,AL⟩
     case round=>
      obtain⟨i,u,hu,rfl,hi,hou,hb6⟩:=hrel;have hu:=hu.symm;subst hu;have HOU:=zz hou;have HB6:=zz hb6;have hlk:(n.kids.take kn).length=kn:=by rw[List.length_take];omega
      by_cases hlt:i < kn
      ·obtain⟨b,o,hbo,_,kcl⟩:=(show Sl W5 W5.heap.size (.slice (some ⟨g,0,none⟩) kn kc) (n.kids.take kn).length ((n.kids.take kn).map idV) from by rw[hlk];exact HS5.out).below HB6.out AA|>.mapAt (show i < (n.kids.take kn).length by omega)
       injection hbo with hbo;injection hbo with hbo1 hbo2;subst hbo1;subst hbo2;rw[Nat.zero_add] at kcl;have hxm:(n.kids.take kn)[i]∈n.kids:=List.mem_of_mem_take (List.getElem_mem _);have htk:(n.kids.take kn).take (i+1)=(n.kids.take kn).take i++[(n.kids.take kn)[i]]:=List.take_succ_eq_append_getElem (by omega);generalize(n.kids.take kn)[i]=x at kcl hxm htk;have hxl:=HNK.out x hxm;have HTK:=zz htk;have TGx:=zz ((HA.out.below (HB5.out.trans (hb6.mono HB5.out.size))).getN hxl);have hnwr:wr.heap[nbk]? =some (.cells (AZ n (some ⟨g,0,none⟩) kc) 48 (0,0)):=(hb6.block nbk hz5).trans HNW.out;have e0:=AJ wr nbk 0 _ _ (0,0) hnwr;simp at e0;clear hou hb6 htk hxm;go_wp2_with fail;refine TGx.out.mono ?_;rintro e w2 ⟨kax,kcx,rfl,hox,hbx⟩;have HB8:=zz (HB6.out.trans (hbx.mono HB6.out.size));have HOU:=zz (Am HOU.out (Fr.of_below (D:=fun _=>False) hbx) (fun _ _ e=>e));have hnw2:w2.heap[nbk]? =some (.cells (AZ n (some ⟨g,0,none⟩) kc) 48 (0,0)):=(HB8.out.block nbk hz5).trans HNW.out;have d0:=AJ w2 nbk 0 _ _ (0,0) hnw2;simp at d0;have hz8:=HB8.out.size;have hnl2:nbk < w2.heap.size:=(Ab.1 hnw2).1;have hPX:DC M n x=((decide (n.kind=5) && decide ((ndAt M x).kind=6))||(decide (n.kind=3) && decide ((ndAt M x).kind=4))):=rfl;generalize ndAt M x=m at hPX;generalize hps:DC M n x=ps at hPX;have HPX:=zz hps;have hfl:(((n.kids.take kn).take i).filter (DC M n)).length≤1000000:=by
        have h1:=List.length_filter_le (DC M n) ((n.kids.take kn).take i);have h2:((n.kids.take kn).take i).length≤kn:=by simp;omega
        omega
       clear TGx hox hbx hnwr e0 hnw2 hps;by_cases n5:n.kind=5
       ·have q5:((n.kind:Int)==5)=true:=by simp[n5]
        have q3:((n.kind:Int)==3)=false:=by simp[n5]
        by_cases m6:m.kind=6
        ·have q6:((m.kind:Int)==6)=true:=by simp[m6]
         have hp2:ps=true:=by rw[hPX];simp[n5,m6]
         subst hp2;clear hPX n5 m6
         go_wp2_with (at_builtin;refine wpList_append_own_at _ rfl (.tmp 72) (.tmp 74) _ rfl W5.heap.size 45 j0 _ 1 8 Tryz.underlying46 hj hj0 hj1 hj2 rfl (by decide) _ (((n.kids.take kn).take i).filter (DC M n)).length ((((n.kids.take kn).take i).filter (DC M n)).map idV) rfl ((HOU.out.alloc _).alloc _) ⟨w2.heap.size+1,0,none⟩ 1 1 [idV x] rfl rfl ?_ ?_ ?_ ?_ ?_ ?_)
         all_goals first
          |intro v3 W3' own3 g3 _ at3
          |exact Jc _ _ _ _
          |(unfold maxLen;omega)
          |omega
          |(simp;omega)
          |(intro u hu;simp only[List.mem_singleton] at hu;subst hu;rfl)
         have HOU3:=zz (show W3'.ownsRow W5.heap.size 45 1 v3 (((n.kids.take kn).take (i+1)).filter (DC M n)).length ((((n.kids.take kn).take (i+1)).filter (DC M n)).map idV) from by
          rw[HTK.out,List.filter_append];simp only[List.filter_cons,HPX.out,if_true,List.filter_nil];rw[List.map_append,List.length_append];exact own3)
         have HB9:=zz (((HB8.out.alloc HB8.out.size _).alloc (by have:=HB8.out.size;simp;omega) _).grown g3 (by have:=HB8.out.size;simp;omega) (fun q hq=>(HOU.out.lt q hq).1));clear own3 g3 at3;go_wp2;go_roundw
         case rel=>exact⟨i+1,v3,rfl,by go_num,by omega,HOU3.out,HB9.out⟩
         case measure=>simp[intOf];omega
        ·have q6:((m.kind:Int)==6)=false:=by simp;omega
         have hp2:ps=false:=by rw[hPX];simp[n5,m6]
         subst hp2;clear hPX n5 m6;have HOU3:=zz (show w2.ownsRow W5.heap.size 45 1 u (((n.kids.take kn).take (i+1)).filter (DC M n)).length ((((n.kids.take kn).take (i+1)).filter (DC M n)).map idV) from by
          rw[HTK.out,List.filter_append];simp only[List.filter_cons,HPX.out,if_false,List.filter_nil,List.append_nil,Bool.false_eq_true];exact HOU.out)
         go_wp2;go_roundw
         case rel=>exact⟨i+1,u,rfl,by go_num,by omega,HOU3.out.alloc _,HB8.out.alloc HB8.out.size _⟩
         case measure=>simp[intOf];omega
       ·have q5:((n.kind:Int)==5)=false:=by simp;omega
        by_cases n3:n.kind=3
        ·have q3:((n.kind:Int)==3)=true:=by simp[n3]
         by_cases m4:m.kind=4
         ·have q4:((m.kind:Int)==4)=true:=by simp[m4]
          have hp2:ps=true:=by rw[hPX];simp[n3,m4]
          subst hp2;clear hPX n5 n3 m4
          go_wp2_with (at_builtin;refine wpList_append_own_at _ rfl (.tmp 72) (.tmp 74) _ rfl W5.heap.size 45 j0 _ 1 8 Tryz.underlying46 hj hj0 hj1 hj2 rfl (by decide) _ (((n.kids.take kn).take i).filter (DC M n)).length ((((n.kids.take kn).take i).filter (DC M n)).map idV) rfl ((HOU.out.alloc _).alloc _) ⟨w2.heap.size+1,0,none⟩ 1 1 [idV x] rfl rfl ?_ ?_ ?_ ?_ ?_ ?_)
          all_goals first
           |intro v3 W3' own3 g3 _ at3
           |exact Jc _ _ _ _
           |(unfold maxLen;omega)
           |omega
           |(simp;omega)
           |(intro u hu;simp only[List.mem_singleton] at hu;subst hu;rfl)
          have HOU3:=zz (show W3'.ownsRow W5.heap.size 45 1 v3 (((n.kids.take kn).take (i+1)).filter (DC M n)).length ((((n.kids.take kn).take (i+1)).filter (DC M n)).map idV) from by
           rw[HTK.out,List.filter_append];simp only[List.filter_cons,HPX.out,if_true,List.filter_nil];rw[List.map_append,List.length_append];exact own3)
          have HB9:=zz (((HB8.out.alloc HB8.out.size _).alloc (by have:=HB8.out.size;simp;omega) _).grown g3 (by have:=HB8.out.size;simp;omega) (fun q hq=>(HOU.out.lt q hq).1));clear own3 g3 at3;go_wp2;go_roundw
          case rel=>exact⟨i+1,v3,rfl,by go_num,by omega,HOU3.out,HB9.out⟩
          case measure=>simp[intOf];omega
         ·have q4:((m.kind:Int)==4)=false:=by simp;omega
          have hp2:ps=false:=by rw[hPX];simp[n3,m4]
          subst hp2;clear hPX n5 n3 m4;have HOU3:=zz (show w2.ownsRow W5.heap.size 45 1 u (((n.kids.take kn).take (i+1)).filter (DC M n)).length ((((n.kids.take kn).take (i+1)).filter (DC M n)).map idV) from by
           rw[HTK.out,List.filter_append];simp only[List.filter_cons,HPX.out,if_false,List.filter_nil,List.append_nil,Bool.false_eq_true];exact HOU.out)
          go_wp2;go_roundw
          case rel=>exact⟨i+1,u,rfl,by go_num,by omega,HOU3.out.alloc _,HB8.out.alloc HB8.out.size _⟩
          case measure=>simp[intOf];omega
        ·have q3:((n.kind:Int)==3)=false:=by simp;omega
         have hp2:ps=false:=by rw[hPX];simp[n5,n3]
         subst hp2;clear hPX n5 n3;have HOU3:=zz (show w2.ownsRow W5.heap.size 45 1 u (((n.kids.take kn).take (i+1)).filter (DC M n)).length ((((n.kids.take kn).take (i+1)).filter (DC M n)).map idV) from by
          rw[HTK.out,List.filter_append];simp only[List.filter_cons,HPX.out,if_false,List.filter_nil,List.append_nil,Bool.false_eq_true];exact HOU.out)
         go_wp2;go_roundw
         case rel=>exact⟨i+1,u,rfl,by go_num,by omega,HOU3.out.alloc _,HB8.out.alloc HB8.out.size _⟩
         case measure=>simp[intOf];omega
      ·obtain rfl:i=kn:=by omega
       have hsl:(n.kids.take i).take i=n.kids.take i:=List.take_of_length_le (by simp;omega);rw[hsl] at HOU;have HB10:=zz (HB5.out.trans (hb6.mono HB5.out.size));have HO10:=zz (Sl.Aj (Am HO5.out (Fr.of_below (D:=fun _=>False) hb6) (fun _ _ e=>e)));have HU10:=zz (HU5.out.fr (Fr.of_below (D:=fun _=>False) hb6) (fun e=>e));have hfl:((n.kids.take i).filter (DC M n)).length≤1000000:=by
        have h1:=List.length_filter_le (DC M n) (n.kids.take i);have h2:(n.kids.take i).length≤i:=by simp;omega
        omega
       have hz6:=hb6.size;have hwz:w.heap.size < W5.heap.size:=by have:=HU5.out.lt;omega
       clear hou hb6 hsl hlk
       go_wp2_with (at_builtin;refine Bd _ rfl (.tmp 77) (.tmp 78) _ rfl W5.heap.size 45 j0 _ 8 Tryz.underlying46 hj hj0 hj1 hj2 rfl _ ((n.kids.take i).filter (DC M n)).length (((n.kids.take i).filter (DC M n)).map idV) rfl HOU.out wr.heap.size _ out.length (out.map idV) rfl HO10.out ?_ (FJ _) ?_ ?_ ?_ ?_)
       all_goals first
        |intro v7 W7 own7 g7 at7
        |(simp;done)
        |(unfold maxLen;omega)
        |omega
       have HS7:=zz (show SnSt M par F w.heap.size R w f v7 p W7 (id::seen) (Jq M n i++out) from by
        have hf7:Fr (fun q=>W5.heap.size≤q) _ W7:=Fr.Y1 g7 (fun q e=>(HOU.out.lt q e).1);refine⟨?_,HU10.out.fr hf7 (fun e=>by omega),HB10.out.trans ((hf7.imp (D':=fun q=>w.heap.size≤q) (fun q _ e=>by omega)).below' HB10.out.size),AA,HRUN.out,by simp;omega, ?_,hpl⟩
        ·rw[List.length_append,List.map_append]
         exact CQ own7 (by omega)
        ·rw[List.length_append,List.length_cons]
         unfold Jq;omega)
       clear own7 g7 at7;go_wp2;go_roundw
       case rel=>exact⟨v7,p,rfl,rfl,f,_,_,HS7.out⟩
       case measure=>
        rw[HF0.out];refine Nat.lt_succ_of_le (Hg.IL ?_);exact⟨p,_,_,rfl,HS7.out⟩
attribute [local go_sem] Oper.semAt_some
theorem KH(B:Nat)(v:Value)(ids:List Nat)(id:Nat)(w:World)(hs:Sl w B v ids.length (ids.map idV))(hl:ids.length≤1000000000000)(hl2:ids.length≤1000000):
 Calls Tryz.prog 97 #[v,.int .u64 (id:Int)] w fun e w'=>e= .returned (.bool (decide (0≤idxI ids id)))∧w=w':=by
 have TI:=zz (Nt B v ids id w hs hl2);clear hs;go_enter Tryz.func97,Tryz.ntmps97;go_wp2_with fail;refine TI.out.mono ?_;rintro e w1 ⟨rfl,rfl⟩;clear TI;go_wp2;go_ret;exact⟨rfl,rfl⟩
theorem La{P:Program}{c:Code}{K:Act→World→Prop}{Q':Exit→Act→World→Prop}{a:Act}{w:World}(h:c.wp P (Exit.then K (fun _ _ _=>False)) a w):c.wp P (Exit.then K Q') a w:=
 wp_mono h (fun e a w h=>by cases e <;>first|exact h|exact h.elim)
def BoxI(ab B:Nat)(S:Nat→Prop)(A:World):Prop:=A.heap[B]? =some (.cells #[.pointer (some ⟨ab,0,none⟩)] 25 (0,0))∧(∃r,A.heap[B+1]? =some (.cells #[r] 4 (0,0)))∧∀q,S q↔q=B∨q=B+1
theorem BoxI.fr{ab B:Nat}{S:Nat→Prop}{A A':World}(h:BoxI ab B S A)(hf:Fr (fun q=>¬S q) A A'):BoxI ab B S A':=by
 obtain⟨h1,⟨r,h2⟩,h3⟩:=h;exact⟨hf.at_ h1 (fun h=>h ((h3 B).2 (.inl rfl))),⟨r,hf.at_ h2 (fun h=>h ((h3 (B+1)).2 (.inr rfl)))⟩,h3⟩
theorem BoxI.lt{ab B:Nat}{S:Nat→Prop}{A:World}(h:BoxI ab B S A):∀q,S q→B≤q∧q < A.heap.size:=by
 obtain⟨h1,⟨r,h2⟩,h3⟩:=h;intro q hq;have l1:=(Ab.1 h1).1;have l2:=(Ab.1 h2).1;rcases(h3 q).1 hq with e|e <;>subst e <;>exact⟨by omega,by omega⟩
def hidA(p1 p2 p3 p4:Value)(a:Act):Prop:=∃u0 u5 u6 u7 u8 u9 u10 u11 u12 u13 u14 u15 u16 u17 u18 u19 u20 u21 u22 u23 u24 u25 u26 u27:Value,a={tmps:= #[u0,p1,p2,p3,p4,u5,u6,u7,u8,u9,u10,u11,u12,u13,u14,u15,u16,u17,u18,u19,u20,u21,u22,u23,u24,u25,u26,u27],defers:=[]}
def HidR(ab B:Nat)(S:Nat→Prop)(x:Au)(a:Act)(A:World):Prop:=
 ∃S0 blk,BoxI ab B S0 A∧hidA (.pointer (some ⟨B,0,none⟩)) (.pointer (some ⟨B+1,0,none⟩)) (idV x.id) (.pointer (some ⟨blk,0,none⟩)) a∧A.heap[blk]? =some (.cells (AZ x.nd x.ka x.kc) 48 (0,0))∧(∀q,S q↔S0 q∨q=blk)∧¬S0 blk
theorem RZ(ab:Nat)(M:Nat→Option Hg.Node)(par:Nat→Nat×Int)(hp:LY M par)(F F2:Nat)(xs:List (Nat×Hg.Node))(w:World)(hA:ArOk w ab M)(hxs:wk M F [1] []=some xs)(hF:F≤1000000)(hF2:F2≤1000000)(hid:∀x∈xs,x.1 < Ah)
 (hall:∀x∈xs,x.2.kind=15∨x.2.kind=7→∃R,El M par F2 x.1 [] []=some R∧0≤idxI R x.2.ref∧R.length≤1000000):
 Calls Tryz.prog 49 #[.pointer (some ⟨ab,0,none⟩)] w fun e w'=>e= .returned (.bool false)∧Below w.heap.size w w':=by
 have HA:=zz hA;have HP:=zz hp;have HALL:=zz (And.intro hid hall);have TW:=zz (Jf ab 1);have TR:=zz (H9 ab);clear hp hid hall;refine(callsIn_wide (n:=5)).1 (callsIn_of_wp_marks Tryz.func49 rfl trivial ?_ rfl);simp only[Tryz.ntmps49,List.size_toArray,List.length_cons,List.length_nil,Nat.reduceAdd,Nat.reduceSub,Array.replicate_succ,Array.replicate_zero,List.push_toArray,List.append_toArray,List.nil_append,List.cons_append];gi_wp2;refine wpIn_wide.2 (La ?_);have hb0:Below w.heap.size w ((w.alloc (.cells #[.pointer (some ⟨ab,0,none⟩)] 25)).alloc (.cells #[.bool false] 4)):=((AL).alloc AA _).alloc (by simp) _;have h0:((w.alloc (.cells #[.pointer (some ⟨ab,0,none⟩)] 25)).alloc (.cells #[.bool false] 4)).heap[w.heap.size]? =some (.cells #[.pointer (some ⟨ab,0,none⟩)] 25 (0,0)):=(heap_alloc_old _ _ (by simp)).trans (AX w _);have h1:((w.alloc (.cells #[.pointer (some ⟨ab,0,none⟩)] 25)).alloc (.cells #[.bool false] 4)).heap[w.heap.size+1]? =some (.cells #[.bool false] 4 (0,0)):=by
  have:=AX (w.alloc (.cells #[.pointer (some ⟨ab,0,none⟩)] 25)) (.cells #[.bool false] 4);rw[show(w.alloc (.cells #[.pointer (some ⟨ab,0,none⟩)] 25)).heap.size=w.heap.size+1 by simp] at this;exact this
 have hz:((w.alloc (.cells #[.pointer (some ⟨ab,0,none⟩)] 25)).alloc (.cells #[.bool false] 4)).heap.size=w.heap.size+2:=by simp
 generalize World.alloc (World.alloc w _) _=W0 at hb0 h0 h1 hz⊢;have e0:=AJ W0 w.heap.size 0 _ _ (0,0) h0;simp at e0;have hHeld:(fun w'=>w'.cell? ⟨w.heap.size,0,none⟩=some (.pointer (some ⟨ab,0,none⟩))) W0.drew:=e0;refine Ap (fun w'=>w'.cell? ⟨w.heap.size,0,none⟩=some (.pointer (some ⟨ab,0,none⟩))) 3 (by kernel_rfl) ?_;refine tz 0 ?_;refine tz 1 ?_;refine AU (i:=2) rfl (by kernel_rfl) (fun K hK=> ?_);go_simp;refine(TR.out _).mono ?_;rintro e w1 ⟨rfl,rfl⟩;refine hK.out _ _ (hHeld) (fun hHeld=> ?_);clear hK K
 try simp only[Act.put,sA,sB,sC,sD,sE,sF]
 refine Ag (by kernel_rfl) ?_;simp only[List.drop_succ_cons,List.drop_zero];go_wp2_with fail;refine(TW.out _).mono ?_;rintro e w1 ⟨rfl,rfl⟩;have hz':W0.drew.heap.size=w.heap.size+2:=hz;rw[hz'];have hbW:Below W0.heap.size W0 ((W0.drew.alloc (.cells #[.pointer (some ⟨ab,0,none⟩)] 25)).alloc (.cells #[idV 1] 45)):=(((AL).drew).alloc AA _).alloc (by simp) _;have k1:((W0.drew.alloc (.cells #[.pointer (some ⟨ab,0,none⟩)] 25)).alloc (.cells #[idV 1] 45)).heap[w.heap.size+2]? =some (.cells #[.pointer (some ⟨ab,0,none⟩)] 25 (0,0)):=by
  have:=AX W0.drew (.cells #[.pointer (some ⟨ab,0,none⟩)] 25);rw[hz'] at this;exact(heap_alloc_old _ _ (by simp[hz'])).trans this
 have k2:((W0.drew.alloc (.cells #[.pointer (some ⟨ab,0,none⟩)] 25)).alloc (.cells #[idV 1] 45)).heap[w.heap.size+2+1]? =some (.cells #[idV 1] 45 (0,0)):=by
  have:=AX (W0.drew.alloc (.cells #[.pointer (some ⟨ab,0,none⟩)] 25)) (.cells #[idV 1] 45);rw[show(W0.drew.alloc (.cells #[.pointer (some ⟨ab,0,none⟩)] 25)).heap.size=w.heap.size+2+1 by simp[hz']] at this;exact this
 have hzW:((W0.drew.alloc (.cells #[.pointer (some ⟨ab,0,none⟩)] 25)).alloc (.cells #[idV 1] 45)).heap.size=w.heap.size+4:=by simp[hz']
 generalize World.alloc (World.alloc W0.drew _) _=W1 at hbW k1 k2 hzW⊢;have g0:W1.heap[w.heap.size]? =some (.cells #[.pointer (some ⟨ab,0,none⟩)] 25 (0,0)):=(hbW.block _ (by omega)).trans h0;have g1:W1.heap[w.heap.size+1]? =some (.cells #[.bool false] 4 (0,0)):=(hbW.block _ (by omega)).trans h1;have hb1:Below w.heap.size w W1:=hb0.trans (hbW.mono (by omega));obtain⟨⟨mb,c,hAr⟩,hkb⟩:=HA.out;have hseq:=Hw ab mb c M w.heap.size 1 (w.heap.size+2+1) (w.heap.size+2) F xs W1 (fun W' hf=>hAr.below (hb1.trans (hf.below' (by omega))) AA) (AJ W1 (w.heap.size+2+1) 0 _ _ (0,0) k2) (AJ W1 (w.heap.size+2) 0 _ _ (0,0) k1) ⟨by omega,by omega,by omega,by omega⟩ (by decide) hkb hxs hF;have HB1:=zz hb1;have HARW:=zz (show∀W',Fr (fun q=>w.heap.size≤q) W1 W'→ArOk W' ab M from fun W' hf=>HA.out.below (hb1.trans (hf.below' (by omega))));clear hA hAr hkb k1 k2 hHeld h0 h1 hb0 hbW e0 TW TR hb1;go_wp2;gi_wp2;refine GI (gf:=129) rfl (enters_of Tryz.func129 (by kernel_rfl) rfl) hseq (Fr.refl _ _) rfl (fun q h=>by rcases h with h|h <;>omega) (by omega)
  (fun S _ A=>BoxI ab w.heap.size S A) (fun _ _ _ _=>False) (fun S _ x a A=>HidR ab w.heap.size S x a A) (fun S pre A A' h hf=>h.fr hf) (fun _ _ _ _ _ h _=>h) ?hI1 (fun S pre A h q hq=>(h.lt q hq).2) ?hI1l
  (fun q=>q=w.heap.size∨q=w.heap.size+1) ⟨g0,⟨_,g1⟩,fun q=>Iff.rfl⟩ (fun q e=>by rcases e with e|e <;>subst e <;>exact⟨by omega,by omega,by omega⟩) ?assign ?body ?done ?stop
 case hI1=>
  rintro S pre x a A A' ⟨S0,blk,hi,ha,hb,hS,hn⟩ hf;exact⟨S0,blk,hi.fr (hf.imp (fun q _ h h'=>h (.inl ((hS q).2 (.inl h'))))),ha,hf.at_ hb (fun h=>h (.inl ((hS blk).2 (.inr rfl)))),hS,hn⟩
 case hI1l=>
  rintro S pre x a A ⟨S0,blk,hi,ha,hb,hS,hn⟩ q hq;rcases(hS q).1 hq with h|h
  ·exact(hi.lt q h).2
  ·subst h;exact(Ab.1 hb).1
 case assign=>
  intro l m S pre x A K hi hpre hx hkb hf hK;gi_wp2;refine hK (fun q=>S q∨q=A.heap.size) _ _ ⟨S,A.heap.size,hi.fr ((Fr.refl _ _).alloc _), ?_,AX A _,fun q=>Iff.rfl,fun h=>by have:=(hi.lt _ h).2;omega⟩ ((Fr.refl _ _).alloc _) (fun q h=>h.imp (fun h=>h) (fun h=>by omega));exact⟨_,_,_,_,_,_,_,_,_,_,_,_,_,_,_,_,_,_,_,_,_,_,_,_,rfl⟩
 case body=>
  rintro l m S pre x a1 A ⟨S0,blk,⟨hbx,⟨r0,hbr⟩,hSv⟩,ha,hb,hS,hn⟩ hpre hf;obtain⟨u0,u5,u6,u7,u8,u9,u10,u11,u12,u13,u14,u15,u16,u17,u18,u19,u20,u21,u22,u23,u24,u25,u26,u27,rfl⟩:=ha;have hxm:x.strip∈xs:=hpre.subset (by simp);have hf2:Fr (fun q=>w.heap.size≤q) W1 A:=hf.imp (fun q _ e=>by rcases e with(e|e)|e|e <;>omega);have HAA:=zz (HARW.out A hf2);have HX:=zz (And.intro (HALL.out.1 x.strip hxm) (HALL.out.2 x.strip hxm));have e0:=AJ A blk 0 _ _ (0,0) hb;have e4:=AJ A blk 4 _ _ (0,0) hb;have eB:=AJ A w.heap.size 0 _ _ (0,0) hbx;have hbl:=(Ab.1 hb).1;have hBl:=(Ab.1 hbx).1;simp at e0 e4 eB;have hnx:¬(fun _:Nat=>False) w.heap.size:=fun h=>h;have hnr:¬(fun _:Nat=>False) (w.heap.size+1):=fun h=>h;generalize hnd:x.nd=nd at e0 e4;generalize hxi:x.id=xi;have hX:xi < Ah∧(nd.kind=15∨nd.kind=7→∃R,El M par F2 xi [] []=some R∧0≤idxI R nd.ref∧R.length≤1000000):=by
   have:=HX.out;rw[←hnd,←hxi];exact this
  have hHeld:(fun w'=>w'.cell? ⟨w.heap.size,0,none⟩=some (.pointer (some ⟨ab,0,none⟩))∧w'.cell? ⟨blk,0,none⟩=some (.int .u8 (nd.kind:Int))∧w'.cell? ⟨blk,4,none⟩=some (.int .u64 (nd.ref:Int))) A.drew:=⟨eB,e0,e4⟩;clear HX hpre hf hf2 hxm;gi_wp2;by_cases hk:nd.kind=15∨nd.kind=7
  ·obtain⟨R,hR,hix,hRl⟩:=hX.2 hk
   have hdi:decide (0≤idxI R nd.ref)=true:=by simpa using hix
   have TS:=zz (Vb ab M par HP.out xi F2 R A.drew (HAA.out.below (AL).drew) hX.1 hR hF2);by_cases k15:nd.kind=15
   ·have q15:((nd.kind:Int)==15)=true:=by simp[k15]
    clear hk k15 hR hix;refine CX (fun w'=>w'.cell? ⟨w.heap.size,0,none⟩=some (.pointer (some ⟨ab,0,none⟩))∧w'.cell? ⟨blk,0,none⟩=some (.int .u8 (nd.kind:Int))∧w'.cell? ⟨blk,4,none⟩=some (.int .u64 (nd.ref:Int))) 16 (by kernel_rfl) (by kernel_rfl) (by rintro⟨_,_,h⟩;exact h) ?_;refine tz 0 ?_;refine tz 1 ?_;refine tz 2 ?_;refine tz 3 ?_;refine Ac (i:=4) rfl (by kernel_rfl) (fun _ _ _ h=>h) (by assumption) (Or.inr ⟨by rfl,rfl⟩) ?_
    try simp only[Act.put,sA,sB,sC,sD,sE,sF]
    refine Ac (i:=5) rfl (by kernel_rfl) (fun _ _ _ h=>h) (by assumption) (Or.inr ⟨by rfl,rfl⟩) ?_
    try simp only[Act.put,sA,sB,sC,sD,sE,sF]
    refine Ac (i:=6) rfl (by kernel_rfl) (fun _ _ _ h=>h) (by assumption) (Or.inr ⟨by rfl,rfl⟩) ?_
    try simp only[Act.put,sA,sB,sC,sD,sE,sF]
    refine tz 7 ?_;refine tz 8 ?_;refine tz 9 ?_;refine tz 10 ?_;refine tz 12 ?_;refine tz 13 ?_;refine AU (i:=11) rfl (by kernel_rfl) (fun K hK=> ?_);go_simp;refine TS.out.mono ?_;rintro e W5 ⟨⟨v5,rfl,ho5⟩,hb5⟩;have HO5:=zz ho5;have HB5:=zz hb5;clear ho5 TS;refine hK.out _ _ (⟨(hb5.cell (p:=⟨w.heap.size,0,none⟩) hBl).trans hHeld.1,(hb5.cell (p:=⟨blk,0,none⟩) hbl).trans hHeld.2.1,(hb5.cell (p:=⟨blk,4,none⟩) hbl).trans hHeld.2.2⟩) (fun hHeld=> ?_);clear hK K
    try simp only[Act.put,sA,sB,sC,sD,sE,sF]
    refine AU (i:=14) rfl (by kernel_rfl) (fun K hK=> ?_);go_simp;have TC:=KH W5.heap.size v5 R nd.ref W5 (Sl.Aj HO5.out) (by omega) hRl;rw[hdi] at TC;refine TC.mono ?_;rintro e W6 ⟨rfl,rfl⟩;refine hK.out _ _ (hHeld) (fun hHeld=> ?_);clear hK K
    try simp only[Act.put,sA,sB,sC,sD,sE,sF]
    refine tz 15 ?_;refine Ag (by kernel_rfl) ?_;simp only[List.drop_succ_cons,List.drop_zero];have HFA:Fr (fun _=>False) A W5:=(Fr.refl _ A).drew.trans (Fr.of_below HB5.out);have HFR:=zz HFA;clear HFA;go_wp2;gi_wp2;exact⟨S0,⟨HFR.out.at_ hbx hnx,⟨r0,HFR.out.at_ hbr hnr⟩,hSv⟩,HFR.out.imp (fun q _ e=>e.elim),fun q h=> .inl ((hS q).2 (.inl h))⟩
   ·have q15:((nd.kind:Int)==15)=false:=by simp;omega
    have q7:((nd.kind:Int)==7)=true:=by
     have:nd.kind=7:=by omega
     simp[this]
    clear hk k15 hR hix;refine CX (fun w'=>w'.cell? ⟨w.heap.size,0,none⟩=some (.pointer (some ⟨ab,0,none⟩))∧w'.cell? ⟨blk,0,none⟩=some (.int .u8 (nd.kind:Int))∧w'.cell? ⟨blk,4,none⟩=some (.int .u64 (nd.ref:Int))) 16 (by kernel_rfl) (by kernel_rfl) (by rintro⟨_,_,h⟩;exact h) ?_;refine tz 0 ?_;refine tz 1 ?_;refine tz 2 ?_;refine tz 3 ?_;refine tz 4 ?_;refine tz 5 ?_;refine tz 6 ?_;refine tz 7 ?_;refine tz 8 ?_;refine tz 9 ?_;refine tz 10 ?_;refine tz 12 ?_;refine tz 13 ?_;refine AU (i:=11) rfl (by kernel_rfl) (fun K hK=> ?_);go_simp;refine TS.out.mono ?_;rintro e W5 ⟨⟨v5,rfl,ho5⟩,hb5⟩;have HO5:=zz ho5;have HB5:=zz hb5;clear ho5 TS;refine hK.out _ _ (⟨(hb5.cell (p:=⟨w.heap.size,0,none⟩) hBl).trans hHeld.1,(hb5.cell (p:=⟨blk,0,none⟩) hbl).trans hHeld.2.1,(hb5.cell (p:=⟨blk,4,none⟩) hbl).trans hHeld.2.2⟩) (fun hHeld=> ?_);clear hK K
    try simp only[Act.put,sA,sB,sC,sD,sE,sF]
    refine AU (i:=14) rfl (by kernel_rfl) (fun K hK=> ?_);go_simp;have TC:=KH W5.heap.size v5 R nd.ref W5 (Sl.Aj HO5.out) (by omega) hRl;rw[hdi] at TC;refine TC.mono ?_;rintro e W6 ⟨rfl,rfl⟩;refine hK.out _ _ (hHeld) (fun hHeld=> ?_);clear hK K
    try simp only[Act.put,sA,sB,sC,sD,sE,sF]
    refine tz 15 ?_;refine Ag (by kernel_rfl) ?_;simp only[List.drop_succ_cons,List.drop_zero];have HFA:Fr (fun _=>False) A W5:=(Fr.refl _ A).drew.trans (Fr.of_below HB5.out);have HFR:=zz HFA;clear HFA;go_wp2;gi_wp2;exact⟨S0,⟨HFR.out.at_ hbx hnx,⟨r0,HFR.out.at_ hbr hnr⟩,hSv⟩,HFR.out.imp (fun q _ e=>e.elim),fun q h=> .inl ((hS q).2 (.inl h))⟩
  ·have q15:((nd.kind:Int)==15)=false:=by simp;omega
   have q7:((nd.kind:Int)==7)=false:=by simp;omega
   clear hk;refine CX (fun w'=>w'.cell? ⟨w.heap.size,0,none⟩=some (.pointer (some ⟨ab,0,none⟩))∧w'.cell? ⟨blk,0,none⟩=some (.int .u8 (nd.kind:Int))∧w'.cell? ⟨blk,4,none⟩=some (.int .u64 (nd.ref:Int))) 16 (by kernel_rfl) (by kernel_rfl) (by rintro⟨_,_,h⟩;exact h) ?_;refine tz 0 ?_;refine tz 1 ?_;refine tz 2 ?_;refine tz 3 ?_;refine tz 4 ?_;refine tz 5 ?_;refine tz 6 ?_;refine tz 7 ?_;refine tz 8 ?_;refine Ac (i:=9) rfl (by kernel_rfl) (fun _ _ _ h=>h) (by assumption) (Or.inr ⟨by rfl,rfl⟩) ?_
   try simp only[Act.put,sA,sB,sC,sD,sE,sF]
   refine Ac (i:=10) rfl (by kernel_rfl) (fun _ _ _ h=>h) (by assumption) (Or.inr ⟨by rfl,rfl⟩) ?_
   try simp only[Act.put,sA,sB,sC,sD,sE,sF]
   refine Ac (i:=11) rfl (by kernel_rfl) (fun _ _ _ h=>h) (by assumption) (Or.inr ⟨by rfl,rfl⟩) ?_
   try simp only[Act.put,sA,sB,sC,sD,sE,sF]
   refine Ac (i:=12) rfl (by kernel_rfl) (fun _ _ _ h=>h) (by assumption) (Or.inr ⟨by rfl,rfl⟩) ?_
   try simp only[Act.put,sA,sB,sC,sD,sE,sF]
   refine Ac (i:=13) rfl (by kernel_rfl) (fun _ _ _ h=>h) (by assumption) (Or.inr ⟨by rfl,rfl⟩) ?_
   try simp only[Act.put,sA,sB,sC,sD,sE,sF]
   refine Ac (i:=14) rfl (by kernel_rfl) (fun _ _ _ h=>h) (by assumption) (Or.inr ⟨by rfl,rfl⟩) ?_
   try simp only[Act.put,sA,sB,sC,sD,sE,sF]
   refine Ac (i:=15) rfl (by kernel_rfl) (fun _ _ _ h=>h) (by assumption) (Or.inr ⟨by rfl,rfl⟩) ?_
   try simp only[Act.put,sA,sB,sC,sD,sE,sF]
   refine Ag (by kernel_rfl) ?_;simp only[List.drop_succ_cons,List.drop_zero];have HFA:Fr (fun _=>False) A A.drew:=(Fr.refl _ A).drew;have HFR:=zz HFA;clear HFA;go_wp2;gi_wp2;exact⟨S0,⟨HFR.out.at_ hbx hnx,⟨r0,HFR.out.at_ hbr hnr⟩,hSv⟩,HFR.out.imp (fun q _ e=>e.elim),fun q h=> .inl ((hS q).2 (.inl h))⟩
 case done=>
  rintro S ys W hys ⟨hbx,⟨r0,hbr⟩,hSv⟩ hK hnS hf;have eB:=AJ W (w.heap.size+1) 0 _ _ (0,0) hbr;simp at eB;have fB:W.frozen? ⟨w.heap.size+1,0,none⟩=false:=by simp[World.frozen?,hbr]
  have hl2:=(Ab.1 hbr).1;have hne:¬w.heap.size+1=W1.heap.size:=by omega
  have hK2:(W.setCell ⟨w.heap.size+1,0,none⟩ (.bool false)).heap[W1.heap.size]? =some (.deferred (some [])):=(Below.heap_setCell W ⟨w.heap.size+1,0,none⟩ (.bool false) W1.heap.size (fun e=>hne e.symm)).trans hK;have hfs:=hf.set (p:=⟨w.heap.size+1,0,none⟩) (.inl (.inl (.inr rfl))) (.bool false);have hbs:(W.setCell ⟨w.heap.size+1,0,none⟩ (.bool false)).heap[w.heap.size+1]? =some (.cells #[.bool false] 4 (0,0)):=heap_setCell_same hbr _;have hpf:=DZ (W.setCell ⟨w.heap.size+1,0,none⟩ (.bool false)) W1.heap.size (.deferred none);have hcell:((W.setCell ⟨w.heap.size+1,0,none⟩ (.bool false)).putObj W1.heap.size (.deferred none)).cell? ⟨w.heap.size+1,0,none⟩=some (.bool false):=by
   have:=AJ _ (w.heap.size+1) 0 _ _ (0,0) (hpf.at_ hbs hne);simpa using this
  have HFIN:=zz (show Below w.heap.size w ((W.setCell ⟨w.heap.size+1,0,none⟩ (.bool false)).putObj W1.heap.size (.deferred none)) from by
   have h1:=HB1.out.trans ((hfs.imp (D':=fun q=>w.heap.size≤q) (fun q _ e=>by rcases e with(e|e)|e|e <;>omega)).below' (by omega));exact h1.trans ((hpf.imp (D':=fun q=>w.heap.size≤q) (fun q _ e=>by omega)).below' h1.size))
  clear hbx hbr hSv hf hfs hbs hpf;gi_wp2;refine⟨by simp,.inl ⟨_,_,rfl,run_takeDeferred hK2, ?_⟩⟩;refine⟨.bool false, ?_,rfl,HFIN.out⟩
  simp[results,Tryz.results49,go_sem,hcell]
 case stop=>
  intro c S pre W hpre h;exact h.elim
end Go.Proofs.YtfgnfpdfohjopaaGreatDoor
