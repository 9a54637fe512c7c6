/-
  A part of the proof.
-/
import Derived.Test.YthihjcannjhonaaGreatDoorKhBB
set_option linter.all false
set_option maxHeartbeats 32000000
set_option maxRecDepth 100000
namespace Go.Proofs.YthihjcannjhonaaGreatDoor.Rn
open Go.RowKit
theorem Sl.intAt{w:World}{B n c:Nat}{a:Option Addr}{l:List Int}(h:Sl w B (.slice a n c) l.length (l.map i64V)){k:Nat}(hk:k < l.length):
 ∃b o,a=some ⟨b,o,none⟩∧b < B∧w.cell? ⟨b,o+k,none⟩=some (i64V l[k]):=by
 obtain⟨a',c',hv,hc⟩:=h;injection hv with h1 h2 h3;subst h1;obtain⟨b,o,ha,hb,hx⟩:=hc (by simp;omega);have:=hx k (by simpa using hk);exact⟨b,o,ha,hb,by simpa using this⟩
theorem YR:(Tryz.prog.info? 2).map (fun i=>(i.zero,i.size,i.bytes))=some (some (.int .i64 0),1,8):=by kernel_rfl
def Ints(w:World)(v:Value)(l:List Int):Prop:=Sl w w.heap.size v l.length (l.map i64V)∧∃a c,v= .slice a l.length c∧l.length≤c
theorem Ints.below{w w':World}{v:Value}{l:List Int}(h:Ints w v l)(hb:Below w.heap.size w w'):Ints w' v l:=⟨(h.1.below hb AA).more hb.size,h.2⟩
theorem Ints.Aj{w:World}{base:Nat}{v:Value}{l:List Int}(h:w.ownsRow base 2 1 v l.length (l.map i64V)):Ints w v l:=⟨Sl.Aj h,by
 rcases h.2 with⟨rfl,hx⟩|⟨g,cap,cur,rfl,_,_,hnc,_⟩
 ·have:l=[]:=by simpa using hx
  subst this;exact⟨none,0,rfl,AA⟩
 ·exact⟨_,cap,rfl,hnc⟩⟩
theorem Ints.take{w:World}{a:Option Addr}{n c:Nat}{l:List Int}(h:Ints w (.slice a n c) l){k:Nat}(hk:k≤l.length):Ints w (.slice a k c) (l.take k):=by
 obtain⟨⟨a',c',hv,hc⟩,a2,c2,hv2,hlc⟩:=h;injection hv with e1 e2 e3;injection hv2 with e4 e5 e6;subst e1;subst e3;subst e6;have hkl:(l.take k).length=k:=by rw[List.length_take];omega
 refine⟨⟨a,c,by rw[hkl],fun hn=> ?_⟩,a,c,by rw[hkl],by rw[hkl];omega⟩;rw[List.length_map,hkl] at hn;obtain⟨b,o,ha,hb,hx⟩:=hc (by rw[List.length_map];omega);refine⟨b,o,ha,hb,fun j hj=> ?_⟩;rw[List.length_map,hkl] at hj;rw[hx j (by rw[List.length_map];omega)];simp
theorem QU(W:World)(a:Option Addr)(n c k:Nat)(hk:k≤c):(Instr.slice 22 (.slice a n c) none (some (.int .i64 (k:Int))) none).run Tryz.prog W= .ok (.slice a k c) W:=by
 have hz:∀w,(Go.sizeOf 2).run Tryz.prog w= .ok 1 w:=fun w=>by kernel_rfl
 have he:Tryz.prog.elem 22=2:=by kernel_rfl
 rw[run_slice_h W 22 a n c Tryz.underlying22 .i64 (k:Int) (by omega) (by omega)];cases a <;>simp[Result.andThen,sliced,Addr.add,hz,he]
def Yo(l:List Int)(w:World)(e:Ending)(w':World):Prop:=∃v,e= .returned v∧w'.ownsRow w.heap.size 2 1 v (l.take 20).length ((l.take 20).map i64V)∧Below w.heap.size w w'
theorem Ww(l:List Int):∀u∈l.map i64V,u.oneCell'=true:=fun u hu=>by obtain⟨x,_,rfl⟩:=List.mem_map.1 hu;rfl
theorem Oi(v:Value)(l:List Int)(w:World)(h:Ints w v l)(hl:l.length≤1000000000000000):Calls Tryz.prog 7 #[v] w (Yo l w):=by
 obtain⟨j0,hj,hj0,hj1,hj2⟩:=info_parts YR;obtain⟨a,c,rfl,hlc⟩:=h.2;rcases Nat.lt_or_ge 20 l.length with h20|h20
 case' inl=>
  have HT:=zz (show Ints w (.slice a 20 c) (l.take 20)∧(l.take 20).length=20 from⟨h.take (by omega),by rw[List.length_take];omega⟩);have hsl:=fun W=>QU W a l.length c 20 (by omega);have hq:(20:Int) < (l.length:Int):=by omega
  have hmn:min (l.length:Int) 20=20:=by omega
 case' inr=>
  have HT:=zz (show Ints w (.slice a l.length c) (l.take 20)∧(l.take 20).length=l.length from by rw[List.take_of_length_le h20];exact⟨h,rfl⟩);have hsl:=fun W=>QU W a l.length c l.length (by omega);have hq:¬(20:Int) < (l.length:Int):=by omega
  have hmn:min (l.length:Int) 20=(l.length:Int):=by omega
 all_goals
  try simp only[Int.cast_ofNat_Int] at hsl
  clear h hlc;go_enter Tryz.func7,Tryz.ntmps7
  go_wp2_with (at_builtin;refine Bf _ rfl (.tmp 3) (.tmp 8) _ rfl w.heap.size 2 j0 _ 8 Tryz.underlying22 hj hj0 hj1 hj2 rfl _ _ _ rfl (Dh _ _ _ ?_) w.heap.size _ _ _ rfl (HT.out.1.1.alloc ?_ _) ?_ (Ww _) ?_ ?_ ?_ ?_)
  all_goals try(first|(simp;done)|(have:=HT.out.2;first|omega|(unfold maxLen;omega)))
  intro v3 W3 own3 g3 at3;have own3:W3.ownsRow w.heap.size 2 1 v3 (l.take 20).length ((l.take 20).map i64V):=by first|(rw[HT.out.2];simpa using own3)|simpa using own3
  have hb3:Below w.heap.size w W3:=((Below.refl w.heap.size w).alloc AA _).grown g3 (by simp) (fun k hk=>by simp[Value.ownBlock] at hk;omega);have HI:=zz own3;obtain⟨a3,c3,rfl,-⟩:=(Ints.Aj own3).2;clear own3 at3 g3;go_wp2;go_ret;exact⟨_,rfl,HI.out,hb3⟩
theorem OP(f:Nat)(hf:f=25∨f=11)(p q:Value)(xs ys:List Int)(w:World)(hl:xs.length≤1000000)(hl2:ys.length≤1000000)(hp:Ints w p xs)(hq:Ints w q ys):
 Calls Tryz.prog f #[p,q] w fun e w'=>e= .returned (.bool (decide (xs=ys)))∧∃n,w'=w.drewN n:=by
 obtain⟨a1,c1,rfl,-⟩:=hp.2;obtain⟨a2,c2,rfl,-⟩:=hq.2;have HP:=zz hp;have HQ:=zz hq;clear hp hq;by_cases he:xs.length=ys.length
 case' neg=>
  have q0:((xs.length:Int) !=(ys.length:Int))=true:=by simp;omega
  have HD:=zz (show decide (xs=ys)=false from decide_eq_false fun e=>he (by rw[e]));rcases hf with rfl|rfl
  case' inl=>go_enter Tryz.func25,Tryz.ntmps25
  case' inr=>go_enter Tryz.func11,Tryz.ntmps11
  all_goals
   go_wp2;go_ret;exact⟨by rw[HD.out];rfl,0,rfl⟩
 have HE:=zz he;have q0:((xs.length:Int) !=(ys.length:Int))=false:=by simp;omega
 clear he;rcases hf with rfl|rfl
 case' inl=>go_enter Tryz.func25,Tryz.ntmps25
 case' inr=>go_enter Tryz.func11,Tryz.ntmps11
 all_goals
  go_wp2
  go_loopw [5,13] (fun _ i wr=>∃k n:Nat,k≤xs.length∧i= .int .i64 (k:Int)∧xs.take k=ys.take k∧wr=w.drewN n) (fun _ i _=>xs.length-(intOf i).toNat)
  case atStart=>exact⟨0,0,by omega,rfl,rfl,by first|rfl|simp[World.drewN]⟩
  case round=>
   obtain⟨k,n,hk,rfl,ht,rfl⟩:=hrel;have HTK:=zz ht;clear ht;by_cases h0:k < xs.length
   ·have h0':k < ys.length:=by have:=HE.out;omega
    obtain⟨b1,o1,rfl,hb1,e1⟩:=Sl.intAt HP.out.1 h0;obtain⟨b2,o2,rfl,hb2,e2⟩:=Sl.intAt HQ.out.1 h0';have HX:=zz (show xs[k]=ys[k]→xs.take (k+1)=ys.take (k+1) from fun e=>by rw[List.take_succ_eq_append_getElem h0,List.take_succ_eq_append_getElem h0',HTK.out,e]);have HY:=zz (show xs[k]≠ys[k]→decide (xs=ys)=false from fun e=>decide_eq_false fun h=>e (by subst h;rfl));generalize xs[k]=x at e1 HX HY;generalize ys[k]=y at e2 HX HY;go_upto_region 6 with fail;by_cases hxy:x=y
    ·subst hxy
     have q1:(x !=x)=false:=by simp
     have HK:=zz (HX.out rfl)
     go_quiet (fail)
     go_wp2;go_roundw
     case rel=>exact⟨k+1,_,by omega,by go_num,HK.out,by first|rfl|simp⟩
     case measure=>simp[intOf];omega
    ·have q1:(x !=y)=true:=by simpa using hxy
     have HK:=zz (HY.out hxy);clear hxy
     go_quiet (fail)
     go_wp2;go_ret;exact⟨by rw[HK.out];rfl,n+nq,by first|rfl|simp⟩
   ·obtain rfl:k=xs.length:=by omega
    have HK:=zz (show decide (xs=ys)=true from decide_eq_true (by
     have:=HTK.out;rw[List.take_length,HE.out,List.take_length] at this;exact this))
    go_wp2;go_ret;exact⟨by rw[HK.out];rfl,_,rfl⟩
@[reducible] def resW(e x:Int)(v:Value)(u rd:Int):Value:= .agg #[.int .u8 e,i64V x,v,.int .i64 u,.int .i64 rd]
theorem M3(ea xa ua ra eb xb ub rb:Int)(va vb:Value)(la lb:List Int)(w:World)(hla:la.length≤1000000)(hlb:lb.length≤1000000)(hp:Ints w va la)(hq:Ints w vb lb):
 Calls Tryz.prog 12 #[resW ea xa va ua ra,resW eb xb vb ub rb] w fun e w'=>e= .returned (.bool (ea==eb && (xa==xb && decide (la=lb))))∧Below w.heap.size w w':=by
 obtain⟨a1,c1,rfl,-⟩:=hp.2;obtain⟨a2,c2,rfl,-⟩:=hq.2;have HP:=zz hp;have HQ:=zz hq;generalize hres:(ea==eb && (xa==xb && decide (la=lb)))=res;have HRES:=zz hres;clear hp hq hres;go_enter Tryz.func12,Tryz.ntmps12;go_upto_region 1 with fail;generalize hW:World.alloc (World.alloc w _) _=w1;have hb:Below w.heap.size w w1:=by rw[←hW];exact((Below.refl w.heap.size w).alloc AA _).alloc (by simp) _
 have h1:w1.heap[w.heap.size]? =some (.cells #[.int .u8 ea,i64V xa,.slice a1 la.length c1,.int .i64 ua,.int .i64 ra] 31 (0,0)):=by rw[←hW];exact(JK w _ _).1
 have h2:w1.heap[w.heap.size+1]? =some (.cells #[.int .u8 eb,i64V xb,.slice a2 lb.length c2,.int .i64 ub,.int .i64 rb] 31 (0,0)):=by rw[←hW];exact(JK w _ _).2.1
 have TS:=zz (OP _ (.inl rfl) _ _ la lb w1 hla hlb (HP.out.below hb) (HQ.out.below hb));have c:=fun i=>AJ w1 w.heap.size i _ _ (0,0) h1;have k0:=c 0;have k1:=c 1;have k2:=c 2;have d:=fun i=>AJ w1 (w.heap.size+1) i _ _ (0,0) h2;have d0:=d 0;have d1:=d 1;have d2:=d 2;simp at k0 k1 k2 d0 d1 d2;have HB:=zz hb;clear c d h1 h2 hb hW;generalize decide (la=lb)=bl at TS HRES;cases q1:ea==eb
 ·clear TS
  go_wp2;go_ret;exact⟨by rw[←HRES.out,q1];rfl,HB.out⟩
 cases q2:xa==xb
 ·clear TS
  go_wp2;go_ret;exact⟨by rw[←HRES.out,q1,q2];rfl,HB.out⟩
 go_wp2_with fail;refine TS.out.mono ?_;rintro e w2 ⟨rfl,n,rfl⟩;go_wp2;go_ret;exact⟨by rw[←HRES.out,q1,q2];rfl,below_drewN HB.out n⟩
end Go.Proofs.YthihjcannjhonaaGreatDoor.Rn
namespace Hg
def Cs(M:Nat→Option Node)(n:Node)(x:Nat):Bool:=(decide (n.kind=5) && decide ((ndAt M x).kind=6))||(decide (n.kind=3) && decide ((ndAt M x).kind=4))
def Eo(M:Nat→Option Node)(n:Node)(k:Nat):List Nat:=(n.kids.take k).filter (Cs M n)
def EC(M:Nat→Option Node)(par:Nat→Nat×Int):Nat→Nat→List Nat→List Nat→Option (List Nat)
 |0,_,_,_=>none
 |f+1,id,seen,out=>if id∈seen then some out else match M (par id).1 with
   |none=>some out
   |some n=>EC M par f (par id).1 (id::seen) (Eo M n (par id).2.toNat++out)
end Hg
namespace Go.Proofs.YthihjcannjhonaaGreatDoor
open Go.RowKit
open Hg (GT gl wk isK ndAt Bl KB Cs Eo EC)
structure MC (M:Nat→Option Hg.Node) (par:Nat→Nat×Int):Prop where
 zero:M 0=none
 par:∀id,Du M id (fun i=>i < Ai) (par id).1 (par id).2
theorem MC.call{M:Nat→Option Hg.Node}{par:Nat→Nat×Int}(h:MC M par){w:World}{ab:Nat}(hA:ArOk w ab M)(id:Nat):
 Calls Tryz.prog 144 #[.pointer (some ⟨ab,0,none⟩),.int .u64 (id:Int)] w fun e w'=>e= .returned (.tuple #[.int .u64 ((par id).1:Int),.int .i64 (par id).2])∧(par id).1 < Ai∧Below w.heap.size w w':=by
 obtain⟨⟨mb,c,hAr⟩,_⟩:=hA;refine(Kk ab mb c M id w hAr h.zero).mono ?_;rintro e w' ⟨p,k,hp,hlt,rfl,hb⟩;obtain⟨e1,e2⟩:=hp.unique (h.par id);subst e1;subst e2;exact⟨rfl,hlt,hb⟩
theorem YT(l:List Nat)(id k:Nat)(h:idxI l id=(k:Int)):k < l.length:=by
 unfold idxI at h;cases hf:l.findIdx? (· ==id) with
 |none=>rw[hf] at h;simp at h
 |some j=>
   rw[hf] at h;have h:(j:Int)=(k:Int):=h;have h2:=(List.findIdx?_eq_some_iff_getElem.1 hf).1;omega
structure SnSt (M:Nat→Option Hg.Node) (par:Nat→Nat×Int) (F sb:Nat) (R:List Nat) (w:World) (f:Nat) (v:Value) (id:Nat) (wr:World) (seen out:List Nat):Prop where
 own:wr.ownsRow w.heap.size 51 1 v out.length (out.map idV)
 mp:IMap wr sb (KD seen)
 bel:Below w.heap.size w wr
 sl:w.heap.size≤sb
 run:EC M par f id seen out=some R
 cnt:seen.length+f≤F
 out:out.length≤seen.length*1000000
 lt:id < Ai
theorem V8(ab:Nat)(M:Nat→Option Hg.Node)(par:Nat→Nat×Int)(hp:MC M par)(id F:Nat)(R:List Nat)(w:World)(hA:ArOk w ab M)(hid:id < Ai)(hR:EC M par F id [] []=some R)(hF:F≤1000000):
 Calls Tryz.prog 95 #[.pointer (some ⟨ab,0,none⟩),idV id] w (Pp w R):=by
 obtain⟨j0,hj,hj0,hj1,hj2⟩:=info_parts Ie;have hzb:∀W:World,(zeroValue 4).run Tryz.prog W= .ok (.bool false) W:=fun W=>by kernel_rfl
 have hmm:= @run_makeMap Tryz.prog;have HA:=zz hA;have HP:=zz hp;have HST:=zz (show SnSt M par F w.heap.size R w F (.slice none 0 0) id (w.alloc (.map #[] 0)) [] [] from⟨⟨rfl,.inl ⟨rfl,rfl⟩⟩,XMap.made 51 idV w,(AP).alloc AA _,AA,hR,by simp,by simp,hid⟩);clear hA hp hR hid;go_enter Tryz.func95,Tryz.ntmps95;go_wp2;generalize World.alloc w _=W1 at HST⊢
 go_loopw [5,7] (fun p q wr=>∃(v:Value) (id:Nat),p=v∧q=idV id∧∃f seen out,SnSt M par F w.heap.size R w f v id wr seen out) (fun p q wr=>Hg.least (fun f=>∃id seen out,q=idV id∧SnSt M par F w.heap.size R w f p id wr seen out))
 case atStart=>exact⟨_,id,rfl,rfl,F,[],[],HST.out⟩
 case round=>
  obtain⟨v,id,hv,rfl,hrel⟩:=hrel;have hv:=hv.symm;subst hv;have hl:=Hg.Jo (p:=fun f=>∃id2 seen out,idV id=idV id2∧SnSt M par F w.heap.size R w f v id2 wr seen out) (by
   obtain⟨f,seen,out,h⟩:=hrel;exact⟨f,id,seen,out,rfl,h⟩)
  generalize hf0:Hg.least _=f at hl;have HF0:=zz hf0;obtain⟨id2,seen,out,hid2,hS⟩:=hl;have hid2:id=id2:=by injection hid2 with _ h;exact Int.ofNat.inj h
  subst hid2;have HS:=zz hS;have hlk:=(hS.mp.look (t:=184) (x:=id) BP Tryz.underlying184 (hzb _) ⟨_,BQ hS.lt⟩);unfold KD at hlk;rw[Hg.XC] at hlk;clear hf0 hrel HST hv;cases f with
  |zero=>have:=hS.run;cases this
  |succ f=>
  by_cases hin:id∈seen
  ·rw[if_pos hin] at hlk
   replace hlk:(Instr.lookup 184 (.map (some w.heap.size)) (.int .u64 (id:Int)) false).run Tryz.prog wr= .ok (.bool true) wr:=hlk;have hrun:=hS.run;rw[EC,if_pos hin] at hrun;have hrun:out=R:=Option.some.inj hrun;clear hS;go_wp2;go_ret;exact⟨⟨_,rfl,hrun ▸ HS.out.own⟩,HS.out.bel⟩
  ·rw[if_neg hin] at hlk
   replace hlk:(Instr.lookup 184 (.map (some w.heap.size)) (.int .u64 (id:Int)) false).run Tryz.prog wr= .ok (.bool false) wr:=hlk;have hrun:=hS.run;rw[EC,if_neg hin] at hrun;obtain⟨W2,hrun2,hU2,hg2⟩:=hS.mp.put (t:=184) BP Tryz.underlying184 (fun x y h=>by injection h with _ h;exact Int.ofNat.inj h) (by have:=hS.cnt;unfold KD;simp;omega) id ⟨_,BQ hS.lt⟩ (.bool true);replace hrun2:(Instr.mapUpdate 184 (.map (some w.heap.size)) (.int .u64 (id:Int)) (.bool true)).run Tryz.prog wr= .ok () W2:=hrun2;have hf2:Fr (fun q=>q=w.heap.size) wr W2:=Fr.ED hg2 (fun q e=>by injection e with e;exact e.symm);have HO2:=zz (show W2.ownsRow w.heap.size 51 1 v out.length (out.map idV) from Av hS.own hf2 (fun q e e'=>by
    obtain⟨es,ck,hm⟩:=hS.mp.obj;rcases Ep hS.own hm with h|h
    ·rw[h] at e;cases e
    ·exact h (e' ▸ e)))
   have hb2:Below w.heap.size w W2:=hS.bel.trans ((hf2.imp (D':=fun q=>w.heap.size≤q) (fun q _ e=>by omega)).below' hS.bel.size);have HB2:=zz hb2;have HU2:=zz (show IMap W2 w.heap.size (KD (id::seen)) from hU2);have TP:=zz (HP.out.call (HA.out.below hb2) id);have hpar:=HP.out.par id;generalize par id=pk at TP hrun hpar;obtain⟨p,k⟩:=pk;dsimp only at TP hrun hpar;have hcn:=hS.cnt;have hol:=hS.out;clear hS hU2 hg2 hf2 hb2;go_wp2_with fail;refine TP.out.mono ?_;rintro e W3 ⟨rfl,hpl,hb3⟩;have HB3:=zz (HB2.out.trans (hb3.mono HB2.out.size));have HO3:=zz (Av HO2.out (Fr.of_below (D:=fun _=>False) hb3) (fun _ _ e=>e));have HU3:=zz (HU2.out.fr (Fr.of_below (D:=fun _=>False) hb3) (fun e=>e));have hget:∀o,M p=o→Calls Tryz.prog 43 #[.pointer (some ⟨ab,0,none⟩),.int .u64 (p:Int)] W3 (H5 W3 o):=fun o e=>e ▸ (HA.out.below HB3.out).get hpl;clear TP hb3 hlk hrun2;cases hM:M p with
   |none=>
     rw[hM] at hrun;have hrun:out=R:=Option.some.inj hrun;have TG:=zz (hget none hM);clear hget;go_wp2_with fail;refine TG.out.mono ?_;rintro e W4 ⟨ka,kc,rfl,ho4,hb4⟩;have HB4:=zz (HB3.out.trans (hb4.mono HB3.out.size));have HO4:=zz (Av HO3.out (Fr.of_below (D:=fun _=>False) hb4) (fun _ _ e=>e));clear TG ho4 hb4;go_wp2;go_ret;exact⟨⟨_,rfl,hrun ▸ HO4.out.alloc _⟩,HB4.out.alloc HB4.out.size _⟩
   |some n=>
     rw[hM] at hrun;dsimp only at hrun;have hk0:0≤k∧idxI n.kids id=k:=by
      rcases hpar with⟨h1,h2,h3⟩|⟨h1,h2,⟨nd,hn,h3,h4⟩,h5⟩
      ·rw[h1,HP.out.zero] at hM;cases hM
      ·rw[hM] at hn;injection hn with hn;subst hn;exact⟨h4,h3⟩
     obtain⟨kn,rfl⟩:∃kn:Nat,k=(kn:Int):=⟨k.toNat,by omega⟩;have hkl:kn < n.kids.length:=YT n.kids id kn hk0.2;have hnl:n.kids.length≤1000000:=by have:=(HA.out.below HB3.out).len p;unfold ndAt at this;rw[hM] at this;exact this
     have hnk:=HA.out.2 p n hM;have TG:=zz (hget (some n) hM);have hrun:EC M par f p (id::seen) (Eo M n kn++out)=some R:=hrun;have HRUN:=zz hrun;have HNK:=zz hnk;clear hget hpar hk0 hrun hnk;go_wp2_with fail;refine TG.out.mono ?_;rintro e W4 ⟨ka,kc,rfl,ho4,hb4⟩;have HB4:=zz (HB3.out.trans (hb4.mono HB3.out.size));obtain⟨g,rfl⟩:∃g,ka=some ⟨g,0,none⟩:=by
      rcases ho4.2 with⟨h1,h2⟩|⟨g,cap,cur,hv,_⟩
      ·have h2:n.kids.length=0:=h2
       omega
      ·injection hv with e1;exact⟨g,e1⟩
     have hcap:n.kids.length≤kc:=(by obtain⟨c9,e,h,_⟩:=IR ho4 rfl;injection e with _ _ e;have h:n.kids.length≤c9:=h;omega);have hcap2:kn≤kc:=by omega
     have hW5:Below W4.heap.size W4 (W4.alloc (.cells (Ae n (some ⟨g,0,none⟩) kc) 54)):=(AP).alloc AA _;have hnew:=Ac W4 (.cells (Ae n (some ⟨g,0,none⟩) kc) 54);have HB5:=zz (HB4.out.alloc HB4.out.size (.cells (Ae n (some ⟨g,0,none⟩) kc) 54));have HO5:=zz ((Av HO3.out (Fr.of_below (D:=fun _=>False) hb4) (fun _ _ e=>e)).alloc (.cells (Ae n (some ⟨g,0,none⟩) kc) 54));have HU5:=zz ((HU3.out.fr (Fr.of_below (D:=fun _=>False) hb4) (fun e=>e)).fr (Fr.of_below (D:=fun _=>False) hW5) (fun e=>e));have HS5:=zz (Sl.Aj (KI (ho4.alloc (.cells (Ae n (some ⟨g,0,none⟩) kc) 54)) (show kn≤n.kids.length by omega)));have hks:IntKind.i64.wrap (kn:Int)=(kn:Int):=IntWalk.i64_in _ (by omega);clear TG ho4 hb4 hW5;go_wp2;obtain⟨W5,hW5⟩:∃W5,W4.alloc (.cells (Ae n (some ⟨g,0,none⟩) kc) 54)=W5:=⟨_,rfl⟩;have hz5:W4.heap.size < W5.heap.size:=by rw[←hW5];simp
     simp only[Ae] at HB5 HO5 HU5 HS5 hnew hW5;rw[hW5] at HB5 HO5 HU5 HS5 hnew⊢;generalize hnb:W4.heap.size=nbk at hnew hz5⊢;clear hnb hW5;have HNW:=zz hnew;clear hnew;rw[←List.map_take] at HS5
     go_loopw [12,44] (fun p q wr=>∃(i:Nat) (u:Value),p=u∧q= .int .i64 (i:Int)∧i≤kn∧wr.ownsRow W5.heap.size 51 1 u (((n.kids.take kn).take i).filter (Cs M n)).length ((((n.kids.take kn).take i).filter (Cs M n)).map idV)∧Below W5.heap.size W5 wr) (fun _ q wr=>kn-(intOf q).toNat)
     case atStart=>exact⟨0,_,rfl,rfl,Nat.zero_le _,⟨rfl,.inl ⟨rfl,rfl⟩⟩,AP⟩
     case round=>
      obtain⟨i,u,hu,rfl,hi,hou,hb6⟩:=hrel;have hu:=hu.symm;subst hu;have HOU:=zz hou;have HB6:=zz hb6;have hlk:(n.kids.take kn).length=kn:=by rw[List.length_take];omega
      by_cases hlt:i < kn
      ·obtain⟨b,o,hbo,_,kcl⟩:=(show Sl W5 W5.heap.size (.slice (some ⟨g,0,none⟩) kn kc) (n.kids.take kn).length ((n.kids.take kn).map idV) from by rw[hlk];exact HS5.out).below HB6.out AA|>.mapAt (show i < (n.kids.take kn).length by omega)
       injection hbo with hbo;injection hbo with hbo1 hbo2;subst hbo1;subst hbo2;rw[Nat.zero_add] at kcl;have hxm:(n.kids.take kn)[i]∈n.kids:=List.mem_of_mem_take (List.getElem_mem _);have htk:(n.kids.take kn).take (i+1)=(n.kids.take kn).take i++[(n.kids.take kn)[i]]:=List.take_succ_eq_append_getElem (by omega);generalize(n.kids.take kn)[i]=x at kcl hxm htk;have hxl:=HNK.out x hxm;have HTK:=zz htk;have TGx:=zz ((HA.out.below (HB5.out.trans (hb6.mono HB5.out.size))).getN hxl);have hnwr:wr.heap[nbk]? =some (.cells (Ae n (some ⟨g,0,none⟩) kc) 54 (0,0)):=(hb6.block nbk hz5).trans HNW.out;have e0:=AJ wr nbk 0 _ _ (0,0) hnwr;simp at e0;clear hou hb6 htk hxm;go_wp2_with fail;refine TGx.out.mono ?_;rintro e w2 ⟨kax,kcx,rfl,hox,hbx⟩;have HB8:=zz (HB6.out.trans (hbx.mono HB6.out.size));have HOU:=zz (Av HOU.out (Fr.of_below (D:=fun _=>False) hbx) (fun _ _ e=>e));have hnw2:w2.heap[nbk]? =some (.cells (Ae n (some ⟨g,0,none⟩) kc) 54 (0,0)):=(HB8.out.block nbk hz5).trans HNW.out;have d0:=AJ w2 nbk 0 _ _ (0,0) hnw2;simp at d0;have hz8:=HB8.out.size;have hnl2:nbk < w2.heap.size:=(AZ.1 hnw2).1;have hPX:Cs M n x=((decide (n.kind=5) && decide ((ndAt M x).kind=6))||(decide (n.kind=3) && decide ((ndAt M x).kind=4))):=rfl;generalize ndAt M x=m at hPX;generalize hps:Cs M n x=ps at hPX;have HPX:=zz hps;have hfl:(((n.kids.take kn).take i).filter (Cs M n)).length≤1000000:=by
        have h1:=List.length_filter_le (Cs M n) ((n.kids.take kn).take i);have h2:((n.kids.take kn).take i).length≤kn:=by simp;omega
        omega
       clear TGx hox hbx hnwr e0 hnw2 hps;by_cases n5:n.kind=5
       ·have q5:((n.kind:Int)==5)=true:=by simp[n5]
        have q3:((n.kind:Int)==3)=false:=by simp[n5]
        by_cases m6:m.kind=6
        ·have q6:((m.kind:Int)==6)=true:=by simp[m6]
         have hp2:ps=true:=by rw[hPX];simp[n5,m6]
         subst hp2;clear hPX n5 m6
         go_wp2_with (at_builtin;refine wpList_append_own_at _ rfl (.tmp 72) (.tmp 74) _ rfl W5.heap.size 51 j0 _ 1 8 Tryz.underlying52 hj hj0 hj1 hj2 rfl (by decide) _ (((n.kids.take kn).take i).filter (Cs M n)).length ((((n.kids.take kn).take i).filter (Cs M n)).map idV) rfl ((HOU.out.alloc _).alloc _) ⟨w2.heap.size+1,0,none⟩ 1 1 [idV x] rfl rfl ?_ ?_ ?_ ?_ ?_ ?_)
         all_goals first
          |intro v3 W3' own3 g3 _ at3
          |exact Ju _ _ _ _
          |(unfold maxLen;omega)
          |omega
          |(simp;omega)
          |(intro u hu;simp only[List.mem_singleton] at hu;subst hu;rfl)
         have HOU3:=zz (show W3'.ownsRow W5.heap.size 51 1 v3 (((n.kids.take kn).take (i+1)).filter (Cs M n)).length ((((n.kids.take kn).take (i+1)).filter (Cs M n)).map idV) from by
          rw[HTK.out,List.filter_append];simp only[List.filter_cons,HPX.out,if_true,List.filter_nil];rw[List.map_append,List.length_append];exact own3)
         have HB9:=zz (((HB8.out.alloc HB8.out.size _).alloc (by have:=HB8.out.size;simp;omega) _).grown g3 (by have:=HB8.out.size;simp;omega) (fun q hq=>(HOU.out.lt q hq).1));clear own3 g3 at3;go_wp2;go_roundw
         case rel=>exact⟨i+1,v3,rfl,by go_num,by omega,HOU3.out,HB9.out⟩
         case measure=>simp[intOf];omega
        ·have q6:((m.kind:Int)==6)=false:=by simp;omega
         have hp2:ps=false:=by rw[hPX];simp[n5,m6]
         subst hp2;clear hPX n5 m6;have HOU3:=zz (show w2.ownsRow W5.heap.size 51 1 u (((n.kids.take kn).take (i+1)).filter (Cs M n)).length ((((n.kids.take kn).take (i+1)).filter (Cs M n)).map idV) from by
          rw[HTK.out,List.filter_append];simp only[List.filter_cons,HPX.out,if_false,List.filter_nil,List.append_nil,Bool.false_eq_true];exact HOU.out)
         go_wp2;go_roundw
         case rel=>exact⟨i+1,u,rfl,by go_num,by omega,HOU3.out.alloc _,HB8.out.alloc HB8.out.size _⟩
         case measure=>simp[intOf];omega
       ·have q5:((n.kind:Int)==5)=false:=by simp;omega
        by_cases n3:n.kind=3
        ·have q3:((n.kind:Int)==3)=true:=by simp[n3]
         by_cases m4:m.kind=4
         ·have q4:((m.kind:Int)==4)=true:=by simp[m4]
          have hp2:ps=true:=by rw[hPX];simp[n3,m4]
          subst hp2;clear hPX n5 n3 m4
          go_wp2_with (at_builtin;refine wpList_append_own_at _ rfl (.tmp 72) (.tmp 74) _ rfl W5.heap.size 51 j0 _ 1 8 Tryz.underlying52 hj hj0 hj1 hj2 rfl (by decide) _ (((n.kids.take kn).take i).filter (Cs M n)).length ((((n.kids.take kn).take i).filter (Cs M n)).map idV) rfl ((HOU.out.alloc _).alloc _) ⟨w2.heap.size+1,0,none⟩ 1 1 [idV x] rfl rfl ?_ ?_ ?_ ?_ ?_ ?_)
          all_goals first
           |intro v3 W3' own3 g3 _ at3
           |exact Ju _ _ _ _
           |(unfold maxLen;omega)
           |omega
           |(simp;omega)
           |(intro u hu;simp only[List.mem_singleton] at hu;subst hu;rfl)
          have HOU3:=zz (show W3'.ownsRow W5.heap.size 51 1 v3 (((n.kids.take kn).take (i+1)).filter (Cs M n)).length ((((n.kids.take kn).take (i+1)).filter (Cs M n)).map idV) from by
           rw[HTK.out,List.filter_append];simp only[List.filter_cons,HPX.out,if_true,List.filter_nil];rw[List.map_append,List.length_append];exact own3)
          have HB9:=zz (((HB8.out.alloc HB8.out.size _).alloc (by have:=HB8.out.size;simp;omega) _).grown g3 (by have:=HB8.out.size;simp;omega) (fun q hq=>(HOU.out.lt q hq).1));clear own3 g3 at3;go_wp2;go_roundw
          case rel=>exact⟨i+1,v3,rfl,by go_num,by omega,HOU3.out,HB9.out⟩
          case measure=>simp[intOf];omega
         ·have q4:((m.kind:Int)==4)=false:=by simp;omega
          have hp2:ps=false:=by rw[hPX];simp[n3,m4]
          subst hp2;clear hPX n5 n3 m4;have HOU3:=zz (show w2.ownsRow W5.heap.size 51 1 u (((n.kids.take kn).take (i+1)).filter (Cs M n)).length ((((n.kids.take kn).take (i+1)).filter (Cs M n)).map idV) from by
           rw[HTK.out,List.filter_append];simp only[List.filter_cons,HPX.out,if_false,List.filter_nil,List.append_nil,Bool.false_eq_true];exact HOU.out)
          go_wp2;go_roundw
          case rel=>exact⟨i+1,u,rfl,by go_num,by omega,HOU3.out.alloc _,HB8.out.alloc HB8.out.size _⟩
          case measure=>simp[intOf];omega
        ·have q3:((n.kind:Int)==3)=false:=by simp;omega
         have hp2:ps=false:=by rw[hPX];simp[n5,n3]
         subst hp2;clear hPX n5 n3;have HOU3:=zz (show w2.ownsRow W5.heap.size 51 1 u (((n.kids.take kn).take (i+1)).filter (Cs M n)).length ((((n.kids.take kn).take (i+1)).filter (Cs M n)).map idV) from by
          rw[HTK.out,List.filter_append];simp only[List.filter_cons,HPX.out,if_false,List.filter_nil,List.append_nil,Bool.false_eq_true];exact HOU.out)
         go_wp2;go_roundw
         case rel=>exact⟨i+1,u,rfl,by go_num,by omega,HOU3.out.alloc _,HB8.out.alloc HB8.out.size _⟩
         case measure=>simp[intOf];omega
      ·obtain rfl:i=kn:=by omega
       have hsl:(n.kids.take i).take i=n.kids.take i:=List.take_of_length_le (by simp;omega);rw[hsl] at HOU;have HB10:=zz (HB5.out.trans (hb6.mono HB5.out.size));have HO10:=zz (Sl.Aj (Av HO5.out (Fr.of_below (D:=fun _=>False) hb6) (fun _ _ e=>e)));have HU10:=zz (HU5.out.fr (Fr.of_below (D:=fun _=>False) hb6) (fun e=>e));have hfl:((n.kids.take i).filter (Cs M n)).length≤1000000:=by
        have h1:=List.length_filter_le (Cs M n) (n.kids.take i);have h2:(n.kids.take i).length≤i:=by simp;omega
        omega
       have hz6:=hb6.size;have hwz:w.heap.size < W5.heap.size:=by have:=HU5.out.lt;omega
       clear hou hb6 hsl hlk
       go_wp2_with (at_builtin;refine Bf _ rfl (.tmp 77) (.tmp 78) _ rfl W5.heap.size 51 j0 _ 8 Tryz.underlying52 hj hj0 hj1 hj2 rfl _ ((n.kids.take i).filter (Cs M n)).length (((n.kids.take i).filter (Cs M n)).map idV) rfl HOU.out wr.heap.size _ out.length (out.map idV) rfl HO10.out ?_ (FM _) ?_ ?_ ?_ ?_)
       all_goals first
        |intro v7 W7 own7 g7 at7
        |(simp;done)
        |(unfold maxLen;omega)
        |omega
       have HS7:=zz (show SnSt M par F w.heap.size R w f v7 p W7 (id::seen) (Eo M n i++out) from by
        have hf7:Fr (fun q=>W5.heap.size≤q) _ W7:=Fr.ED g7 (fun q e=>(HOU.out.lt q e).1);refine⟨?_,HU10.out.fr hf7 (fun e=>by omega),HB10.out.trans ((hf7.imp (D':=fun q=>w.heap.size≤q) (fun q _ e=>by omega)).below' HB10.out.size),AA,HRUN.out,by simp;omega, ?_,hpl⟩
        ·rw[List.length_append,List.map_append]
         exact Cw own7 (by omega)
        ·rw[List.length_append,List.length_cons]
         unfold Eo;omega)
       clear own7 g7 at7;go_wp2;go_roundw
       case rel=>exact⟨v7,p,rfl,rfl,f,_,_,HS7.out⟩
       case measure=>
        rw[HF0.out];refine Nat.lt_succ_of_le (Hg.Ic ?_);exact⟨p,_,_,rfl,HS7.out⟩
attribute [local go_sem] Oper.semAt_some
theorem FP(B:Nat)(v:Value)(ids:List Nat)(id:Nat)(w:World)(hs:Sl w B v ids.length (ids.map idV))(hl:ids.length≤1000000000000)(hl2:ids.length≤1000000):
 Calls Tryz.prog 94 #[v,.int .u64 (id:Int)] w fun e w'=>e= .returned (.bool (decide (0≤idxI ids id)))∧w=w':=by
 have TI:=zz (Oj B v ids id w hs hl2);clear hs;go_enter Tryz.func94,Tryz.ntmps94;go_wp2_with fail;refine TI.out.mono ?_;rintro e w1 ⟨rfl,rfl⟩;clear TI;go_wp2;go_ret;exact⟨rfl,rfl⟩
theorem MF{P:Program}{c:Code}{K:Act→World→Prop}{Q':Exit→Act→World→Prop}{a:Act}{w:World}(h:c.wp P (Exit.then K (fun _ _ _=>False)) a w):c.wp P (Exit.then K Q') a w:=
 wp_mono h (fun e a w h=>by cases e <;>first|exact h|exact h.elim)
def BoxI(ab B:Nat)(S:Nat→Prop)(A:World):Prop:=A.heap[B]? =some (.cells #[.pointer (some ⟨ab,0,none⟩)] 25 (0,0))∧(∃r,A.heap[B+1]? =some (.cells #[r] 4 (0,0)))∧∀q,S q↔q=B∨q=B+1
theorem BoxI.fr{ab B:Nat}{S:Nat→Prop}{A A':World}(h:BoxI ab B S A)(hf:Fr (fun q=>¬S q) A A'):BoxI ab B S A':=by
 obtain⟨h1,⟨r,h2⟩,h3⟩:=h;exact⟨hf.at_ h1 (fun h=>h ((h3 B).2 (.inl rfl))),⟨r,hf.at_ h2 (fun h=>h ((h3 (B+1)).2 (.inr rfl)))⟩,h3⟩
theorem BoxI.lt{ab B:Nat}{S:Nat→Prop}{A:World}(h:BoxI ab B S A):∀q,S q→B≤q∧q < A.heap.size:=by
 obtain⟨h1,⟨r,h2⟩,h3⟩:=h;intro q hq;have l1:=(AZ.1 h1).1;have l2:=(AZ.1 h2).1;rcases(h3 q).1 hq with e|e <;>subst e <;>exact⟨by omega,by omega⟩
end Go.Proofs.YthihjcannjhonaaGreatDoor
namespace Hg
def JY(M:Nat→Option Node)(n:Node):List Nat:=if n.num≤9 then[1,1] else if n.num≤11 then[CW M (n.kids.getD 0 0),CW M (n.kids.getD 0 0)] else[2,2]
def Ct(M:Nat→Option Node)(abv:Nat→Nat)(id:Nat)(n:Node):List Nat:=
 if n.kind=6 then[n.type]
 else if n.kind=7 then[(ndAt M n.ref).type]
 else if n.kind=8∨n.kind=9∨n.kind=16 then[2]
 else if n.kind=17 then[1]
 else if n.kind=10 then[(ndAt M (abv id)).type]
 else if n.kind=18 then JY M n
 else if n.kind=19 then(Bl M n.ref 4).map fun p=>(ndAt M p).type
 else[]
end Hg
namespace Go.Proofs.YthihjcannjhonaaGreatDoor
open Go.RowKit
open Hg (GT gl wk isK ndAt Bl KB CW JY Ct)
theorem TZ:(Tryz.prog.info? 5).map (fun i=>(i.zero,i.size,i.bytes))=some (some (.int .u8 0),1,1):=by kernel_rfl
@[reducible] def u8G(t:Nat):Value:= .int .u8 (t:Int)
def MX(w:World)(l:List Nat)(e:Ending)(w':World):Prop:=(∃v,e= .returned v∧w'.ownsRow w.heap.size 5 1 v l.length (l.map u8G))∧Below w.heap.size w w'
theorem Fy{w w1:World}{k:Nat}(hb:Below w.heap.size w w1)(t:Nat)(hk:w1.heap.size=k):MX w [t] (.returned (.slice (some ⟨k,0,none⟩) 1 1)) (w1.alloc (.cells #[u8G t] 5)):=by
 subst hk;exact⟨⟨_,rfl,⟨rfl,.inr ⟨w1.heap.size,1,#[u8G t],rfl,hb.size,Ac w1 _,AA,by unfold maxLen;omega,rfl,rfl⟩⟩⟩,hb.alloc hb.size _⟩
theorem Nl{w w1:World}{k:Nat}(hb:Below w.heap.size w w1)(s t:Nat)(hk:w1.heap.size=k):MX w [s,t] (.returned (.slice (some ⟨k,0,none⟩) 2 2)) (w1.alloc (.cells #[u8G s,u8G t] 5)):=by
 subst hk;exact⟨⟨_,rfl,⟨rfl,.inr ⟨w1.heap.size,2,#[u8G s,u8G t],rfl,hb.size,Ac w1 _,AA,by unfold maxLen;omega,rfl,rfl⟩⟩⟩,hb.alloc hb.size _⟩
theorem WS(ab:Nat)(M:Nat→Option Hg.Node)(n:Hg.Node)(ka:Option Addr)(kc:Nat)(w:World)(hA:ArOk w ab M)(hs:Sl w w.heap.size (.slice ka n.kids.length kc) n.kids.length (n.kids.map idV))(hk:0 < n.kids.length)(h0:n.kids.getD 0 0 < Ai)(href:(ndAt M (n.kids.getD 0 0)).ref < Ai):
 Calls Tryz.prog 149 #[.pointer (some ⟨ab,0,none⟩),ndV n ka kc] w (MX w (JY M n)):=by
 generalize hr:JY M n=r;unfold JY at hr;have hba:Below w.heap.size w (w.alloc (.cells (Ae n ka kc) 54)):=(AP).alloc AA _;have HB:=zz hba;have TT:=zz (P9 ab M (n.kids.getD 0 0) _ (hA.below hba) h0 href);obtain⟨b,o,rfl,hbl,kcl⟩:=hs.mapAt hk;have hg0:n.kids[0]=n.kids.getD 0 0:=by simp[List.getD,hk]
 rw[hg0,Nat.add_zero] at kcl;generalize n.kids.getD 0 0=x at kcl TT hr h0 href;clear hA hs hg0;by_cases h9:n.num≤9
 ·rw[if_pos h9] at hr
  subst hr;go_enter Tryz.func149,Tryz.ntmps149;go_wp2;go_ret;exact Nl HB.out 1 1 (by simp)
 ·rw[if_neg h9] at hr
  by_cases h11:n.num≤11
  ·rw[if_pos h11] at hr
   subst hr;go_enter Tryz.func149,Tryz.ntmps149;go_wp2_with fail;refine TT.out.mono ?_;rintro e w1 ⟨rfl,hb1⟩;have HB1:=zz (HB.out.trans (hb1.mono HB.out.size));clear TT hb1;go_wp2;go_ret;exact Nl HB1.out _ _ (by simp)
  ·rw[if_neg h11] at hr
   subst hr;clear TT;go_enter Tryz.func149,Tryz.ntmps149;go_wp2;go_ret;exact Nl HB.out 2 2 (by simp)
structure Rj (M:Nat→Option Hg.Node) (abv:Nat→Nat):Prop where
 zero:M 0=none
 kind:∀i n,M i=some n→n.kind≤255
 dec:∀i n p k,M i=some n→Du M i (fun i=>i < Ai) p k→p < i∨p=0
 chain:∀id,id≤1000000→Je M 3 id (abv id)
 lt:∀id,abv id < Ai
theorem UX(ab:Nat)(M:Nat→Option Hg.Node)(abv:Nat→Nat)(hV:Rj M abv)(id:Nat)(n:Hg.Node)(ka:Option Addr)(kc:Nat)(w:World)(hA:ArOk w ab M)(hid:id≤1000000)(hs:Sl w w.heap.size (.slice ka n.kids.length kc) n.kids.length (n.kids.map idV))(href:n.ref < Ai)
 (hb18:n.kind=18→0 < n.kids.length∧n.kids.getD 0 0 < Ai∧(ndAt M (n.kids.getD 0 0)).ref < Ai):
 Calls Tryz.prog 96 #[.pointer (some ⟨ab,0,none⟩),idV id,ndV n ka kc] w (MX w (Ct M abv id n)):=by
 obtain⟨i0,hi0,hz0,hz1,hz2⟩:=info_parts TZ;generalize hr:Ct M abv id n=r;unfold Ct at hr;have hba:Below w.heap.size w (w.alloc (.cells (Ae n ka kc) 54)):=(AP).alloc AA _;have HA:=zz hA;have HV:=zz hV;have HS:=zz hs;have H18:=zz hb18;have TG:=zz ((hA.below hba).getN href);have HB:=zz hba;have HR:=zz hr;have hnew:=Ac w (.cells (Ae n ka kc) 54);clear hA hs hb18 hba hV hr;go_enter Tryz.func96,Tryz.ntmps96;go_wp2_with fail;refine TG.out.mono ?_;rintro e w1 ⟨ka1,kc1,rfl,ho1,hb1⟩;have hw1:w1.heap[w.heap.size]? =some (.cells (Ae n ka kc) 54 (0,0)):=(hb1.block _ (by simp)).trans hnew;have hlw:w.heap.size < w1.heap.size:=(AZ.1 hw1).1;have e0:=AJ w1 w.heap.size 0 _ _ (0,0) hw1;have e1:=AJ w1 w.heap.size 1 _ _ (0,0) hw1;have e2:=AJ w1 w.heap.size 2 _ _ (0,0) hw1;have e3:=AJ w1 w.heap.size 3 _ _ (0,0) hw1;have e4:=AJ w1 w.heap.size 4 _ _ (0,0) hw1;have e5:=AJ w1 w.heap.size 5 _ _ (0,0) hw1;simp at e0 e1 e2 e3 e4 e5;have HB1:=zz (HB.out.trans (hb1.mono HB.out.size));have HB2:=zz (HB1.out.alloc HB1.out.size (.cells (Ae (ndAt M n.ref) ka1 kc1) 54));clear TG ho1 hb1 hnew hw1;generalize hto:ndAt M n.ref=tn at HR HB2⊢;have HTO:=zz hto;clear hto;obtain⟨kd,hkd⟩:∃kd,n.kind=kd:=⟨_,rfl⟩;rw[hkd] at e0;have H18b:=zz (show kd=18→0 < n.kids.length∧n.kids.getD 0 0 < Ai∧(ndAt M (n.kids.getD 0 0)).ref < Ai from fun h=>H18.out (hkd.trans h));rw[hkd] at HR;have HKD:=zz hkd;clear H18 hkd;by_cases k6:kd=6
 ·subst k6
  go_wp2;go_ret;have hr:=HR.out;simp at hr;subst hr;exact Fy HB2.out _ (by simp)
 by_cases k7:kd=7
 ·subst k7
  go_wp2;go_ret;have hr:=HR.out;simp at hr;subst hr;exact Fy HB2.out _ (by simp)
 by_cases k8:kd=8
 ·subst k8
  go_wp2;go_ret;have hr:=HR.out;simp at hr;subst hr;exact Fy HB2.out _ (by simp)
 by_cases k9:kd=9
 ·subst k9
  go_wp2;go_ret;have hr:=HR.out;simp at hr;subst hr;exact Fy HB2.out _ (by simp)
 by_cases k16:kd=16
 ·subst k16
  go_wp2;go_ret;have hr:=HR.out;simp at hr;subst hr;exact Fy HB2.out _ (by simp)
 by_cases k17:kd=17
 ·subst k17
  go_wp2;go_ret;have hr:=HR.out;simp at hr;subst hr;exact Fy HB2.out _ (by simp)
 by_cases k10:kd=10
 ·subst k10
  obtain⟨⟨mb,cc,hAr⟩,hkb⟩:=HA.out;have TA:=zz (Vi ab mb cc M 3 id (abv id) (w1.alloc (.cells (Ae tn ka1 kc1) 54)) (hAr.below HB2.out AA) HV.out.zero hid HV.out.kind (by decide) HV.out.dec (HV.out.chain id hid));clear hAr hkb;go_wp2_with fail;refine TA.out.mono ?_;rintro e w3 ⟨rfl,hb3⟩;have HB3:=zz (HB2.out.trans (hb3.mono HB2.out.size));have TG2:=zz ((HA.out.below HB3.out).getN (HV.out.lt id));clear TA hb3;go_wp2_with fail;refine TG2.out.mono ?_;rintro e w4 ⟨ka4,kc4,rfl,ho4,hb4⟩;have HB4:=zz (HB3.out.trans (hb4.mono HB3.out.size));have HB5:=zz (HB4.out.alloc HB4.out.size (.cells (Ae (ndAt M (abv id)) ka4 kc4) 54));clear TG2 ho4 hb4;go_wp2;go_ret;have hr:=HR.out;simp at hr;subst hr;exact Fy HB5.out _ (by simp)
 by_cases k18:kd=18
 ·subst k18
  obtain⟨h1,h2,h3⟩:=H18b.out rfl;have hsW:=(HS.out.below HB2.out AA).more HB2.out.size;have TPR:=zz (WS ab M n ka kc (w1.alloc (.cells (Ae tn ka1 kc1) 54)) (HA.out.below HB2.out) hsW h1 h2 h3);have hnk:n.kind=18:=HKD.out;have hq:(n.kind:Int)=18:=by omega
  rw[show ndV n ka kc= .agg #[.int .u8 18,strV n.name,.int .i64 n.num,.int .u8 (n.type:Int),.int .u64 (n.ref:Int),.slice ka n.kids.length kc] from by simp[ndV,hq]] at TPR;clear hsW h1 h2 h3 hq hnk;go_wp2_with fail;refine TPR.out.mono ?_;rintro e w3 ⟨⟨v,rfl,ho3⟩,hb3⟩;have HO3:=zz (Cw ho3 (show w.heap.size≤_ from HB2.out.size));have HB3:=zz (HB2.out.trans (hb3.mono HB2.out.size));clear TPR ho3 hb3;go_wp2;go_ret;have hr:=HR.out;simp only[show¬(18:Nat)=6 by decide,show¬(18:Nat)=7 by decide,show¬((18:Nat)=8∨(18:Nat)=9∨(18:Nat)=16) by decide,show¬(18:Nat)=17 by decide,show¬(18:Nat)=10 by decide,if_false,if_true] at hr;subst hr;exact⟨⟨v,rfl,HO3.out⟩,HB3.out⟩
 by_cases k19:kd=19
 ·subst k19
  have hr:=HR.out;simp only[show¬(19:Nat)=6 by decide,show¬(19:Nat)=7 by decide,show¬((19:Nat)=8∨(19:Nat)=9∨(19:Nat)=16) by decide,show¬(19:Nat)=17 by decide,show¬(19:Nat)=10 by decide,show¬(19:Nat)=18 by decide,if_false,if_true] at hr;have HR2:=zz hr;have TK:=zz (KQ ab M n.ref 4 (w1.alloc (.cells (Ae tn ka1 kc1) 54)) (HA.out.below HB2.out) href);have hkl:=HA.out.lenK n.ref 4;have HKI:=zz (HA.out.2.kids n.ref 4);generalize Bl M n.ref 4=ps at TK hkl HKI HR2;clear hr HR H18b;go_wp2_with fail;refine TK.out.mono ?_;rintro e w3 ⟨⟨v,rfl,ho3⟩,hb3⟩;obtain⟨a3,c3,rfl⟩:=(Sl.Aj ho3).form;have HS3:=zz (Sl.Aj ho3);have HB3:=zz (HB2.out.trans (hb3.mono HB2.out.size));clear TK ho3 hb3 e0 e1 e2 e3 e4 e5;go_wp2
  go_loopw [11,68] (fun p q wr=>∃(k:Nat) (u:Value),p=u∧q= .int .i64 (k:Int)∧k≤ps.length∧wr.ownsRow w3.heap.size 5 1 u k ((ps.take k).map (fun x=>u8G (ndAt M x).type))∧Below w3.heap.size w3 wr) (fun _ q wr=>ps.length-(intOf q).toNat)
  case atStart=>exact⟨0,_,rfl,rfl,Nat.zero_le _,⟨rfl,.inl ⟨rfl,rfl⟩⟩,AP⟩
  case round=>
   obtain⟨k,u,hu,rfl,hk,ho,hb⟩:=hrel;have hu:=hu.symm;subst hu;have HBr:=zz hb;have HO:=zz ho;by_cases hlt:k < ps.length
   ·obtain⟨b,o,rfl,_,kcx⟩:=(HS3.out.below HBr.out AA).mapAt hlt
    have TN:=zz ((HA.out.below (HB3.out.trans (hb.mono HB3.out.size))).getN (HKI.out _ (List.getElem_mem hlt)));have htk:ps.take (k+1)=ps.take k++[ps[k]]:=List.take_succ_eq_append_getElem hlt;generalize ps[k]=x at kcx TN htk;have HTK:=zz htk;clear hb ho htk;go_wp2_with fail;refine TN.out.mono ?_;rintro e w4 ⟨ka4,kc4,rfl,ho4,hb4⟩;have HB4:=zz ((HBr.out.trans (hb4.mono HBr.out.size)).alloc (by have:=hb4.size;have:=HBr.out.size;omega) (.cells (Ae (ndAt M x) ka4 kc4) 54));have HO4:=zz ((Av HO.out (Fr.of_below (D:=fun _=>False) hb4) (fun _ _ e=>e)).alloc (.cells (Ae (ndAt M x) ka4 kc4) 54));have hsz:w3.heap.size≤w4.heap.size:=by have:=HBr.out.size;have:=hb4.size;omega
    clear ho4 hb4 TN
    go_wp2_with (at_builtin;refine wpList_append_own_at _ rfl (.tmp 78) (.tmp 81) _ rfl w3.heap.size 5 i0 _ 1 1 Tryz.underlying121 hi0 hz0 hz1 hz2 rfl (by decide) _ k ((ps.take k).map (fun x=>u8G (ndAt M x).type)) rfl (HO4.out.alloc _) ⟨w4.heap.size+1,0,none⟩ 1 1 [u8G (ndAt M x).type] rfl rfl ?_ ?_ ?_ ?_ ?_ ?_)
    all_goals first
     |intro v5 W5 own5 g5 _ at5
     |exact Ju _ _ _ _
     |(unfold maxLen;omega)
     |omega
     |(simp;omega)
     |(intro u hu;simp only[List.mem_singleton] at hu;subst hu;rfl)
    have HO5:=zz (show W5.ownsRow w3.heap.size 5 1 v5 (k+1) ((ps.take (k+1)).map (fun x=>u8G (ndAt M x).type)) from by rw[HTK.out,List.map_append,List.map_take];exact own5);have HB5:=zz (show Below w3.heap.size w3 W5 from(HB4.out.alloc HB4.out.size _).grown g5 (by have:=HB4.out.size;simp at this⊢;omega) (fun q hq=>(HO4.out.lt q hq).1));clear own5 g5 at5;go_wp2;go_roundw
    case rel=>exact⟨k+1,v5,rfl,by go_num,by omega,HO5.out,HB5.out⟩
    case measure=>simp[intOf];omega
   ·obtain rfl:k=ps.length:=by omega
    rw[List.take_length] at ho;have HO2:=zz ho;clear hb ho;go_wp2;go_ret;have hr:=HR2.out;subst hr;refine⟨⟨_,rfl, ?_⟩,HB3.out.trans (HBr.out.mono HB3.out.size)⟩;rw[List.length_map,List.map_map];exact Cw HO2.out HB3.out.size
 have hq:∀m:Nat,kd≠m→((kd:Int)==(m:Int))=false:=fun m h=>by simpa using(show¬(kd:Int)=(m:Int) by omega)
 have q6:=hq 6 k6;have q7:=hq 7 k7;have q8:=hq 8 k8;have q9:=hq 9 k9;have q16:=hq 16 k16;have q17:=hq 17 k17;have q10:=hq 10 k10;have q18:=hq 18 k18;have q19:=hq 19 k19;have hr:=HR.out;rw[if_neg k6,if_neg k7,if_neg (by omega),if_neg k17,if_neg k10,if_neg k18,if_neg k19] at hr;subst hr;clear hq HR;go_wp2;go_ret;exact⟨⟨_,rfl,⟨rfl,.inl ⟨rfl,rfl⟩⟩⟩,HB2.out⟩
end Go.Proofs.YthihjcannjhonaaGreatDoor
namespace Hg
def okT(M:Nat→Option Node)(abv:Nat→Nat)(x:Nat×Node):Bool:=
 (!(x.2.kind==19)||(Ct M abv x.1 x.2).length==x.2.kids.length) && (Ct M abv x.1 x.2).zipIdx.all fun p=>CW M (x.2.kids.getD p.2 0)==p.1
theorem MK(M:Nat→Option Node)(abv:Nat→Nat)(x:Nat×Node):okT M abv x=true↔(x.2.kind=19→(Ct M abv x.1 x.2).length=x.2.kids.length)∧∀i t,(Ct M abv x.1 x.2)[i]? =some t→CW M (x.2.kids.getD i 0)=t:=by
 unfold okT;rw[Bool.and_eq_true,List.all_eq_true];constructor
 ·rintro⟨h1,h2⟩
  refine⟨fun hk=> ?_,fun i t hi=> ?_⟩
  ·rw[hk] at h1
   simpa using h1
  ·have:=h2 (t,i) (List.mem_zipIdx_iff_getElem?.2 hi)
   simpa using this
 ·rintro⟨h1,h2⟩
  refine⟨?_,fun p hp=> ?_⟩
  ·by_cases hk:x.2.kind=19
   ·simp[hk,h1 hk]
   ·simp[hk]
  ·obtain⟨t,i⟩:=p
   have:=h2 i t (List.mem_zipIdx_iff_getElem?.1 hp);simpa using this
def RB(M:Nat→Option Node):Prop:=∀i nd,M i=some nd→nd.ref < 18446744073709551616
theorem RB.at{M:Nat→Option Node}(h:RB M)(i:Nat):(ndAt M i).ref < 18446744073709551616:=by
 unfold ndAt;cases hM:M i with
 |none=>simp[Node.zero]
 |some nd=>exact h i nd hM
theorem EZ(M:Nat→Option Node):∀(f:Nat) (s seen:List Nat) (r:List (Nat×Node)),wk M f s seen=some r→∀x∈r,M x.1=some x.2
 |0,_,_,_,h=>by cases h
 |f+1,[],_,r,h=>by rw[Rq] at h;injection h with h;subst h;intro x hx;simp at hx
 |f+1,i::s,seen,r,h=>by
   rw[EF] at h;cases hM:M i with
   |none=>rw[hM] at h;exact EZ M f s seen r h
   |some n=>
     rw[hM] at h;dsimp only at h;by_cases hi:i∈seen
     ·rw[if_pos hi] at h;exact EZ M f s seen r h
     ·rw[if_neg hi] at h
      cases hw:wk M f (n.kids++s) (i::seen) with
      |none=>rw[hw] at h;cases h
      |some r'=>
        rw[hw] at h;have h:(i,n)::r'=r:=Option.some.inj h;intro x hx;rw[←h] at hx;rcases List.mem_cons.1 hx with e|e
        ·subst e;exact hM
        ·exact EZ M f _ _ r' hw x e
end Hg
namespace Go.Proofs.YthihjcannjhonaaGreatDoor
open Go.RowKit
open Hg (GT gl wk isK ndAt Bl KB CW JY Ct okT RB)
attribute [local go_sem] Oper.semAt_some
def typA(p1 p2 p3 p4:Value)(a:Act):Prop:=∃u0 u5 u6 u7 u8 u9 u10 u11 u12 u13 u14 u15 u16 u17 u18 u19 u20 u21 u22 u23 u24 u25 u26 u27 u28 u29 u30 u31 u32 u33 u34 u35 u36 u37 u38 u39 u40 u41 u42 u43 u44 u45:Value,a={tmps:= #[u0,p1,p2,p3,p4,u5,u6,u7,u8,u9,u10,u11,u12,u13,u14,u15,u16,u17,u18,u19,u20,u21,u22,u23,u24,u25,u26,u27,u28,u29,u30,u31,u32,u33,u34,u35,u36,u37,u38,u39,u40,u41,u42,u43,u44,u45],defers:=[]}
def TypR(ab B:Nat)(S:Nat→Prop)(x:Am)(a:Act)(A:World):Prop:=
 ∃S0 blk,BoxI ab B S0 A∧typA (.pointer (some ⟨B,0,none⟩)) (.pointer (some ⟨B+1,0,none⟩)) (idV x.id) (.pointer (some ⟨blk,0,none⟩)) a∧A.heap[blk]? =some (.cells (Ae x.nd x.ka x.kc) 54 (0,0))∧x.At A∧(∀q,S q↔S0 q∨q=blk)∧¬S0 blk
def TypX(M:Nat→Option Hg.Node)(abv:Nat→Nat)(xs:List (Nat×Hg.Node))(ab B:Nat)(c:Code)(S:Nat→Prop)(A:World):Prop:=c= .ret∧BoxI ab B S A∧A.heap[B+1]? =some (.cells #[.bool false] 4 (0,0))∧xs.all (okT M abv)=false
theorem UY(ab:Nat)(M:Nat→Option Hg.Node)(abv:Nat→Nat)(hV:Rj M abv)(hRB:RB M)(F:Nat)(xs:List (Nat×Hg.Node))(w:World)(hA:ArOk w ab M)(hxs:wk M F [1] []=some xs)(hF:F≤1000000)(hid:∀x∈xs,x.1≤1000000)
 (h18:∀x∈xs,x.2.kind=18→0 < x.2.kids.length) (hidx:∀x∈xs,x.2.kind≠19→(Ct M abv x.1 x.2).length≤x.2.kids.length):
 Calls Tryz.prog 38 #[.pointer (some ⟨ab,0,none⟩)] w fun e w'=>e= .returned (.bool (xs.all (okT M abv)))∧Below w.heap.size w w':=by
 have HA:=zz hA;have HV:=zz hV;have HRB:=zz hRB;have HALL:=zz (And.intro hid (And.intro h18 hidx));have TW:=zz (J2 ab 1);have TR:=zz (IP ab);have HMM:=zz (Hg.EZ M F _ _ _ hxs);clear hV hRB hid h18 hidx;refine(callsIn_wide (n:=5)).1 (callsIn_of_wp_marks Tryz.func38 rfl trivial ?_ rfl);simp only[Tryz.ntmps38,List.size_toArray,List.length_cons,List.length_nil,Nat.reduceAdd,Nat.reduceSub,Array.replicate_succ,Array.replicate_zero,List.push_toArray,List.append_toArray,List.nil_append,List.cons_append];gi_wp2;refine wpIn_wide.2 (MF ?_);have hb0:Below w.heap.size w ((w.alloc (.cells #[.pointer (some ⟨ab,0,none⟩)] 25)).alloc (.cells #[.bool false] 4)):=((AP).alloc AA _).alloc (by simp) _;have h0:((w.alloc (.cells #[.pointer (some ⟨ab,0,none⟩)] 25)).alloc (.cells #[.bool false] 4)).heap[w.heap.size]? =some (.cells #[.pointer (some ⟨ab,0,none⟩)] 25 (0,0)):=(heap_alloc_old _ _ (by simp)).trans (Ac w _);have h1:((w.alloc (.cells #[.pointer (some ⟨ab,0,none⟩)] 25)).alloc (.cells #[.bool false] 4)).heap[w.heap.size+1]? =some (.cells #[.bool false] 4 (0,0)):=by
  have:=Ac (w.alloc (.cells #[.pointer (some ⟨ab,0,none⟩)] 25)) (.cells #[.bool false] 4);rw[show(w.alloc (.cells #[.pointer (some ⟨ab,0,none⟩)] 25)).heap.size=w.heap.size+1 by simp] at this;exact this
 have hz:((w.alloc (.cells #[.pointer (some ⟨ab,0,none⟩)] 25)).alloc (.cells #[.bool false] 4)).heap.size=w.heap.size+2:=by simp
 generalize World.alloc (World.alloc w _) _=W0 at hb0 h0 h1 hz⊢;have e0:=AJ W0 w.heap.size 0 _ _ (0,0) h0;simp at e0;have hHeld:(fun w'=>w'.cell? ⟨w.heap.size,0,none⟩=some (.pointer (some ⟨ab,0,none⟩))) W0.drew:=e0;refine Ao (fun w'=>w'.cell? ⟨w.heap.size,0,none⟩=some (.pointer (some ⟨ab,0,none⟩))) 3 (by kernel_rfl) ?_;refine tz 0 ?_;refine tz 1 ?_;refine AR (i:=2) rfl (by kernel_rfl) (fun K hK=> ?_);go_simp;refine(TR.out _).mono ?_;rintro e w1 ⟨rfl,rfl⟩;refine hK.out _ _ (hHeld) (fun hHeld=> ?_);clear hK K
 try simp only[Act.put,sA,sB,sC,sD,sE,sF]
 refine Af (by kernel_rfl) ?_;simp only[List.drop_succ_cons,List.drop_zero];go_wp2_with fail;refine(TW.out _).mono ?_;rintro e w1 ⟨rfl,rfl⟩;have hz':W0.drew.heap.size=w.heap.size+2:=hz;rw[hz'];have hbW:Below W0.heap.size W0 ((W0.drew.alloc (.cells #[.pointer (some ⟨ab,0,none⟩)] 25)).alloc (.cells #[idV 1] 51)):=(((AP).drew).alloc AA _).alloc (by simp) _;have k1:((W0.drew.alloc (.cells #[.pointer (some ⟨ab,0,none⟩)] 25)).alloc (.cells #[idV 1] 51)).heap[w.heap.size+2]? =some (.cells #[.pointer (some ⟨ab,0,none⟩)] 25 (0,0)):=by
  have:=Ac W0.drew (.cells #[.pointer (some ⟨ab,0,none⟩)] 25);rw[hz'] at this;exact(heap_alloc_old _ _ (by simp[hz'])).trans this
 have k2:((W0.drew.alloc (.cells #[.pointer (some ⟨ab,0,none⟩)] 25)).alloc (.cells #[idV 1] 51)).heap[w.heap.size+2+1]? =some (.cells #[idV 1] 51 (0,0)):=by
  have:=Ac (W0.drew.alloc (.cells #[.pointer (some ⟨ab,0,none⟩)] 25)) (.cells #[idV 1] 51);rw[show(W0.drew.alloc (.cells #[.pointer (some ⟨ab,0,none⟩)] 25)).heap.size=w.heap.size+2+1 by simp[hz']] at this;exact this
 have hzW:((W0.drew.alloc (.cells #[.pointer (some ⟨ab,0,none⟩)] 25)).alloc (.cells #[idV 1] 51)).heap.size=w.heap.size+4:=by simp[hz']
 generalize World.alloc (World.alloc W0.drew _) _=W1 at hbW k1 k2 hzW⊢;have g0:W1.heap[w.heap.size]? =some (.cells #[.pointer (some ⟨ab,0,none⟩)] 25 (0,0)):=(hbW.block _ (by omega)).trans h0;have g1:W1.heap[w.heap.size+1]? =some (.cells #[.bool false] 4 (0,0)):=(hbW.block _ (by omega)).trans h1;have hb1:Below w.heap.size w W1:=hb0.trans (hbW.mono (by omega));obtain⟨⟨mb,c,hAr⟩,hkb⟩:=HA.out;have hseq:=IG ab mb c M w.heap.size 1 (w.heap.size+2+1) (w.heap.size+2) F xs W1 (fun W' hf=>hAr.below (hb1.trans (hf.below' (by omega))) AA) (AJ W1 (w.heap.size+2+1) 0 _ _ (0,0) k2) (AJ W1 (w.heap.size+2) 0 _ _ (0,0) k1) ⟨by omega,by omega,by omega,by omega⟩ (by decide) hkb hxs hF;have HB1:=zz hb1;have HARW:=zz (show∀W',Fr (fun q=>w.heap.size≤q) W1 W'→ArOk W' ab M from fun W' hf=>HA.out.below (hb1.trans (hf.below' (by omega))));clear hA hAr hkb k1 k2 hHeld h0 h1 hb0 hbW e0 TW TR hb1;go_wp2;gi_wp2;refine GV (gf:=135) rfl (enters_of Tryz.func135 (by kernel_rfl) rfl) hseq (Fr.refl _ _) rfl (fun q h=>by rcases h with h|h <;>omega) (by omega)
  (fun S pre A=>BoxI ab w.heap.size S A∧(pre.map Am.strip).all (okT M abv)=true) (fun c S _ A=>TypX M abv xs ab w.heap.size c S A) (fun S pre x a A=>TypR ab w.heap.size S x a A∧(pre.map Am.strip).all (okT M abv)=true) (fun S pre A A' h hf=>⟨h.1.fr hf,h.2⟩) (fun c S pre A A' h hf=>⟨h.1,h.2.1.fr hf,hf.at_ h.2.2.1 (fun k=>k ((h.2.1.2.2 _).2 (.inr rfl))),h.2.2.2⟩) ?hI1 (fun S pre A h q hq=>(h.1.lt q hq).2) ?hI1l
  (fun q=>q=w.heap.size∨q=w.heap.size+1) ⟨⟨g0,⟨_,g1⟩,fun q=>Iff.rfl⟩,rfl⟩ (fun q e=>by rcases e with e|e <;>subst e <;>exact⟨by omega,by omega,by omega⟩) ?assign ?body ?done ?stop
 case hI1=>
  rintro S pre x a A A' ⟨⟨S0,blk,hi,ha,hb,hx,hS,hn⟩,hp⟩ hf;exact⟨⟨S0,blk,hi.fr (hf.imp (fun q _ h h'=>h (.inl ((hS q).2 (.inl h'))))),ha,hf.at_ hb (fun h=>h (.inl ((hS blk).2 (.inr rfl)))),(hx.fr AA hf (fun q e h=>h (.inr e))).more hf.size,hS,hn⟩,hp⟩
 case hI1l=>
  rintro S pre x a A ⟨⟨S0,blk,hi,ha,hb,hx,hS,hn⟩,hp⟩ q hq;rcases(hS q).1 hq with h|h
  ·exact(hi.lt q h).2
  ·subst h;exact(AZ.1 hb).1
 case assign=>
  intro l m S pre x A K hi hpre hx hkb hf hK;gi_wp2;refine hK (fun q=>S q∨q=A.heap.size) _ _ ⟨⟨S,A.heap.size,hi.1.fr ((Fr.refl _ _).alloc _), ?_,Ac A _,Sl.alloc hx AA _|>.more (by simp),fun q=>Iff.rfl,fun h=>by have:=(hi.1.lt _ h).2;omega⟩,hi.2⟩ ((Fr.refl _ _).alloc _) (fun q h=>h.imp (fun h=>h) (fun h=>by omega));exact⟨_,_,_,_,_,_,_,_,_,_,_,_,_,_,_,_,_,_,_,_,_,_,_,_,_,_,_,_,_,_,_,_,_,_,_,_,_,_,_,_,_,_,rfl⟩
 case body=>
  rintro l m S pre x a1 A ⟨⟨S0,blk,⟨hbx,⟨r0,hbr⟩,hSv⟩,ha,hb,hx,hS,hn⟩,hpo⟩ hpre hf;obtain⟨u0,u5,u6,u7,u8,u9,u10,u11,u12,u13,u14,u15,u16,u17,u18,u19,u20,u21,u22,u23,u24,u25,u26,u27,u28,u29,u30,u31,u32,u33,u34,u35,u36,u37,u38,u39,u40,u41,u42,u43,u44,u45,rfl⟩:=ha;have hxm:x.strip∈xs:=hpre.subset (by simp);have hf2:Fr (fun q=>w.heap.size≤q) W1 A:=hf.imp (fun q _ e=>by rcases e with(e|e)|e|e <;>omega);have HAA:=zz (HARW.out A hf2);obtain⟨xi,nd,ka,kc⟩:=x;have hxm:(xi,nd)∈xs:=hxm;have hMx:=HMM.out _ hxm;have hkt:=HA.out.2 xi nd hMx;have hnl:=HA.out.len xi;unfold ndAt at hnl;rw[hMx] at hnl;have hnl:nd.kids.length≤1000000:=hnl;have TWn:=zz (UX ab M abv HV.out xi nd ka kc A HAA.out (HALL.out.1 _ hxm) hx (HRB.out xi nd hMx) (fun h=>⟨HALL.out.2.1 _ hxm h,by
   have h0:=HALL.out.2.1 _ hxm h;have:nd.kids.getD 0 0∈nd.kids:=by
    rw[show nd.kids.getD 0 0=nd.kids[0] from by simp[List.getD,h0]];exact List.getElem_mem _
   exact hkt _ this,HRB.out.at _⟩))
  have hidx:=HALL.out.2.2 _ hxm;have hiff:=Hg.MK M abv (xi,nd);dsimp only at hidx hiff;have HX:=zz (show Sl A A.heap.size (.slice ka nd.kids.length kc) nd.kids.length (nd.kids.map idV) from hx);have HBK:=zz (show A.heap[blk]? =some (.cells (Ae nd ka kc) 54 (0,0)) from hb);have HBX:=zz (And.intro hbx hbr);have HSS:=zz (And.intro hSv hS);have HNO:=zz (show okT M abv (xi,nd)=false→xs.all (okT M abv)=false from fun h=>by
   rw[List.all_eq_false];exact⟨_,hxm,by rw[h];simp⟩)
  have HYES:=zz (show okT M abv (xi,nd)=true→((pre++[(⟨xi,nd,ka,kc⟩:Am)]).map Am.strip).all (okT M abv)=true from fun h=>by
   rw[List.map_append,List.all_append,hpo]
   simp[Am.strip,h])
  have HKT:=zz hkt;have hwl:(Ct M abv xi nd).length≤1000000:=by
   have h4:=HAA.out.lenK nd.ref 4;unfold Ct JY
   repeat' split
   all_goals simp
   exact h4
  generalize Ct M abv xi nd=ws at TWn hidx hiff hwl;have e0:=AJ A blk 0 _ _ (0,0) hb;have eB:=AJ A w.heap.size 0 _ _ (0,0) hbx;have b1:=AJ A blk 1 _ _ (0,0) hb;have b2:=AJ A blk 2 _ _ (0,0) hb;have b3:=AJ A blk 3 _ _ (0,0) hb;have b4:=AJ A blk 4 _ _ (0,0) hb;have b5:=AJ A blk 5 _ _ (0,0) hb;have hbl:=(AZ.1 hb).1;have hBl:=(AZ.1 hbx).1;have hRl:=(AZ.1 hbr).1;simp at e0 eB b1 b2 b3 b4 b5;have HIF:=zz hiff;have HID:=zz hidx;have HRET:=zz (show okT M abv (xi,nd)=false→∀W:World,Fr (fun _=>False) A W→∃S',TypX M abv xs ab w.heap.size .ret S' (W.setCell ⟨w.heap.size+1,0,none⟩ (.bool false))∧Fr S A (W.setCell ⟨w.heap.size+1,0,none⟩ (.bool false))∧∀q,S' q→S q∨A.heap.size≤q from fun hno W hf=>by
   have h1:W.heap[w.heap.size]? =some (.cells #[.pointer (some ⟨ab,0,none⟩)] 25 (0,0)):=hf.at_ hbx (fun h=>h);have h2:W.heap[w.heap.size+1]? =some (.cells #[r0] 4 (0,0)):=hf.at_ hbr (fun h=>h);have h3:(W.setCell ⟨w.heap.size+1,0,none⟩ (.bool false)).heap[w.heap.size+1]? =some (.cells #[.bool false] 4 (0,0)):=heap_setCell_same h2 _;exact⟨S0,⟨rfl,⟨(Below.heap_setCell W ⟨w.heap.size+1,0,none⟩ (.bool false) w.heap.size (by show¬w.heap.size=w.heap.size+1;omega)).trans h1,⟨_,h3⟩,hSv⟩,h3,HNO.out hno⟩,(hf.imp (fun q _ e=>e.elim)).set (p:=⟨w.heap.size+1,0,none⟩) (.inl ((hS _).2 (.inl ((hSv _).2 (.inr rfl))))) _,fun q h=> .inl ((hS q).2 (.inl h))⟩)
  have HGO:=zz (show okT M abv (xi,nd)=true→∀W:World,Fr (fun _=>False) A W→∃S',(BoxI ab w.heap.size S' W∧((pre++[(⟨xi,nd,ka,kc⟩:Am)]).map Am.strip).all (okT M abv)=true)∧Fr S A W∧∀q,S' q→S q∨A.heap.size≤q from fun hyes W hf=>
   ⟨S0,⟨⟨hf.at_ hbx (fun h=>h),⟨r0,hf.at_ hbr (fun h=>h)⟩,hSv⟩,HYES.out hyes⟩,hf.imp (fun q _ e=>e.elim),fun q h=> .inl ((hS q).2 (.inl h))⟩)
  clear hx hbx hbr hSv hS hn hb hpo hpre hf hf2 hxm hMx hkt hiff hidx;gi_wp2_with fail;refine⟨trivial,fun h=>(by cases h),(CallsIn.inRound l (callsIn_wide.2 TWn.out)).mono ?_⟩;rintro e W5 ⟨⟨v,rfl,ho5⟩,hb5⟩;obtain⟨a5,c5,rfl⟩:=(Sl.Aj ho5).form;have HO5:=zz (Sl.Aj ho5);have HB5:=zz hb5;have w0:W5.heap[blk]? =some (.cells (Ae nd ka kc) 54 (0,0)):=(hb5.block blk hbl).trans HBK.out;have d0:=AJ W5 blk 0 _ _ (0,0) w0;have d5:=AJ W5 blk 5 _ _ (0,0) w0;have wr5:W5.heap[w.heap.size+1]? =some (.cells #[r0] 4 (0,0)):=(hb5.block _ hRl).trans HBX.out.2;have dr:=AJ W5 (w.heap.size+1) 0 _ _ (0,0) wr5;have fr5:W5.frozen? ⟨w.heap.size+1,0,none⟩=false:=by simp[World.frozen?,wr5]
  simp at d0 d5 dr;have hl5:blk < W5.heap.size:=Ad hbl hb5.size;have hR5:w.heap.size+1 < W5.heap.size:=Ad hRl hb5.size;have HF5:=zz (Fr.of_below (D:=fun _=>False) hb5);clear TWn ho5 hb5 w0 wr5 e0 eB b1 b2 b3 b4 b5;by_cases hbad:nd.kind=19∧ws.length≠nd.kids.length
  ·have hk:((nd.kind:Int)==19)=true:=by simp[hbad.1]
   have hno:okT M abv (xi,nd)=false:=by
    rw[←Bool.not_eq_true];intro h;exact hbad.2 ((HIF.out.1 h).1 hbad.1)
   have hlq:((ws.length:Int) !=(nd.kids.length:Int))=true:=by simp;omega
   have hlq2:¬ws.length=nd.kids.length:=hbad.2;have HFIN:=zz (HRET.out hno W5 HF5.out);clear hbad hno;gi_wp2;exact HFIN.out
  have hle:ws.length≤nd.kids.length:=by
   by_cases h19:nd.kind=19
   ·have:ws.length=nd.kids.length:=by
     rcases Nat.lt_trichotomy ws.length nd.kids.length with h|h|h
     ·exact absurd ⟨h19,by omega⟩ hbad
     ·exact h
     ·exact absurd ⟨h19,by omega⟩ hbad
    omega
   ·exact HID.out h19
  have hrest:(nd.kind=19→ws.length=nd.kids.length):=fun h=>by
   rcases Nat.lt_trichotomy ws.length nd.kids.length with h'|h'|h'
   ·exact absurd ⟨h,by omega⟩ hbad
   ·exact h'
   ·exact absurd ⟨h,by omega⟩ hbad
  have HREST:=zz hrest;have hq19:((nd.kind:Int)==19)=false∨(((nd.kind:Int)==19)=true∧((ws.length:Int) !=(nd.kids.length:Int))=false∧ws.length=nd.kids.length):=by
   by_cases h:nd.kind=19
   ·exact .inr ⟨by simp[h],by simp[hrest h],hrest h⟩
   ·exact .inl (by simp;omega)
  clear hbad hrest;rcases hq19 with hq19|⟨hq19,hlq,hlq2⟩
  all_goals
   gi_wp2
   gi_loopw [31] (fun p wr=>∃i:Nat,p= .int .i64 (i:Int)∧i≤ws.length∧Below W5.heap.size W5 wr∧∀k t,k < i→ws[k]? =some t→CW M (nd.kids.getD k 0)=t) (fun p wr=>ws.length-(intOf p).toNat)
   case atStart=>exact⟨0,rfl,Nat.zero_le _,AP,fun k t hk=>by omega⟩
   case round=>
    obtain⟨i,rfl,hi,hbr,hok⟩:=hrel;have HOK:=zz hok;have HBR:=zz hbr;by_cases hlt:i < ws.length
    ·obtain⟨b,o,rfl,_,kcw⟩:=(show Sl wr wr.heap.size (.slice a5 ws.length c5) ws.length (ws.map u8G) from(HO5.out.below hbr AA).more hbr.size).mapAt hlt
     have hki:i < nd.kids.length:=by omega
     obtain⟨gk,ok,rfl,hgl,kck⟩:=HX.out.mapAt hki;have hkm:nd.kids[i]∈nd.kids:=List.getElem_mem hki;have hkl:=HKT.out _ hkm;have hgd:nd.kids.getD i 0=nd.kids[i]:=by simp[List.getD,hki]
     have hws:ws[i]? =some ws[i]:=Aa hlt;have hAk:ArOk wr.drew ab M:=HAA.out.below ((HB5.out.trans (hbr.mono HB5.out.size)).drew);have hrk:=HRB.out.at nd.kids[i];generalize nd.kids[i]=kid at kck hkl hgd hrk;generalize ws[i]=tw at kcw hws;have TT:=zz (P9 ab M kid wr.drew hAk hkl hrk);have hBr:w.heap.size < wr.heap.size:=by have:=hbr.size;omega
     have hbr5:blk < wr.heap.size:=by have:=hbr.size;omega
     have hgr:gk < wr.heap.size:=by have:=hbr.size;have:=HB5.out.size;omega
     have hbA:Below A.heap.size A wr:=HB5.out.trans (hbr.mono HB5.out.size);have q0:wr.cell? ⟨w.heap.size,0,none⟩=some (.pointer (some ⟨ab,0,none⟩)):=by
      have:=AJ A w.heap.size 0 _ _ (0,0) HBX.out.1;rw[hbA.cell (p:=⟨w.heap.size,0,none⟩) hBl];simpa using this
     have q5:wr.cell? ⟨blk,5,none⟩=some (.slice (some ⟨gk,ok,none⟩) nd.kids.length kc):=by
      have:=AJ A blk 5 _ _ (0,0) HBK.out;rw[hbA.cell (p:=⟨blk,5,none⟩) hbl];simpa using this
     have qk:wr.cell? ⟨gk,ok+i,none⟩=some (idV kid):=(hbA.cell (p:=⟨gk,ok+i,none⟩) hgl).trans kck;have wr6:wr.heap[w.heap.size+1]? =some (.cells #[r0] 4 (0,0)):=(hbA.block _ hRl).trans HBX.out.2;have HWR:=zz wr6;have HGD:=zz hgd;have HWS:=zz hws;have hHeld:(fun w'=>w'.cell? ⟨w.heap.size,0,none⟩=some (.pointer (some ⟨ab,0,none⟩))∧w'.cell? ⟨blk,5,none⟩=some (.slice (some ⟨gk,ok,none⟩) nd.kids.length kc)∧w'.cell? ⟨gk,ok+i,none⟩=some (idV kid)) wr.drew:=⟨q0,q5,qk⟩;clear hok hbr hAk hkm hbA hgd hws wr6 q0 q5 qk;gi_wp2;refine BA (fun w'=>w'.cell? ⟨w.heap.size,0,none⟩=some (.pointer (some ⟨ab,0,none⟩))∧w'.cell? ⟨blk,5,none⟩=some (.slice (some ⟨gk,ok,none⟩) nd.kids.length kc)∧w'.cell? ⟨gk,ok+i,none⟩=some (idV kid)) 8 (by kernel_rfl) (by kernel_rfl) (by rintro⟨_,_,h⟩;exact h) ?_;refine tz 0 ?_;refine tz 1 ?_;refine tz 2 ?_;refine tz 3 ?_;refine tz 4 ?_;refine tz 5 ?_;refine tz 7 ?_;refine AR (i:=6) rfl (by kernel_rfl) (fun K hK=> ?_);go_simp;refine TT.out.mono ?_;rintro e W6 ⟨rfl,hb6⟩;have HB6:=zz hb6;clear TT;refine hK.out _ _ (⟨(hb6.cell (p:=⟨w.heap.size,0,none⟩) hBr).trans hHeld.1,(hb6.cell (p:=⟨blk,5,none⟩) hbr5).trans hHeld.2.1,(hb6.cell (p:=⟨gk,ok+i,none⟩) hgr).trans hHeld.2.2⟩) (fun hHeld=> ?_);clear hK K
     try simp only[Act.put,sA,sB,sC,sD,sE,sF]
     refine Af (by kernel_rfl) ?_;simp only[List.drop_succ_cons,List.drop_zero];have wr7:W6.heap[w.heap.size+1]? =some (.cells #[r0] 4 (0,0)):=(HB6.out.block _ (show w.heap.size+1 < wr.heap.size from(AZ.1 HWR.out).1)).trans HWR.out;have dr7:=AJ W6 (w.heap.size+1) 0 _ _ (0,0) wr7;have fr7:W6.frozen? ⟨w.heap.size+1,0,none⟩=false:=by simp[World.frozen?,wr7]
     simp at dr7;have hl7:=(AZ.1 wr7).1;have HBR6:=zz (show Below W5.heap.size W5 W6 from HBR.out.trans (Below.mono (show Below wr.heap.size wr W6 from⟨HB6.out.os,HB6.out.tape,HB6.out.output,HB6.out.size,HB6.out.block⟩) HBR.out.size));clear wr7;by_cases heq:CW M kid=tw
     ·have hqe:((CW M kid:Int) !=(tw:Int))=false:=by simp[heq]
      have HOK2:=zz (show∀k t,k < i+1→ws[k]? =some t→CW M (nd.kids.getD k 0)=t from fun k t hk ht=>by
       by_cases e:k=i
       ·subst e
        rw[HGD.out,heq];rw[HWS.out] at ht;injection ht
       ·exact HOK.out k t (by omega) ht)
      clear hHeld dr7 fr7;go_wp2;gi_wp2;go_roundw
      case rel=>exact⟨i+1,by go_num,by omega,HBR6.out,HOK2.out⟩
      case measure=>simp[intOf];omega
     ·have hqe:((CW M kid:Int) !=(tw:Int))=true:=by simp;omega
      have hno:okT M abv (xi,nd)=false:=by
       rw[←Bool.not_eq_true];intro h;exact heq (by rw[←HGD.out];exact(HIF.out.1 h).2 i tw HWS.out)
      have HFIN:=zz (HRET.out hno W6 (HF5.out.trans (Fr.of_below HBR6.out)));clear hno hHeld heq;go_wp2;gi_wp2;exact HFIN.out
    ·obtain rfl:i=ws.length:=by omega
     have hyes:okT M abv (xi,nd)=true:=HIF.out.2 ⟨HREST.out,fun k t hk=>HOK.out k t (Ah.1 hk).1 hk⟩;have HFIN:=zz (HGO.out hyes wr (HF5.out.trans (Fr.of_below hbr)));clear hyes hok hbr;gi_wp2;exact HFIN.out
 case done=>
  rintro S ys W hys ⟨⟨hbx,⟨r0,hbr⟩,hSv⟩,hall⟩ hK hnS hf;rw[hys] at hall;have fB:W.frozen? ⟨w.heap.size+1,0,none⟩=false:=by simp[World.frozen?,hbr]
  have eB:=AJ W (w.heap.size+1) 0 _ _ (0,0) hbr;simp at eB;have hl2:=(AZ.1 hbr).1;have hne:¬w.heap.size+1=W1.heap.size:=by omega
  have hK2:(W.setCell ⟨w.heap.size+1,0,none⟩ (.bool true)).heap[W1.heap.size]? =some (.deferred (some [])):=(Below.heap_setCell W ⟨w.heap.size+1,0,none⟩ (.bool true) W1.heap.size (fun e=>hne e.symm)).trans hK;have hfs:=hf.set (p:=⟨w.heap.size+1,0,none⟩) (.inl (.inl (.inr rfl))) (.bool true);have hbs:(W.setCell ⟨w.heap.size+1,0,none⟩ (.bool true)).heap[w.heap.size+1]? =some (.cells #[.bool true] 4 (0,0)):=heap_setCell_same hbr _;have hpf:=CY (W.setCell ⟨w.heap.size+1,0,none⟩ (.bool true)) W1.heap.size (.deferred none);have hcell:((W.setCell ⟨w.heap.size+1,0,none⟩ (.bool true)).putObj W1.heap.size (.deferred none)).cell? ⟨w.heap.size+1,0,none⟩=some (.bool true):=by
   have:=AJ _ (w.heap.size+1) 0 _ _ (0,0) (hpf.at_ hbs hne);simpa using this
  have HFIN:=zz (show Below w.heap.size w ((W.setCell ⟨w.heap.size+1,0,none⟩ (.bool true)).putObj W1.heap.size (.deferred none)) from by
   have h1:=HB1.out.trans ((hfs.imp (D':=fun q=>w.heap.size≤q) (fun q _ e=>by rcases e with(e|e)|e|e <;>omega)).below' (by omega));exact h1.trans ((hpf.imp (D':=fun q=>w.heap.size≤q) (fun q _ e=>by omega)).below' h1.size))
  clear hbx hbr hSv hf hfs hbs hpf;gi_wp2;refine⟨by simp,.inl ⟨_,_,rfl,run_takeDeferred hK2, ?_⟩⟩;refine⟨.bool true, ?_,by rw[hall],HFIN.out⟩
  simp[results,Tryz.results38,go_sem,hcell]
 case stop=>
  rintro c S pre W hpre ⟨rfl,⟨hbx,-,hSv⟩,hbr,hall⟩ hK hnS hf;have hne:¬w.heap.size+1=W1.heap.size:=by omega
  have hpf:=CY W W1.heap.size (.deferred none);have hcell:(W.putObj W1.heap.size (.deferred none)).cell? ⟨w.heap.size+1,0,none⟩=some (.bool false):=by
   have:=AJ _ (w.heap.size+1) 0 _ _ (0,0) (hpf.at_ hbr hne);simpa using this
  have HFIN:=zz (show Below w.heap.size w (W.putObj W1.heap.size (.deferred none)) from by
   have h1:=HB1.out.trans ((hf.imp (D':=fun q=>w.heap.size≤q) (fun q _ e=>by rcases e with(e|e)|e|e <;>omega)).below' (by omega));exact h1.trans ((hpf.imp (D':=fun q=>w.heap.size≤q) (fun q _ e=>by omega)).below' h1.size))
  clear hbx hbr hSv hf hpf;gi_wp2;refine⟨by simp,.inl ⟨_,_,rfl,run_takeDeferred hK, ?_⟩⟩;refine⟨.bool false, ?_,by rw[hall],HFIN.out⟩
  simp[results,Tryz.results38,go_sem,hcell]
end Go.Proofs.YthihjcannjhonaaGreatDoor
namespace Hg
def Pt(M:Nat→Option Node):Prop:=((Bq M).map (Cf M)).Nodup∧(∀m∈Bq M,((BI M m).map (Cf M)).Nodup)∧∀m∈Bq M,∀f∈BI M m,∃F xs,wk M F [f] []=some xs∧F≤1000000∧(Bo xs).Nodup
end Hg
namespace Go.Proofs.YthihjcannjhonaaGreatDoor
open Go.RowKit
open Hg (GT gl wk isK ndAt Bl Bq BI KB Cf CW Bo Pt)
end Go.Proofs.YthihjcannjhonaaGreatDoor
namespace Hg
def JS(M:Nat→Option Node)(id:Nat):List Nat→List (Nat×Nat)→List Nat→Option (List (Nat×Nat)×List Nat)
 |[],deep,next=>some (deep,next)
 |k::ks,deep,next=>if (gl deep k).isSome∨(M k).isNone∨200≤(gl deep id).getD 0∨1000000≤deep.length∨1000000≤next.length then none else JS M id ks ((k,(gl deep id).getD 0+1)::deep) (next++[k])
def Fe(M:Nat→Option Node):List Nat→List (Nat×Nat)→List Nat→Option (List (Nat×Nat)×List Nat)
 |[],deep,next=>some (deep,next)
 |id::ids,deep,next=>if (M id).isNone then none else match JS M id (ndAt M id).kids deep next with
   |none=>none
   |some r=>Fe M ids r.1 r.2
def tRun(M:Nat→Option Node):Nat→List Nat→List (Nat×Nat)→Option (List (Nat×Nat))
 |0,_,_=>none
 |_+1,[],deep=>some deep
 |f+1,i::l,deep=>match Fe M (i::l) deep [] with
   |none=>none
   |some r=>tRun M f r.2 r.1
structure Xf (M:Nat→Option Node) (F:Nat) (R:List (Nat×Nat)):Prop where
 root:∃nd,M 1=some nd∧nd.kind=1
 run:tRun M F [1] [(1,1)]=some R
 all:∀i,(gl R i).isSome=(M i).isSome
 refs:∀i nd,M i=some nd→nd.ref < 18446744073709551616∧(nd.ref=0∨(M nd.ref).isSome=true)
end Hg
namespace Go.Proofs.YthihjcannjhonaaGreatDoor
open Go.RowKit Go.ChangeMaps Go.MapKept Go.WideShapes
open Go.WideElems (Fit rd rg)
open Hg (GT gl wk isK ndAt Bl KB JS Fe tRun Xf)
theorem UE{R:Value→Option (DataW Value×List MemPlace)}{w:World}{b n:Nat}{D:DataW Value}(ho:w.ownsMap Tryz.prog 51 R b n D):
 ∃es:List (Lit×DataW Value),D= .map es∧(es.map (·.1)).Nodup∧∀p∈es,∃i,i < Ai∧p.1=idL i:=by
 obtain⟨es,he,hp⟩:=ho.tidy BP;refine⟨es,he, ?_,fun p hpm=> ?_⟩
 ·rw[List.Nodup,List.pairwise_map]
  exact hp
 ·obtain⟨es0,clock,hb,F,hs,hD⟩:=ho
  rw[he] at hD;injection hD with hD;subst hD;have hm:=(sorted_perm _).mem_iff.1 hpm;obtain⟨v,hv⟩:=Maps.fit_keys F p hm;obtain⟨x,e1,e2,hw⟩:=Maps.keyOf_int_inv Tryz.underlying51 hv;have hw':0≤x∧x≤18446744073709551615:=by
   have m1:IntKind.u64.min=0:=rfl;have m2:IntKind.u64.max=18446744073709551615:=rfl;simpa[Lit.wf,m1,m2] using hw
  obtain⟨i,rfl⟩:=Int.eq_ofNat_of_zero_le hw'.1;exact⟨i,by unfold Ai;omega,e2⟩
theorem XA{R1 R2:Value→Option (DataW Value×List MemPlace)}{w1 w2:World}{b1 n1 b2 n2:Nat}{D1 D2:DataW Value}(h1:w1.ownsMap Tryz.prog 51 R1 b1 n1 D1)(h2:w2.ownsMap Tryz.prog 51 R2 b2 n2 D2)
 (h:∀i,i < Ai→Maps.has D1 (idL i)=Maps.has D2 (idL i)):Maps.size D1=Maps.size D2:=by
 obtain⟨e1,rfl,n1,k1⟩:=UE h1;obtain⟨e2,rfl,n2,k2⟩:=UE h2;have hmem:∀(es:List (Lit×DataW Value)) i,i < Ai→(Maps.has (.map es) (idL i)=true↔idL i∈es.map (·.1)):=by
  intro es i hi;rw[Maps.has_eq,List.any_eq_true];constructor
  ·rintro⟨p,hp,hs⟩
   exact List.mem_map.2 ⟨p,hp,WideAt.sameKey_eq hs⟩
  ·intro hm
   obtain⟨p,hp,e⟩:=List.mem_map.1 hm;exact⟨p,hp,by rw[e];exact WideAt.sameKey_self (BP.key (BQ hi))⟩
 have hp:(e1.map (·.1)).Perm (e2.map (·.1)):=by
  rw[List.perm_ext_iff_of_nodup n1 n2];intro l;constructor
  ·intro hl
   obtain⟨p,hp,rfl⟩:=List.mem_map.1 hl;obtain⟨i,hi,e⟩:=k1 p hp;rw[e] at hl⊢;rw[←hmem _ i hi,←h i hi,hmem _ i hi];exact hl
  ·intro hl
   obtain⟨p,hp,rfl⟩:=List.mem_map.1 hl;obtain⟨i,hi,e⟩:=k2 p hp;rw[e] at hl⊢;rw[←hmem _ i hi,h i hi,hmem _ i hi];exact hl
 have:=hp.length_eq;simpa[Maps.size_eq] using this
theorem EY.lookW{Z:Nat→Prop}{w:World}{ab mb c:Nat}{M:Nat→Option Hg.Node}(h:EY Z w ab mb c M){id:Nat}(hid:id < Ai):
 ∃ka kc,Sl w w.heap.size (.slice ka (ndAt M id).kids.length kc) (ndAt M id).kids.length ((ndAt M id).kids.map idV)∧∀W,Below w.heap.size w W→
   (Instr.lookup 61 (.map (some mb)) (.int .u64 (id:Int)) true).run Tryz.prog W= .ok (.tuple #[ndV (ndAt M id) ka kc,.bool (M id).isSome]) W∧
   (Instr.lookup 61 (.map (some mb)) (.int .u64 (id:Int)) false).run Tryz.prog W= .ok (ndV (ndAt M id) ka kc) W:=by
 obtain⟨⟨D,ho,hc,hk⟩,hbd⟩:=h.map;have hx:=hk id hid;have hz:∀W,(zeroValue 54).run Tryz.prog W= .ok (ndV Hg.Node.zero none 0) W:=fun W=>by kernel_rfl
 unfold ndAt;cases hM:M id with
 |none=>
   rw[hM] at hx;have hx':Maps.has D (idL id)=false:=hx;refine⟨none,0,Sl.nil _ _,fun W hb=> ?_⟩;have ho2:=ho.kept (below_grown hb none) (by simp);obtain⟨v,ps,hrun,hv⟩:=ho2.look_ok BP Tryz.underlying61 (hz W) (zd:= .held (ndV Hg.Node.zero none 0)) (zp:=[]) rfl (BQ hid);obtain⟨v2,ps2,hrun2,hv2⟩:=ho2.lookup BP Tryz.underlying61 (hz W) (zd:= .held (ndV Hg.Node.zero none 0)) (zp:=[]) rfl (BQ hid);simp only[rawR,Option.some.injEq,Prod.mk.injEq] at hv hv2;rw[Maps.atKey_of_not_has hx'] at hv hv2;have e:v=ndV Hg.Node.zero none 0:=by simpa using hv.1
   have e2:v2=ndV Hg.Node.zero none 0:=by simpa using hv2.1
   exact⟨by rw[hrun,hx',e];rfl,by rw[hrun2,e2];rfl⟩
 |some nd=>
   rw[hM] at hx;obtain⟨ka,kc,h1,h2,h3⟩:=hx;refine⟨ka,kc,h2,fun W hb=> ?_⟩;have ho2:=ho.kept (below_grown hb none) (by simp);obtain⟨v,ps,hrun,hv⟩:=ho2.look_ok BP Tryz.underlying61 (hz W) (zd:= .held (ndV Hg.Node.zero none 0)) (zp:=[]) rfl (BQ hid);obtain⟨v2,ps2,hrun2,hv2⟩:=ho2.lookup BP Tryz.underlying61 (hz W) (zd:= .held (ndV Hg.Node.zero none 0)) (zp:=[]) rfl (BQ hid);simp only[rawR,Option.some.injEq,Prod.mk.injEq] at hv hv2;rw[h1] at hv hv2;have e:v=ndV nd ka kc:=by simpa using hv.1
   have e2:v2=ndV nd ka kc:=by simpa using hv2.1
   exact⟨by rw[hrun,Maps.has_true_of_atKey h1,e];rfl,by rw[hrun2,e2];rfl⟩
theorem Qa{k:TypeId}{R:Value→Option (DataW Value×List MemPlace)}{w w':World}{b r n:Nat}{D:DataW Value}{left:Lit→Bool}{cnt:Nat}(h:w.ranges Tryz.prog k R b r n D left cnt)(hb:Below w.heap.size w w'):w'.ranges Tryz.prog k R b r n D left cnt:=by
 have h1:=h.lt;have h2:=h.owns.lt;obtain⟨es,clock,since,seen,c0,e1,e2,e3,e4,e5,e6⟩:=h;exact⟨es,clock,since,seen,c0,(hb.block b h2).trans e1,e2,e3,e4,(hb.block r h1).trans e5,e6⟩
def dV(l:List (Nat×Nat)):List (Nat×Value):=l.map fun p=>(p.1,.int .i64 (p.2:Int))
theorem XD(l:List (Nat×Nat))(k:Nat):gl (dV l) k=(gl l k).map fun d=> .int .i64 (d:Int):=Hg.ZH (fun d:Nat=>Value.int .i64 (d:Int)) l k
structure LvSt (mk:Nat) (w0 wr:World) (u:Value) (deep:List (Nat×Nat)) (next:List Nat):Prop where
 own:wr.ownsRow w0.heap.size 51 1 u next.length (next.map idV)
 mp:IMap wr mk (dV deep)
 fr:Fr (fun q=>q=mk∨w0.heap.size≤q) w0 wr
 top:∀x∈next,x < Ai
 len:next.length≤1000000
theorem Yb(n:Hg.Node)(ka:Option Addr)(kc:Nat)(W:World):(Instr.field 54 (ndV n ka kc) 5).run Tryz.prog W= .ok (.slice ka n.kids.length kc) W:=by kernel_rfl
end Go.Proofs.YthihjcannjhonaaGreatDoor
namespace Hg
def GA(M:Nat→Option Node)(ks:List Nat):Bool:=ks.foldl (fun _ k=>(ndAt M k).kind==10) false
def IC(M:Nat→Option Node)(par:Nat→Nat×Int)(id:Nat)(n:Node):Bool:=GA M n.kids==((ndAt M (par id).1).kind==3)
end Hg
namespace Go.Proofs.YthihjcannjhonaaGreatDoor
open Go.RowKit
open Hg (GT gl wk isK ndAt Bl KB GA IC)
theorem Wt(a b:Nat):((a:Int)==(b:Int))=(a==b):=by
 by_cases h:a=b
 ·subst h;rw[beq_self_eq_true,beq_self_eq_true]
 ·rw[beq_eq_false_iff_ne.2 h,beq_eq_false_iff_ne.2 (by omega)]
theorem QZ(ab:Nat)(M:Nat→Option Hg.Node)(par:Nat→Nat×Int)(hp:MC M par)(id:Nat)(n:Hg.Node)(ka:Option Addr)(kc:Nat)(w:World)(hA:ArOk w ab M)
 (hs:Sl w w.heap.size (.slice ka n.kids.length kc) n.kids.length (n.kids.map idV)) (hl:n.kids.length≤1000000) (hk:∀k∈n.kids,k < Ai):
 Calls Tryz.prog 87 #[.pointer (some ⟨ab,0,none⟩),.int .u64 (id:Int),ndV n ka kc] w fun e w'=>e= .returned (.bool (IC M par id n))∧Below w.heap.size w w':=by
 have hb0:Below w.heap.size w (w.alloc (.cells (Ae n ka kc) 54)):=(AP).alloc AA _;have hn0:=Ac w (.cells (Ae n ka kc) 54);simp only[Ae] at hb0 hn0;have HA:=zz hA;have HS:=zz hs;have HK:=zz hk;have TP:=zz (hp.call (hA.below hb0) id);unfold IC;generalize hr:(GA M n.kids==((ndAt M (par id).1).kind==3))=r;have HR:=zz hr;generalize(par id)=pk at TP HR;obtain⟨p,pi⟩:=pk;dsimp only at TP HR;clear hA hs hk hp hr;go_enter Tryz.func87,Tryz.ntmps87;go_wp2_with fail;generalize World.alloc w _=W0 at TP hb0 hn0⊢;have HB0:=zz hb0;have hz0:=hb0.size;have HN0:=zz hn0;clear hb0 hn0;refine TP.out.mono ?_;rintro e w1 ⟨rfl,hpl,hb1⟩;have HB1:=zz (HB0.out.trans (hb1.mono hz0));have HB01:=zz hb1;have TG:=zz ((HA.out.below HB1.out).getN hpl);clear TP hb1;go_wp2_with fail;refine TG.out.mono ?_;rintro e w2 ⟨ka2,kc2,rfl,ho2,hb2⟩;have hb3:=(hb2.alloc hb2.size (.cells (Ae (ndAt M p) ka2 kc2) 54));have hn3:=Ac w2 (.cells (Ae (ndAt M p) ka2 kc2) 54);have e5:=AJ (w2.alloc (.cells (Ae (ndAt M p) ka2 kc2) 54)) w.heap.size 5 _ _ (0,0) (((HB01.out.trans (hb3.mono HB01.out.size)).block w.heap.size (by have:=(AZ.1 HN0.out).1;omega)).trans HN0.out);simp only[Ae] at hb3 hn3 e5;simp at e5;clear TG ho2 hb2;have HR2:=zz (show(GA M n.kids==((ndAt M p).kind==3))=r from HR.out);go_wp2;generalize World.alloc w2 _=W3 at hb3 hn3 e5⊢;have HB3:=zz (HB1.out.trans (hb3.mono HB1.out.size));have HN3:=zz hn3;have HW2:=zz (show w2.heap.size < W3.heap.size from(AZ.1 hn3).1);clear hn3 hb3 e5;generalize w2.heap.size=nb at HN3 HW2⊢
 go_loopw [11,31] (fun p q wr=>∃i:Nat,p= .bool (GA M (n.kids.take i))∧q= .int .i64 (i:Int)∧i≤n.kids.length∧Below W3.heap.size W3 wr) (fun _ q wr=>n.kids.length-(intOf q).toNat)
 case atStart=>exact⟨0,by simp[GA],rfl,Nat.zero_le _,AP⟩
 case round=>
  obtain⟨i,rfl,rfl,hi,hb⟩:=hrel;have HB:=zz hb;have hzr:=hb.size;have hb4:=HB3.out.trans (hb.mono HB3.out.size);have HB4:=zz hb4;by_cases hlt:i < n.kids.length
  ·obtain⟨b,o,rfl,_,kck⟩:=(HS.out.below hb4 AA).mapAt hlt
   have hkt:=HK.out _ (List.getElem_mem hlt);have hlast:GA M (n.kids.take (i+1))=((ndAt M n.kids[i]).kind==10):=by
    rw[List.take_succ_eq_append_getElem hlt];unfold GA;rw[List.foldl_append];rfl
   generalize n.kids[i]=k at kck hkt hlast;have TG:=zz ((HA.out.below hb4).getN hkt);rw[←Wt] at hlast;have HLA:=zz hlast;generalize GA M (n.kids.take i)=l0;clear hb hb4 hlast;go_wp2_with fail;refine TG.out.mono ?_;rintro e w5 ⟨ka5,kc5,rfl,ho5,hb5⟩;have HB5:=zz ((HB.out.trans (hb5.mono hzr)).alloc (HB.out.trans (hb5.mono hzr)).size (.cells (Ae (ndAt M k) ka5 kc5) 54));clear TG ho5 hb5;go_wp2;go_roundw
   case rel=>exact⟨i+1,by rw[HLA.out];rfl,by go_num,by omega,HB5.out⟩
   case measure=>simp[intOf];omega
  ·obtain rfl:i=n.kids.length:=by omega
   rw[List.take_length];have hlk:(wr.cell? ⟨nb,0,none⟩)=some (.int .u8 ((ndAt M p).kind:Int)):=by
    have:=AJ wr nb 0 _ _ (0,0) ((HB.out.block nb HW2.out).trans HN3.out);simpa using this
   have hr:=HR2.out;rw[←Wt] at hr;have HR3:=zz hr;generalize GA M n.kids=l1 at HR3⊢;clear hb hb4 hr;go_wp2;go_ret;exact⟨AQ HR3.out,HB4.out⟩
end Go.Proofs.YthihjcannjhonaaGreatDoor
namespace Go.Proofs.YthihjcannjhonaaGreatDoor
open Go.RowKit
open Hg (GT gl wk isK ndAt Bl KB)
def MW(M:Nat→Option Hg.Node)(n:Hg.Node):Prop:=
 n.ref < 18446744073709551616∧n.name.length≤1000000∧
 ((n.kind = 2 ∧ n.name ≠ [] ∧ Gg n.name = true ∧ n.type = 0 ∧ n.num = 0 ∧ n.ref = 0) ∨
  ((n.kind=3∨n.kind=4∨n.kind=6)∧n.name≠[]∧Gg n.name=true∧(n.type=1∨n.type=2)∧n.num=0∧n.ref=0)∨
  ((n.kind=7∨n.kind=15)∧n.name=[]∧n.type=0∧n.num=0∧n.ref≠0∧((ndAt M n.ref).kind=4∨(ndAt M n.ref).kind=6))∨
  (n.kind=19∧n.name=[]∧n.type=0∧n.num=0∧n.ref≠0∧(ndAt M n.ref).kind=3)∨
  (n.kind=13∧n.name=[]∧n.type=0∧(0≤n.num∧n.num≤9223372036854775807)∧n.ref=0)∨
  (n.kind=14∧n.name=[]∧n.type=0∧(0≤n.num∧n.num≤1)∧n.ref=0)∨
  (n.kind=18∧n.name=[]∧n.type=0∧(1≤n.num∧n.num≤13)∧n.ref=0)∨
  ((n.kind=1∨n.kind=5∨n.kind=8∨n.kind=9∨n.kind=10∨n.kind=11∨n.kind=12∨n.kind=16∨n.kind=17∨n.kind=20)∧n.name=[]∧n.type=0∧n.num=0∧n.ref=0))
end Go.Proofs.YthihjcannjhonaaGreatDoor
namespace Hg
def ownD(k:Nat):Nat:=if k=16∨k=17∨k=18∨k=19 then 1 else 0
def Di(M:Nat→Option Node):Nat→Nat→Nat
 |0,_=>0
 |l+1,id=>if (M id).isNone then 0 else ownD (ndAt M id).kind+(ndAt M id).kids.foldl (fun m k=>max m (Di M l k+(if (ndAt M k).kind=5∧(ndAt M id).kind≠3 then 1 else 0))) 0
def EW(M:Nat→Option Node)(l kd m k:Nat):Nat:=max m (Di M l k+(if (ndAt M k).kind=5∧kd≠3 then 1 else 0))
theorem Ip(M:Nat→Option Node)(l id:Nat):Di M (l+1) id=if (M id).isNone then 0 else ownD (ndAt M id).kind+(ndAt M id).kids.foldl (EW M l (ndAt M id).kind) 0:=rfl
theorem YE(k:Nat):ownD k≤1:=by unfold ownD;split <;>omega
theorem LX(M:Nat→Option Node):∀(l id:Nat),Di M l id≤2*l
 |0,_=>AA
 |l+1,id=>by
   rw[Ip];split
   ·omega
   ·have h:∀(ks:List Nat) (m:Nat),m≤2*l+1→ks.foldl (EW M l (ndAt M id).kind) m≤2*l+1:=by
     intro ks
     induction ks with
     |nil=>intro m h;exact h
     |cons k ks ih=>
       intro m h;refine ih _ ?_;have:=LX M l k;unfold EW
       split <;>omega
    have h1:=h (ndAt M id).kids 0 (by omega);have h2:=YE (ndAt M id).kind;omega
theorem RY(M:Nat→Option Node)(l kd:Nat)(ks:List Nat):ks.foldl (EW M l kd) 0≤2*l+1:=by
 have h:∀(ks:List Nat) (m:Nat),m≤2*l+1→ks.foldl (EW M l kd) m≤2*l+1:=by
  intro ks
  induction ks with
  |nil=>intro m h;exact h
  |cons k ks ih=>
    intro m h;refine ih _ ?_;have:=LX M l k;unfold EW
    split <;>omega
 exact h ks 0 (by omega)
end Hg
namespace Go.Proofs.YthihjcannjhonaaGreatDoor
open Go.RowKit
open Hg (GT gl wk isK ndAt Bl KB Di EW ownD)
theorem VU(ab:Nat)(M:Nat→Option Hg.Node):∀(l:Nat),l≤1000→∀(w:World) (id:Nat),ArOk w ab M→id < Ai→
 Calls Tryz.prog 88 #[.pointer (some ⟨ab,0,none⟩),.int .u64 (id:Int),.int .i64 (l:Int)] w fun e w'=>e= .returned (.int .i64 (Di M l id:Int))∧Below w.heap.size w w':=by
 intro l
 induction l with
 |zero=>
   intro hl w id hA hid;have TG:=zz (hA.getN hid);clear hA;go_enter Tryz.func88,Tryz.ntmps88;go_wp2_with fail;refine TG.out.mono ?_;rintro e w1 ⟨ka,kc,rfl,ho1,hb1⟩;have HB:=zz (hb1.alloc hb1.size (.cells (Ae (ndAt M id) ka kc) 54));clear TG ho1 hb1;generalize(M id).isSome=s;cases s <;>
   ·go_wp2
    go_ret;exact⟨rfl,HB.out⟩
 |succ l ih=>
   intro hl w id hA hid;have IH:=zz (ih (by omega));have HA:=zz hA;have TG:=zz (hA.getN hid);have HFI:=zz (Hg.Ip M l id);generalize Di M (l+1) id=r at HFI⊢;have hq0:(((l+1:Nat):Int)==0)=false:=by simp;omega
   have hsub:IntKind.i64.wrap (((l+1:Nat):Int)-1)=(l:Int):=by rw[show(((l+1:Nat):Int)-1)=(l:Int) from by omega];exact IntWalk.i64_in _ (by omega)
   generalize hL:l+1=Lv at hq0 hsub⊢;have HLV:=zz hL;have hl:l < 1000:=by omega
   clear hL;cases hM:(M id).isNone with
   |true=>
     have hs:(M id).isSome=false:=by
      cases h:M id with
      |none=>rfl
      |some _=>rw[h] at hM;cases hM
     rw[hM] at HFI;have hr:r=0:=HFI.out;subst hr;clear hA ih;go_enter Tryz.func88,Tryz.ntmps88;go_wp2_with fail;refine TG.out.mono ?_;rintro e w1 ⟨ka,kc,rfl,ho1,hb1⟩;have HB:=zz (hb1.alloc hb1.size (.cells (Ae (ndAt M id) ka kc) 54));rw[hs];clear TG ho1 hb1 hs hM HFI;go_wp2;go_ret;exact⟨rfl,HB.out⟩
   |false=>
     have hs:(M id).isSome=true:=by
      cases h:M id with
      |none=>rw[h] at hM;cases hM
      |some _=>rfl
     rw[hM,if_neg (by simp)] at HFI;have HK:=zz (HA.out.2.at id);have hkl:=HA.out.len id;clear hA ih;go_enter Tryz.func88,Tryz.ntmps88;go_wp2_with fail;refine TG.out.mono ?_;rintro e w1 ⟨ka,kc,rfl,ho1,hb1⟩;rw[hs];have hb3:=hb1.alloc hb1.size (.cells (Ae (ndAt M id) ka kc) 54);have hs3:=Sl.Aj (ho1.alloc (.cells (Ae (ndAt M id) ka kc) 54));have hn3:=Ac w1 (.cells (Ae (ndAt M id) ka kc) 54);simp only[Ae] at hb3 hs3 hn3;clear TG ho1 hb1 hs hM;generalize ndAt M id=nd at HFI HK hkl hb3 hs3 hn3⊢;obtain⟨kd,nm,nu,ty,rf,kids⟩:=nd;dsimp only at HFI HK hkl hb3 hs3 hn3⊢;rcases(show kd=16∨kd=17∨kd=18∨kd=19∨(kd≠16∧kd≠17∧kd≠18∧kd≠19) by omega) with h|h|h|h|h
     all_goals
      first
       |have hfin:r=1+kids.foldl (EW M l kd) 0:=by (have h1:=HFI.out;rw[show ownD kd=1 from by (unfold ownD;rw[if_pos (by omega)])] at h1;exact h1)
       |have hfin:r=0+kids.foldl (EW M l kd) 0:=by (have h1:=HFI.out;rw[show ownD kd=0 from by (unfold ownD;rw[if_neg (by omega)])] at h1;exact h1)
      first
       |have q16:((kd:Int)==16)=true:=by simp[h]
       |have q16:((kd:Int)==16)=false:=by (simp;omega)
      first
       |have q17:((kd:Int)==17)=true:=by simp[h]
       |have q17:((kd:Int)==17)=false:=by (simp;omega)
      first
       |have q18:((kd:Int)==18)=true:=by simp[h]
       |have q18:((kd:Int)==18)=false:=by (simp;omega)
      first
       |have q19:((kd:Int)==19)=true:=by simp[h]
       |have q19:((kd:Int)==19)=false:=by (simp;omega)
      clear h HFI;have HFIN:=zz hfin;clear hfin;go_wp2;generalize World.alloc w1 _=W3 at hb3 hs3 hn3⊢;have HB3:=zz hb3;have HS:=zz hs3;have HN3:=zz hn3;have hnl:=(AZ.1 hn3).1;generalize w1.heap.size=nb at HN3 hnl⊢;clear hb3 hs3 hn3
      go_loopw [10,38] (fun p q wr=>∃i:Nat,p= .int .i64 ((kids.take i).foldl (EW M l kd) 0:Nat)∧q= .int .i64 (i:Int)∧i≤kids.length∧Below W3.heap.size W3 wr) (fun _ q wr=>kids.length-(intOf q).toNat)
      case atStart=>exact⟨0,by simp,rfl,Nat.zero_le _,AP⟩
      case round=>
       obtain⟨i,rfl,rfl,hi,hb⟩:=hrel;have HB:=zz hb;have hzr:=hb.size;have hb4:=HB3.out.trans (hb.mono HB3.out.size);have HB4:=zz hb4;by_cases hlt:i < kids.length
       ·obtain⟨b,o,rfl,_,kck⟩:=(HS.out.below hb AA).mapAt hlt
        have hkt:=HK.out _ (List.getElem_mem hlt);have hstep:(kids.take (i+1)).foldl (EW M l kd) 0=EW M l kd ((kids.take i).foldl (EW M l kd) 0) kids[i]:=by
         rw[List.take_succ_eq_append_getElem hlt,List.foldl_append];rfl
        have hml:=Hg.RY M l kd (kids.take i);generalize kids[i]=k at kck hkt hstep;generalize(kids.take i).foldl (EW M l kd) 0=mo at hstep hml⊢;have HST:=zz (show(kids.take (i+1)).foldl (EW M l kd) 0=max mo (Di M l k+(if (ndAt M k).kind=5∧kd≠3 then 1 else 0)) from hstep);have TD:=zz (IH.out wr k (HA.out.below hb4) hkt);have hdl:=Hg.LX M l k;clear hb hb4 hstep;go_wp2_with fail;refine TD.out.mono ?_;rintro e w5 ⟨rfl,hb5⟩;have HB5:=zz (HB.out.trans (hb5.mono hzr));have TG:=zz ((HA.out.below (HB3.out.trans (HB5.out.mono HB3.out.size))).getN hkt);have hs5:=HB5.out.size;generalize Di M l k=d at HST hdl⊢;clear hb5 TD;go_wp2_with fail;refine TG.out.mono ?_;rintro e w6 ⟨ka6,kc6,rfl,ho6,hb6⟩;have hb7:=(HB5.out.trans (hb6.mono hs5)).alloc (HB5.out.trans (hb6.mono hs5)).size (.cells (Ae (ndAt M k) ka6 kc6) 54);have HB7:=zz hb7;have y0:=AJ (w6.alloc (.cells (Ae (ndAt M k) ka6 kc6) 54)) nb 0 _ _ (0,0) ((hb7.block nb hnl).trans HN3.out);simp only[Ae] at y0 HB7;have hk5:(ndAt M k).kind=5∨(ndAt M k).kind≠5:=by omega
        clear TG ho6 hb6 hb7 kck;generalize ndAt M k=nk at HST HB7 y0 hk5⊢;obtain⟨kd2,nm2,nu2,ty2,rf2,ks2⟩:=nk;dsimp only at HST HB7 y0 hk5⊢;rcases hk5 with rfl|hk5
        case' inl=>
         simp at y0;by_cases h3:kd=3
         all_goals have hst:=HST.out
         case' pos=>
          rw[if_neg (fun h=>h.2 h3)] at hst;have q3:(((kd:Nat):Int) !=3)=false:=by simp;omega
         case' neg=>
          rw[if_pos ⟨rfl,h3⟩] at hst;have q3:(((kd:Nat):Int) !=3)=true:=by simp;omega
        case' inr=>
         simp at y0;have hst:=HST.out;rw[if_neg (fun h=>hk5 h.1)] at hst;have q5:((kd2:Int)==5)=false:=by simp;omega
        all_goals
         have HS9:=zz hst;clear hst HST;go_wp2;go_roundw
         case rel=>exact⟨i+1,by rw[HS9.out];exact congrArg (Value.int .i64) (by omega),by go_num,by omega,HB7.out⟩
         case measure=>simp[intOf];omega
       ·obtain rfl:i=kids.length:=by omega
        rw[List.take_length];have hml:=Hg.RY M l kd kids;have hfin:=HFIN.out;generalize kids.foldl (EW M l kd) 0=mo at hfin hml⊢;have HR9:=zz hfin;clear hb hb4 hfin;go_wp2;go_ret
        first
         | (have e9 : (r : Int) = 1 + (mo : Int) := by (have := HR9.out; omega)
            rw[e9];exact⟨rfl,HB4.out⟩)
         | (have e9 : (r : Int) = 0 + (mo : Int) := by (have := HR9.out; omega)
            rw[e9];exact⟨by first|rfl|(simp;done),HB4.out⟩)
end Go.Proofs.YthihjcannjhonaaGreatDoor
namespace Go.Proofs.YthihjcannjhonaaGreatDoor
open Go.RowKit
open Hg (GT gl wk isK ndAt Bl KB)
structure Iz (w:World) (ab b1 b2:Nat) (M:Nat→Option Hg.Node) (n:Hg.Node) (ka:Option Addr) (kc:Nat):Prop where
 ar:ArOk w ab M
 h1:w.cell? ⟨b1,0,none⟩=some (.pointer (some ⟨ab,0,none⟩))
 h0:w.cell? ⟨b2,0,none⟩=some (.int .u8 (n.kind:Int))
 h2:w.cell? ⟨b2,5,none⟩=some (.slice ka n.kids.length kc)
 lt:b1 < w.heap.size∧b2 < w.heap.size
 sl:Sl w w.heap.size (.slice ka n.kids.length kc) n.kids.length (n.kids.map idV)
 len:n.kids.length≤1000000
 top:∀k∈n.kids,k < Ai
theorem Iz.below{w w':World}{ab b1 b2:Nat}{M:Nat→Option Hg.Node}{n:Hg.Node}{ka:Option Addr}{kc:Nat}(h:Iz w ab b1 b2 M n ka kc)(hb:Below w.heap.size w w'):Iz w' ab b1 b2 M n ka kc:=
 ⟨h.ar.below hb,(hb.cell (p:=⟨b1,0,none⟩) h.lt.1).trans h.h1,(hb.cell (p:=⟨b2,0,none⟩) h.lt.2).trans h.h0,(hb.cell (p:=⟨b2,5,none⟩) h.lt.2).trans h.h2,⟨Ad h.lt.1 hb.size,Ad h.lt.2 hb.size⟩,(h.sl.below hb AA).more hb.size,h.len,h.top⟩
theorem Dr(ab b1 b2:Nat)(M:Nat→Option Hg.Node)(n:Hg.Node)(ka:Option Addr)(kc i:Nat)(w:World)(hK:Iz w ab b1 b2 M n ka kc)(hi:i < n.kids.length):
 Calls Tryz.prog 137 #[.int .i64 (i:Int),.pointer (some ⟨b1,0,none⟩),.pointer (some ⟨b2,0,none⟩)] w fun e w'=>e= .returned (.int .u8 ((ndAt M n.kids[i]).kind:Int))∧Below w.heap.size w w':=by
 have hlen:=hK.len;have c1:=hK.h1;have c2:=hK.h2;have hb1:=hK.lt.1;have hb2:=hK.lt.2;obtain⟨bk,ok,rfl,hbk,ck⟩:=(hK.sl).mapAt hi;have TG:=zz (fun W (h:Below w.heap.size w W)=>(hK.ar.below h).getN (hK.top _ (List.getElem_mem hi)));generalize n.kids[i]=k at ck TG⊢;have HBc:=zz (Below.refl w.heap.size w);clear hK;go_enter Tryz.func137,Tryz.ntmps137;go_wp2;have hHeld:(fun w'=>w'.cell? ⟨b1,0,none⟩=some (.pointer (some ⟨ab,0,none⟩))∧w'.cell? ⟨b2,5,none⟩=some (.slice (some ⟨bk,ok,none⟩) n.kids.length kc)∧w'.cell? ⟨bk,ok+i,none⟩=some (idV k)) w.drew:=⟨c1,c2,ck⟩;have hHeld0:=hHeld;clear c1 c2 ck;refine Ao (fun w'=>w'.cell? ⟨b1,0,none⟩=some (.pointer (some ⟨ab,0,none⟩))∧w'.cell? ⟨b2,5,none⟩=some (.slice (some ⟨bk,ok,none⟩) n.kids.length kc)∧w'.cell? ⟨bk,ok+i,none⟩=some (idV k)) 12 (by kernel_rfl) ?_;refine tz 0 ?_;refine tz 1 ?_;refine tz 2 ?_;refine tz 3 ?_;refine tz 4 ?_;refine tz 5 ?_;refine Fb (i:=6) (j:=10) rfl rfl (by kernel_rfl) (fun K hK=> ?_) (fun K hK=> ?_)
 ·go_simp
  refine Calls.mono (TG.out _ (by first|exact HBc.out|exact HBc.out.drew|exact HBc.out.drew.drew)) ?_;rintro e w5 ⟨ka5,kc5,rfl,ho5,hb5⟩;have HBc:=zz (show Below w.heap.size w w5 from by first|exact HBc.out.trans (hb5.mono HBc.out.size)|exact HBc.out.drew.trans (hb5.mono HBc.out.drew.size));clear ho5 hb5;have hble:w.heap.size≤w5.heap.size:=by first|exact HBc.out.size|exact AA
  refine hK.out _ _ (⟨(HBc.out.cell (p:=⟨b1,0,none⟩) hb1).trans hHeld0.1,(HBc.out.cell (p:=⟨b2,5,none⟩) hb2).trans hHeld0.2.1,(HBc.out.cell (p:=⟨bk,ok+i,none⟩) hbk).trans hHeld0.2.2⟩) (fun hHeld=> ?_);clear hK K
  try simp only[Act.put,sA,sB,sC,sD,sE,sF]
  refine tz 7 ?_;refine tz 8 ?_;refine tz 9 ?_;refine AR (i:=10) rfl (by kernel_rfl) (fun K hK=> ?_);go_simp;generalize hWa:World.alloc _ _=Wa;obtain⟨hBa,hha,hza⟩:=LB hWa;have HBc:=zz (show Below w.heap.size w Wa from by first|exact HBc.out.trans (hBa.mono HBc.out.size)|exact HBc.out.drew.trans (hBa.mono HBc.out.drew.size));clear hWa hBa;refine hK.out _ _ (⟨(HBc.out.cell (p:=⟨b1,0,none⟩) hb1).trans hHeld0.1,(HBc.out.cell (p:=⟨b2,5,none⟩) hb2).trans hHeld0.2.1,(HBc.out.cell (p:=⟨bk,ok+i,none⟩) hbk).trans hHeld0.2.2⟩) (fun hHeld=> ?_);clear hK K
  try simp only[Act.put,sA,sB,sC,sD,sE,sF]
  refine AR (i:=11) rfl (by kernel_rfl) (fun K hK=> ?_);have z2:=fun i=>AJ Wa w5.heap.size i _ _ (0,0) hha;have y0:=z2 0;have y1:=z2 1;have y2:=z2 2;have y3:=z2 3;have y4:=z2 4;have y5:=z2 5;simp at y0 y1 y2 y3 y4 y5;have f2:∀i,Wa.frozen? ⟨w5.heap.size,i,none⟩=false:=fun i=>by simp[World.frozen?,hha]
  clear z2;go_simp;have hk0:(World.setCell (World.setCell (World.setCell (World.setCell (World.setCell (World.setCell Wa ⟨w5.heap.size,0,none⟩ (.int .u8 ((ndAt M k).kind:Int))) ⟨w5.heap.size,1,none⟩ (strV (ndAt M k).name)) ⟨w5.heap.size,2,none⟩ (.int .i64 (ndAt M k).num)) ⟨w5.heap.size,3,none⟩ (.int .u8 ((ndAt M k).type:Int))) ⟨w5.heap.size,4,none⟩ (.int .u64 ((ndAt M k).ref:Int))) ⟨w5.heap.size,5,none⟩ (.slice ka5 (ndAt M k).kids.length kc5)).cell? ⟨w5.heap.size,0,none⟩=some (.int .u8 ((ndAt M k).kind:Int)):=by simp[go_sem,y0,y1,y2,y3,y4,y5]
  generalize hWb:World.setCell _ _ _=Wb at hk0⊢;have HBc:=zz (show Below w.heap.size w Wb from hWb ▸ CS HBc.out hble _ _ _ _ _ _);clear hWb y0 y1 y2 y3 y4 y5 f2 hha;refine hK.out _ _ (⟨(HBc.out.cell (p:=⟨b1,0,none⟩) hb1).trans hHeld0.1,(HBc.out.cell (p:=⟨b2,5,none⟩) hb2).trans hHeld0.2.1,(HBc.out.cell (p:=⟨bk,ok+i,none⟩) hbk).trans hHeld0.2.2⟩) (fun hHeld=> ?_);clear hK K
  try simp only[Act.put,sA,sB,sC,sD,sE,sF]
  refine Af (by kernel_rfl) ?_;simp only[List.drop_succ_cons,List.drop_zero];clear hHeld0;go_wp2;go_ret;exact⟨rfl,HBc.out⟩
 ·go_simp
  generalize hWa:World.alloc _ _=Wa;obtain⟨hBa,hha,hza⟩:=LB hWa;have HBc:=zz (show Below w.heap.size w Wa from by first|exact HBc.out.trans (hBa.mono HBc.out.size)|exact HBc.out.drew.trans (hBa.mono HBc.out.drew.size));clear hWa hBa;refine hK.out _ _ (⟨(HBc.out.cell (p:=⟨b1,0,none⟩) hb1).trans hHeld0.1,(HBc.out.cell (p:=⟨b2,5,none⟩) hb2).trans hHeld0.2.1,(HBc.out.cell (p:=⟨bk,ok+i,none⟩) hbk).trans hHeld0.2.2⟩) (fun hHeld=> ?_);clear hK K
  try simp only[Act.put,sA,sB,sC,sD,sE,sF]
  refine AR (i:=6) rfl (by kernel_rfl) (fun K hK=> ?_);go_simp;refine Calls.mono (TG.out _ (by first|exact HBc.out|exact HBc.out.drew|exact HBc.out.drew.drew)) ?_;rintro e w5 ⟨ka5,kc5,rfl,ho5,hb5⟩;have hha:=(hb5.block _ (AZ.1 hha).1).trans hha;have HBc:=zz (show Below w.heap.size w w5 from by first|exact HBc.out.trans (hb5.mono HBc.out.size)|exact HBc.out.drew.trans (hb5.mono HBc.out.drew.size));clear ho5 hb5;have hble:w.heap.size≤w.heap.size:=by first|exact HBc.out.size|exact AA
  refine hK.out _ _ (⟨(HBc.out.cell (p:=⟨b1,0,none⟩) hb1).trans hHeld0.1,(HBc.out.cell (p:=⟨b2,5,none⟩) hb2).trans hHeld0.2.1,(HBc.out.cell (p:=⟨bk,ok+i,none⟩) hbk).trans hHeld0.2.2⟩) (fun hHeld=> ?_);clear hK K
  try simp only[Act.put,sA,sB,sC,sD,sE,sF]
  refine tz 7 ?_;refine tz 8 ?_;refine tz 9 ?_;refine AR (i:=11) rfl (by kernel_rfl) (fun K hK=> ?_);have z2:=fun i=>AJ w5 w.heap.size i _ _ (0,0) hha;have y0:=z2 0;have y1:=z2 1;have y2:=z2 2;have y3:=z2 3;have y4:=z2 4;have y5:=z2 5;simp at y0 y1 y2 y3 y4 y5;have f2:∀i,w5.frozen? ⟨w.heap.size,i,none⟩=false:=fun i=>by simp[World.frozen?,hha]
  clear z2;go_simp;have hk0:(World.setCell (World.setCell (World.setCell (World.setCell (World.setCell (World.setCell w5 ⟨w.heap.size,0,none⟩ (.int .u8 ((ndAt M k).kind:Int))) ⟨w.heap.size,1,none⟩ (strV (ndAt M k).name)) ⟨w.heap.size,2,none⟩ (.int .i64 (ndAt M k).num)) ⟨w.heap.size,3,none⟩ (.int .u8 ((ndAt M k).type:Int))) ⟨w.heap.size,4,none⟩ (.int .u64 ((ndAt M k).ref:Int))) ⟨w.heap.size,5,none⟩ (.slice ka5 (ndAt M k).kids.length kc5)).cell? ⟨w.heap.size,0,none⟩=some (.int .u8 ((ndAt M k).kind:Int)):=by simp[go_sem,y0,y1,y2,y3,y4,y5]
  generalize hWb:World.setCell _ _ _=Wb at hk0⊢;have HBc:=zz (show Below w.heap.size w Wb from hWb ▸ CS HBc.out hble _ _ _ _ _ _);clear hWb y0 y1 y2 y3 y4 y5 f2 hha;refine hK.out _ _ (⟨(HBc.out.cell (p:=⟨b1,0,none⟩) hb1).trans hHeld0.1,(HBc.out.cell (p:=⟨b2,5,none⟩) hb2).trans hHeld0.2.1,(HBc.out.cell (p:=⟨bk,ok+i,none⟩) hbk).trans hHeld0.2.2⟩) (fun hHeld=> ?_);clear hK K
  try simp only[Act.put,sA,sB,sC,sD,sE,sF]
  refine Af (by kernel_rfl) ?_;simp only[List.drop_succ_cons,List.drop_zero];clear hHeld0;go_wp2;go_ret;exact⟨rfl,HBc.out⟩
end Go.Proofs.YthihjcannjhonaaGreatDoor
namespace Hg
def stP(k:Nat):Prop:=6≤k∧k≤12∧k≠10
def exP(k:Nat):Prop:=13≤k∧k≤20
instance (k:Nat):Decidable (stP k):=by unfold stP;infer_instance
instance (k:Nat):Decidable (exP k):=by unfold exP;infer_instance
def kk(M:Nat→Option Node)(n:Node)(i:Nat):Nat:=(ndAt M (n.kids.getD i 0)).kind
def BB(M:Nat→Option Node)(n:Node):Prop:=
 (n.kind=1∧∀i,i < n.kids.length→kk M n i=2)∨
 (n.kind=2∧∀i,i < n.kids.length→kk M n i=3)∨
 (n.kind=3∧0 < n.kids.length∧(∀i,i < n.kids.length-1→kk M n i=4)∧kk M n (n.kids.length-1)=5)∨
 (n.kind=5∧n.kids.length=0)∨
 (n.kind=5∧0 < n.kids.length∧(∀i,i < n.kids.length-1→stP (kk M n i))∧(kk M n (n.kids.length-1)=10∨stP (kk M n (n.kids.length-1))))∨
 (n.kind=8∧n.kids.length=3∧exP (kk M n 0)∧kk M n 1=5∧kk M n 2=5)∨
 (n.kind=9∧n.kids.length=2∧exP (kk M n 0)∧kk M n 1=5)∨
 (n.kind=12∧n.kids.length=1∧kk M n 0=19)∨
 ((n.kind=6∨n.kind=7∨n.kind=10∨n.kind=11∨n.kind=16∨n.kind=17)∧n.kids.length=1∧exP (kk M n 0))∨
 (n.kind=18∧n.kids.length=2∧exP (kk M n 0)∧exP (kk M n 1))∨
 (n.kind=19∧∀i,i < n.kids.length→exP (kk M n i))∨
 ((n.kind=4∨n.kind=13∨n.kind=14∨n.kind=15∨n.kind=20)∧n.kids.length=0)
theorem Ws(M:Nat→Option Node)(n:Node)(i:Nat)(h:i < n.kids.length):(ndAt M n.kids[i]).kind=kk M n i:=by
 unfold kk
 simp[List.getD,Aa h]
end Hg
namespace Go.Proofs.YthihjcannjhonaaGreatDoor
open Go.RowKit
open Hg (GT gl wk isK ndAt Bl KB kk Ws stP exP BB)
theorem PU(k:Nat)(w:World):Calls Tryz.prog 139 #[.int .u8 (k:Int)] w fun e w'=>e= .returned (.func (.func 140) #[] #[.pointer (some ⟨w.heap.size,0,none⟩)])∧w'=w.alloc (.cells #[.int .u8 (k:Int)] 5):=by
 go_enter Tryz.func139,Tryz.ntmps139;go_wp2;go_ret;exact⟨rfl,rfl⟩
theorem Xc(x:Value)(fb:Nat)(w:World):Calls Tryz.prog 138 #[.int .i64 0,.int .i64 (-1),x,.pointer (some ⟨fb,0,none⟩)] w fun e w'=>e= .returned (.bool true)∧w=w':=by
 go_enter Tryz.func138,Tryz.ntmps138;go_wp2;refine wp_loop_once ?_;go_wp2;go_ret;exact⟨rfl,rfl⟩
@[reducible] def kfV(b1 b2:Nat):Value:= .func (.func 137) #[] #[.pointer (some ⟨b1,0,none⟩),.pointer (some ⟨b2,0,none⟩)]
structure Px (w W0:World) (ab:Nat) (M:Nat→Option Hg.Node) (n:Hg.Node) (ka:Option Addr) (kc:Nat):Prop where
 kb:Iz W0 ab w.heap.size (w.heap.size+1) M n ka kc
 cf:W0.cell? ⟨w.heap.size+2,0,none⟩=some (kfV w.heap.size (w.heap.size+1))
 lf:w.heap.size+2 < W0.heap.size
 be:Below w.heap.size w W0
theorem Px.below{w W0 W1:World}{ab:Nat}{M:Nat→Option Hg.Node}{n:Hg.Node}{ka:Option Addr}{kc:Nat}(h:Px w W0 ab M n ka kc)(hb:Below W0.heap.size W0 W1):Px w W1 ab M n ka kc:=
 ⟨h.kb.below hb,(hb.cell (p:=⟨w.heap.size+2,0,none⟩) h.lf).trans h.cf,Ad h.lf hb.size,h.be.trans (hb.mono h.be.size)⟩
theorem ZC{w:World}{ab:Nat}{M:Nat→Option Hg.Node}{n:Hg.Node}{ka:Option Addr}{kc:Nat}(hA:ArOk w ab M)
 (hs:Sl w w.heap.size (.slice ka n.kids.length kc) n.kids.length (n.kids.map idV)) (hl:n.kids.length≤1000000) (hk:∀k∈n.kids,k < Ai):
 Px w (((w.alloc (.cells #[.pointer (some ⟨ab,0,none⟩)] 25)).alloc (.cells (Ae n ka kc) 54)).alloc (.cells #[kfV w.heap.size (w.heap.size+1)] 186)) ab M n ka kc:=by
 have h0:=Ac w (.cells #[.pointer (some ⟨ab,0,none⟩)] 25);have b0:Below w.heap.size w (w.alloc (.cells #[.pointer (some ⟨ab,0,none⟩)] 25)):=(AP).alloc AA _;have z0:(w.alloc (.cells #[.pointer (some ⟨ab,0,none⟩)] 25)).heap.size=w.heap.size+1:=by simp
 generalize w.alloc (.cells #[.pointer (some ⟨ab,0,none⟩)] 25)=A at*;have h1:=Ac A (.cells (Ae n ka kc) 54);have b1:Below A.heap.size A (A.alloc (.cells (Ae n ka kc) 54)):=(AP).alloc AA _;have z1:(A.alloc (.cells (Ae n ka kc) 54)).heap.size=w.heap.size+2:=by simp[z0]
 generalize A.alloc (.cells (Ae n ka kc) 54)=B at*;have h2:=Ac B (.cells #[kfV w.heap.size (w.heap.size+1)] 186);have b2:Below B.heap.size B (B.alloc (.cells #[kfV w.heap.size (w.heap.size+1)] 186)):=(AP).alloc AA _;have z2:(B.alloc (.cells #[kfV w.heap.size (w.heap.size+1)] 186)).heap.size=w.heap.size+3:=by simp[z1]
 generalize B.alloc (.cells #[kfV w.heap.size (w.heap.size+1)] 186)=C at*;have hb:Below w.heap.size w C:=b0.trans ((b1.mono (by omega)).trans (b2.mono (by omega)));have k0:C.heap[w.heap.size]? =_:=(b2.block _ (by omega)).trans ((b1.block _ (by omega)).trans h0);have k1:C.heap[w.heap.size+1]? =_:=(b2.block _ (by omega)).trans (z0 ▸ h1);have k2:C.heap[w.heap.size+2]? =_:=z1 ▸ h2;have c1:=AJ C (w.heap.size+1) 0 _ _ (0,0) k1;have c5:=AJ C (w.heap.size+1) 5 _ _ (0,0) k1;exact⟨⟨hA.below hb,AJ C w.heap.size 0 _ _ (0,0) k0,c1,c5,by omega,(hs.below hb AA).more hb.size,hl,hk⟩,AJ C (w.heap.size+2) 0 _ _ (0,0) k2,by omega,hb⟩
@[local go_sem] theorem X8{P:Program}{w:World}{a:Addr}{m:Mode}(fn:Fn)(first captured:Array Value):(store a (.func fn first captured) m).run P w=stored P w a (.func fn first captured) m:=run_store P w a _ m rfl
@[local go_sem] theorem Vm{P:Program}{w:World}{a:Addr}{m:Mode}:(store a .nilFunc m).run P w=stored P w a .nilFunc m:=run_store P w a _ m rfl
end Go.Proofs.YthihjcannjhonaaGreatDoor
namespace Go.Proofs.YthihjcannjhonaaGreatDoor
open Go.RowKit
open Hg (GT gl wk isK ndAt Bl KB Xf BB IC Di)
attribute [local go_sem] Oper.semAt_some
theorem PI(W:World)(o1 o2:Obj):Below W.heap.size W ((W.alloc o1).alloc o2)∧((W.alloc o1).alloc o2).heap[W.heap.size]? =some o1∧((W.alloc o1).alloc o2).heap[W.heap.size+1]? =some o2∧((W.alloc o1).alloc o2).heap.size=W.heap.size+2:=by
 have h:=Ac (W.alloc o1) o2;rw[show(W.alloc o1).heap.size=W.heap.size+1 by simp] at h;exact⟨((AP).alloc AA _).alloc (by simp) _,(heap_alloc_old _ _ (by simp)).trans (Ac W _),h,by simp⟩
structure Nr (M:Nat→Option Hg.Node) (par:Nat→Nat×Int) (F:Nat) (xs:List (Nat×Hg.Node)):Prop where
 tree:∃F R,Xf M F R
 walk:wk M F [1] []=some xs
 f:F≤1000000
 id:∀x∈xs,x.1 < Ai
 kind:∀x∈xs,1≤x.2.kind∧x.2.kind≤20
 kids:∀x∈xs,BB M x.2
 parts:∀x∈xs,MW M x.2
 root:∀x∈xs,x.2.kind=1↔x.1=1
 rets:∀x∈xs,x.2.kind=5→IC M par x.1 x.2=true
 deep:∀x∈xs,x.2.kind=3→Di M 201 x.1≤90
end Go.Proofs.YthihjcannjhonaaGreatDoor
namespace Go.Proofs.YthihjcannjhonaaGreatDoor
open Go.RowKit
open Hg (GT gl wk isK ndAt Bl KB Pt EC Ct okT F8 RB)
structure UU (M:Nat→Option Hg.Node) (par:Nat→Nat×Int) (abv:Nat→Nat) (F F2:Nat) (xs:List (Nat×Hg.Node)):Prop where
 prs:MC M par
 shaped:Nr M par F xs
 clash:Pt M
 f2:F2≤1000000
 hidden:∀x∈xs,x.2.kind=15∨x.2.kind=7→∃R,EC M par F2 x.1 [] []=some R∧0≤idxI R x.2.ref∧R.length≤1000000
 abo:Rj M abv
 rb:RB M
 id:∀x∈xs,x.1≤1000000
 h18:∀x∈xs,x.2.kind=18→0 < x.2.kids.length
 idx:∀x∈xs,x.2.kind≠19→(Ct M abv x.1 x.2).length≤x.2.kids.length
def WI(M:Nat→Option Hg.Node)(abv:Nat→Nat)(xs:List (Nat×Hg.Node)):Nat:=if xs.all (okT M abv) then(if F8 M=0 then 3 else 0) else 11
end Go.Proofs.YthihjcannjhonaaGreatDoor
namespace Hg
open Go.Proofs.YthihjcannjhonaaGreatDoor (idxI)
def GH(id:Nat):List Row→Nat×Int
 |[]=>(0,0)
 |r::rows=>if 0≤idxI r.node.kids id∧((GH id rows).1=0∨r.id < (GH id rows).1) then(r.id,idxI r.node.kids id) else GH id rows
theorem Jv(id:Nat):∀(rows:List Row),(∀r∈rows,r.id≠0)→
 ((GH id rows).1=0∧(GH id rows).2=0∧∀r∈rows,idxI r.node.kids id < 0)∨
 ((GH id rows).1≠0∧(∃r∈rows,r.id=(GH id rows).1∧idxI r.node.kids id=(GH id rows).2∧0≤(GH id rows).2)∧∀r∈rows,0≤idxI r.node.kids id→(GH id rows).1≤r.id)
 |[],_=> .inl ⟨rfl,rfl,fun r h=>by simp at h⟩
 |r::rows,h0=>by
   have ih:=Jv id rows (fun x hx=>h0 x (List.mem_cons_of_mem _ hx));rw[GH];generalize GH id rows=b at ih;obtain⟨p,k⟩:=b;dsimp only at ih⊢;have hr0:=h0 r (by simp);by_cases hc:0≤idxI r.node.kids id∧(p=0∨r.id < p)
   ·rw[if_pos hc]
    right;refine⟨hr0,⟨r,by simp,rfl,rfl,hc.1⟩,fun x hx h=> ?_⟩;rcases List.mem_cons.1 hx with e|hx
    ·subst e;exact AA
    ·rcases ih with⟨h1,h2,h3⟩|⟨h1,h2,h3⟩
     ·have:=h3 x hx;omega
     ·have:=h3 x hx h
      show r.id≤x.id;omega
   ·rw[if_neg hc]
    rcases ih with⟨h1,h2,h3⟩|⟨h1,⟨x,hx,h2⟩,h3⟩
    ·left
     refine⟨h1,h2,fun x hx=> ?_⟩;rcases List.mem_cons.1 hx with e|hx
     ·subst e;omega
     ·exact h3 x hx
    ·right
     refine⟨h1,⟨x,List.mem_cons_of_mem _ hx,h2⟩,fun y hy h=> ?_⟩;rcases List.mem_cons.1 hy with e|hy
     ·subst e;omega
     ·exact h3 y hy h
structure F3 (rows:List Row):Prop where
 nodup:(rows.map Row.id).Nodup
 zero:∀r∈rows,r.id≠0
 top:∀r∈rows,r.id < 18446744073709551616
theorem BZ{rows:List Row}(h:F3 rows){i:Nat}{n:Node}:rowM rows i=some n↔∃r∈rows,r.id=i∧r.node=n:=by
 unfold rowM;constructor
 ·intro he
  cases hf:rows.find? (fun r=>r.id==i) with
  |none=>rw[hf] at he;cases he
  |some r=>
    rw[hf] at he;injection he with he;exact⟨r,List.mem_of_find?_eq_some hf,by simpa using List.find?_some hf,he⟩
 ·rintro⟨r,hr,rfl,rfl⟩
  rw[RA rows h.nodup r hr];rfl
theorem Dg{rows:List Row}(h:F3 rows):rowM rows 0=none:=by
 cases hm:rowM rows 0 with
 |none=>rfl
 |some n=>
   obtain⟨r,hr,h0,_⟩:=(BZ h).1 hm;exact absurd h0 (h.zero r hr)
def parR(rows:List Row)(id:Nat):Nat×Int:=GH id rows
def abvL(rows:List Row):Nat→Nat→Nat
 |0,_=>0
 |f+1,id=>if id=0 then 0 else match rowM rows id with
   |none=>0
   |some n=>if n.kind=3 then id else abvL rows f (parR rows id).1
def abvR(rows:List Row)(id:Nat):Nat:=abvL rows (id+1) id
end Hg
namespace Go.Proofs.YthihjcannjhonaaGreatDoor
open Hg (Row Node rowM F3 BZ Dg GH Jv parR abvL abvR)
theorem DL{rows:List Row}(h:F3 rows)(id:Nat):Du (rowM rows) id (fun i=>i < Ai) (parR rows id).1 (parR rows id).2:=by
 unfold parR;rcases Jv id rows h.zero with⟨h1,h2,h3⟩|⟨h1,⟨r,hr,h2,h4,h5⟩,h3⟩
 ·left
  refine⟨h1,h2,fun i nd _ hm=> ?_⟩;obtain⟨r,hr,rfl,rfl⟩:=(BZ h).1 hm;exact h3 r hr
 ·right
  refine⟨h1, ?_,⟨r.node,(BZ h).2 ⟨r,hr,h2,rfl⟩,h4,h5⟩,fun i nd _ hm h0=> ?_⟩
  ·have:=h.top r hr
   show _ < 18446744073709551616;omega
  ·obtain⟨x,hx,rfl,rfl⟩:=(BZ h).1 hm
   exact h3 x hx h0
theorem He{rows:List Row}(h:F3 rows):MC (rowM rows) (parR rows):=⟨Dg h,DL h⟩
def DecR(rows:List Row):Prop:=∀r∈rows,(parR rows r.id).1 < r.id∨(parR rows r.id).1=0
theorem Vh{rows:List Row}(h:F3 rows)(hd:DecR rows):∀(f id:Nat),id < f→Je (rowM rows) 3 id (abvL rows f id):=by
 intro f
 induction f with
 |zero=>intro id h;omega
 |succ f ih=>
   intro id hid;rw[abvL];by_cases h0:id=0
   ·rw[if_pos h0,h0];exact .zero
   ·rw[if_neg h0]
    cases hm:rowM rows id with
    |none=>exact .none id hm
    |some n=>
      dsimp only;by_cases hk:n.kind=3
      ·rw[if_pos hk];exact .hit id n h0 hm hk
      ·rw[if_neg hk]
       refine .step id n _ _ _ h0 hm hk (DL h id) (ih _ ?_);obtain⟨r,hr,rfl,_⟩:=(BZ h).1 hm;rcases hd r hr with e|e <;>omega
theorem Yf{rows:List Row}(hd:DecR rows)(h:F3 rows):∀(f id:Nat),id < f→abvL rows f id=0∨∃r∈rows,r.id=abvL rows f id:=by
 intro f
 induction f with
 |zero=>intro id h;omega
 |succ f ih=>
   intro id hid;rw[abvL];by_cases h0:id=0
   ·rw[if_pos h0];exact .inl rfl
   ·rw[if_neg h0]
    cases hm:rowM rows id with
    |none=>exact .inl rfl
    |some n=>
      dsimp only;obtain⟨r,hr,hi,_⟩:=(BZ h).1 hm;by_cases hk:n.kind=3
      ·rw[if_pos hk];exact .inr ⟨r,hr,hi⟩
      ·rw[if_neg hk]
       exact ih _ (by have:=hd r hr;rw[hi] at this;omega)
theorem Hz{rows:List Row}(h:F3 rows)(hd:DecR rows)(hk:∀r∈rows,r.node.kind≤255):Rj (rowM rows) (abvR rows):=by
 refine⟨Dg h,fun i n hm=> ?_,fun i n p k hm hp=> ?_,fun id _=>Vh h hd _ _ (Nat.lt_succ_self _),fun id=> ?_⟩
 ·obtain⟨r,hr,_,rfl⟩:=(BZ h).1 hm
  exact hk r hr
 ·obtain⟨e,_⟩:=hp.unique (DL h i)
  obtain⟨r,hr,rfl,_⟩:=(BZ h).1 hm;rw[e];exact hd r hr
 ·unfold abvR
  rcases Yf hd h (id+1) id (Nat.lt_succ_self _) with e|⟨r,hr,e⟩
  ·rw[e];decide
  ·rw[←e];exact h.top r hr
end Go.Proofs.YthihjcannjhonaaGreatDoor
namespace Hg
structure TrM (M:Nat→Option Node) (n:Nat):Prop where
 dom:∀i,(M i).isSome=true↔1≤i∧i≤n
 kid:∀i a,M i=some a→∀k∈a.kids,i < k∧k≤n
 nodup:∀i a,M i=some a→a.kids.Nodup
 par:∀i j a b k,M i=some a→M j=some b→k∈a.kids→k∈b.kids→i=j
 has:∀k,2≤k→k≤n→∃i a,M i=some a∧k∈a.kids
theorem AU(l:List Row)(id:Nat):ndAt (rowM l) id=AL l id:=by
 unfold ndAt rowM AL;cases l.find? fun r=>r.id==id with
 |none=>rfl
 |some r=>rfl
theorem Tr.ids{l:List Row}(h:Tr l):l.map Row.id=List.range' 1 l.length:=by
 apply List.ext_getElem
 ·simp
 ·intro k h1 h2
  simp only[List.getElem_map,List.getElem_range',Nat.one_mul];have hk:k < l.length:=by simpa using h1
  rw[h.rid k l[k] (Aa hk)];omega
theorem Tr.rows{l:List Row}(h:Tr l)(hl:l.length≤20000):F3 l:=by
 have hi:=h.ids;have hm:∀r∈l,1≤r.id∧r.id≤l.length:=fun r hr=>by
  obtain⟨k,hk,rfl⟩:=List.getElem_of_mem hr;rw[h.rid k l[k] (Aa hk)];omega
 refine⟨by rw[hi];exact List.nodup_range',fun r hr=>by have:=hm r hr;omega,fun r hr=>by have:=hm r hr;omega⟩
theorem Tr.get{l:List Row}(h:Tr l)(hl:l.length≤20000){i:Nat}{a:Node}:rowM l i=some a↔∃r,l[i-1]? =some r∧1≤i∧r.node=a:=by
 rw[BZ (h.rows hl)];constructor
 ·rintro⟨r,hr,hid,hn⟩
  obtain⟨k,hk,rfl⟩:=List.getElem_of_mem hr;have h0:=h.rid k l[k] (Aa hk);subst hid;refine⟨l[k], ?_,by omega,hn⟩;rw[h0,Nat.add_sub_cancel];exact Aa hk
 ·rintro⟨r,hr,h1,hn⟩
  exact⟨r,List.mem_of_getElem? hr,by rw[h.rid _ _ hr];omega,hn⟩
theorem Tr.trM{l:List Row}(h:Tr l)(hl:l.length≤20000)(h0:0 < l.length):TrM (rowM l) l.length:=by
 have hp:((l.flatMap fun r=>r.node.kids)).Nodup:=h.perm.nodup_iff.2 List.nodup_range';have hpw:=List.pairwise_flatMap.1 (show List.Pairwise (· ≠ ·) (l.flatMap fun r=>r.node.kids) from hp);refine⟨fun i=> ?_,fun i a hi k hk=> ?_,fun i a hi=> ?_,fun i j a b k hi hj ha hb=> ?_,fun k h2 hn=> ?_⟩
 ·constructor
  ·intro hs
   obtain⟨a,ha⟩:=Option.isSome_iff_exists.1 hs;obtain⟨r,hr,h1,_⟩:=(h.get hl).1 ha;have:=(Ah.1 hr).1;omega
  ·rintro⟨h1,h2⟩
   have:rowM l i=some (l[i-1]'(by omega)).node:=(h.get hl).2 ⟨_,Aa (by omega),h1,rfl⟩;rw[this];rfl
 ·obtain⟨r,hr,h1,rfl⟩:=(h.get hl).1 hi
  have:=h.up _ _ hr k hk;omega
 ·obtain⟨r,hr,h1,rfl⟩:=(h.get hl).1 hi
  exact hpw.1 r (List.mem_of_getElem? hr)
 ·obtain⟨r,hr,h1,rfl⟩:=(h.get hl).1 hi
  obtain⟨q,hq,h2,rfl⟩:=(h.get hl).1 hj;have e1:=(Ah.1 hr);have e2:=(Ah.1 hq);obtain⟨l1,rfl⟩:=e1;obtain⟨l2,rfl⟩:=e2;rcases Nat.lt_trichotomy (i-1) (j-1) with hlt|heq|hlt
  ·exact absurd rfl ((List.pairwise_iff_getElem.1 hpw.2) (i-1) (j-1) l1 l2 hlt k ha k hb)
  ·omega
  ·exact absurd rfl ((List.pairwise_iff_getElem.1 hpw.2) (j-1) (i-1) l2 l1 hlt k hb k ha)
 ·have hm:k∈l.flatMap fun r=>r.node.kids:=h.perm.mem_iff.2 (by rw[List.mem_range'_1];omega)
  obtain⟨r,hr,hk⟩:=List.mem_flatMap.1 hm;obtain⟨i,hi,rfl⟩:=List.getElem_of_mem hr;exact⟨i+1,l[i].node,(h.get hl).2 ⟨l[i],by rw[Nat.add_sub_cancel];exact Aa hi,by omega,rfl⟩,hk⟩
section
variable {M:Nat→Option Node} {n:Nat} (hT:TrM M n) (hn:n≤20000) {H:Nat→Nat→Prop}
 (hH0:∀i,¬H 0 i) (hHs:∀j i a,M i=some a→H (j+1) i→∀k∈a.kids,H j k)
structure Lv (M:Nat→Option Node) (n:Nat) (H:Nat→Nat→Prop) (Dn:Nat→Prop) (pre:List Nat) (deep:List (Nat×Nat)):Prop where
 vis:∀i,(gl deep i).isSome=true↔i=1∨(∃p a,Dn p∧M p=some a∧i∈a.kids)∨i∈pre
 keys:(deep.map Prod.fst).Nodup
 bnd:∀p∈deep,1≤p.1∧p.1≤n
 dep:∀i d,gl deep i=some d→1≤d∧H (201-d) i
theorem Bp(l:List (Nat×Nat))(i:Nat):(gl l i).isSome=true↔i∈l.map Prod.fst:=by
 induction l with
 |nil=>simp[gl]
 |cons p l ih=>
   obtain⟨k,v⟩:=p;rw[Cq];by_cases e:k=i
   ·subst e;simp
   ·rw[if_neg (by simpa using e)]
    simp only[List.map_cons,List.mem_cons,ih];constructor
    ·exact fun h=> .inr h
    ·rintro(h|h)
     ·exact absurd h.symm e
     ·exact h
theorem Gf:∀(n:Nat) (l:List Nat),l.Nodup→(∀x∈l,1≤x∧x≤n)→l.length≤n:=fun n l hd hb=>by
 have:l.length≤(List.range' 1 n).length:=by
  have:=List.Nodup.length_le_of_subset hd (l₂:=List.range' 1 n) (fun x hx=>by rw[List.mem_range'_1];have:=hb x hx;omega);exact this
 simpa using this
include hT hn hH0 hHs in
theorem QI{id:Nat}{nd:Node}(hid:M id=some nd){Dn:Nat→Prop}(hD:¬Dn id):
 ∀(ks pre:List Nat) (deep:List (Nat×Nat)) (next:List Nat),nd.kids=pre++ks→Lv M n H Dn (next) deep→(∀k∈ks,k∉next)→(gl deep id).isSome=true→next.length < deep.length→
   ∃deep',JS M id ks deep next=some (deep',next++ks)∧Lv M n H Dn (next++ks) deep'∧(next++ks).length < deep'.length
 |[],pre,deep,next,hk,hL,_,hv,hlen=>⟨deep,by simp[JS],by simpa using hL,by simpa using hlen⟩
 |k::ks,pre,deep,next,hk,hL,hnx,hv,hlen=>by
   have hkm:k∈nd.kids:=by rw[hk];simp
   obtain⟨hk1,hkn⟩:=hT.kid id nd hid k hkm;have hidp:=(hT.dom id).1 (by rw[hid];rfl);have hknew:(gl deep k).isSome=false:=by
    cases h:(gl deep k).isSome with
    |false=>rfl
    |true=>
      rcases(hL.vis k).1 h with h|⟨p,a,hp,ha,hka⟩|h
      ·omega
      ·exact absurd (hT.par p id a nd k ha hid hka hkm ▸ hp) hD
      ·exact absurd h (hnx k (by simp))
   have hMk:(M k).isNone=false:=by
    have:=(hT.dom k).2 (by omega);cases hm:M k with
    |none=>rw[hm] at this;cases this
    |some _=>rfl
   obtain⟨d0,hd0⟩:=Option.isSome_iff_exists.1 hv;obtain⟨hd1,hdH⟩:=hL.dep id d0 hd0;have hd200:d0 < 200:=by
    rcases Nat.lt_or_ge d0 200 with h|h
    ·exact h
    ·exfalso
     rcases Nat.lt_or_ge 200 d0 with h2|h2
     ·rw[show 201-d0=0 by omega] at hdH
      exact hH0 id hdH
     ·rw[show 201-d0=0+1 by omega] at hdH
      exact hH0 k (hHs 0 id nd hid hdH k hkm)
   have hkey:k∉deep.map Prod.fst:=fun h=>by rw[(Bp deep k).2 h] at hknew;cases hknew
   have hdl:deep.length+1≤n:=by
    have:=Gf n (k::deep.map Prod.fst) (List.nodup_cons.2 ⟨hkey,hL.keys⟩) (fun x hx=>by
     rcases List.mem_cons.1 hx with e|e
     ·subst e;omega
     ·obtain⟨p,hp,rfl⟩:=List.mem_map.1 e
      exact hL.bnd p hp)
    simpa using this
   unfold JS;rw[if_neg (by rw[hknew,hMk,hd0];simp;omega),hd0];have hL':Lv M n H Dn (next++[k]) ((k,(some d0).getD 0+1)::deep):=by
    refine⟨fun i=> ?_,List.nodup_cons.2 ⟨hkey,hL.keys⟩,fun p hp=> ?_,fun i d hi=> ?_⟩
    ·rw[Cq]
     by_cases e:k=i
     ·subst e;simp
     ·rw[if_neg (by simpa using e),hL.vis i]
      constructor
      ·rintro(h|h|h)
       ·exact .inl h
       ·exact .inr (.inl h)
       ·exact .inr (.inr (by simp[h]))
      ·rintro(h|h|h)
       ·exact .inl h
       ·exact .inr (.inl h)
       ·rcases List.mem_append.1 h with h|h
        ·exact .inr (.inr h)
        ·simp at h;exact absurd h.symm e
    ·rcases List.mem_cons.1 hp with e|e
     ·subst e;exact⟨by omega,hkn⟩
     ·exact hL.bnd p e
    ·rw[Cq] at hi
     by_cases e:k=i
     ·subst e
      rw[if_pos (by simp)] at hi;injection hi with hi;subst hi;refine⟨by simp, ?_⟩;show H (201-(d0+1)) k;exact hHs (201-(d0+1)) id nd hid (by rw[show 201-(d0+1)+1=201-d0 by omega];exact hdH) k hkm
     ·rw[if_neg (by simpa using e)] at hi
      exact hL.dep i d hi
   have hkd:(nd.kids).Nodup:=hT.nodup id nd hid;obtain⟨deep',h1,h2,h3⟩:=QI hid hD ks (pre++[k]) ((k,(some d0).getD 0+1)::deep) (next++[k]) (by rw[hk];simp) hL' (fun j hj hm=>by
    rcases List.mem_append.1 hm with h|h
    ·exact hnx j (by simp[hj]) h
    ·simp at h
     subst h;rw[hk] at hkd;have:=(List.nodup_append.1 hkd).2.1;exact(List.nodup_cons.1 this).1 hj) (by
    rw[Cq];by_cases e:k=id
    ·omega
    ·rw[if_neg (by simpa using e)];exact hv) (by simp;omega)
   exact⟨deep',by rw[h1];simp,by simpa using h2,by simpa using h3⟩
def kd(M:Nat→Option Node)(i:Nat):List Nat:=(ndAt M i).kids
theorem Da{M:Nat→Option Node}{p k:Nat}:(∃a,M p=some a∧k∈a.kids)↔k∈kd M p:=by
 unfold kd ndAt;cases h:M p with
 |none=>simp[Node.zero]
 |some a=>simp
include hT hn hH0 hHs in
theorem OC{Dn:Nat→Prop}:∀(ids done:List Nat) (deep:List (Nat×Nat)),(done++ids).Nodup→(∀i∈ids,¬Dn i∧(gl deep i).isSome=true)→Lv M n H Dn (done.flatMap (kd M)) deep→(done.flatMap (kd M)).length < deep.length→
 ∃deep',Fe M ids deep (done.flatMap (kd M))=some (deep',(done++ids).flatMap (kd M))∧Lv M n H Dn ((done++ids).flatMap (kd M)) deep'∧∀i,(gl deep i).isSome=true→(gl deep' i).isSome=true
 |[],done,deep,hd,hi,hL,hlen=>⟨deep,by simp[Fe],by simpa using hL,fun i h=>h⟩
 |id::ids,done,deep,hd,hi,hL,hlen=>by
   obtain⟨hD,hv⟩:=hi id (by simp);have hid:∃nd,M id=some nd:=by
    have:=hL.bnd;obtain⟨d,hg⟩:=Option.isSome_iff_exists.1 hv;have hm:=(Bp deep id).1 hv;obtain⟨p,hp,rfl⟩:=List.mem_map.1 hm;exact Option.isSome_iff_exists.1 ((hT.dom p.1).2 (hL.bnd p hp))
   obtain⟨nd,hid⟩:=hid;have hkd:kd M id=nd.kids:=by unfold kd ndAt;rw[hid];rfl
   have hnot:id∉done:=by
    intro h;have:=(List.nodup_append.1 hd).2.2 id h id (by simp);exact this rfl
   obtain⟨deep1,h1,h2,h3⟩:=QI hT hn hH0 hHs hid hD nd.kids [] deep (done.flatMap (kd M)) rfl hL (fun k hk hm=>by
    obtain⟨q,hq,hkq⟩:=List.mem_flatMap.1 hm;obtain⟨b,hb,hkb⟩:=Da.2 hkq;exact hnot (hT.par q id b nd k hb hid hkb hk ▸ hq)) hv hlen
   have e:done.flatMap (kd M)++nd.kids=(done++[id]).flatMap (kd M):=by rw[List.flatMap_append];simp[hkd]
   rw[e] at h1 h2 h3;have hmono:∀i,(gl deep i).isSome=true→(gl deep1 i).isSome=true:=fun i h=>by
    rw[h2.vis i];rcases(hL.vis i).1 h with h|h|h
    ·exact .inl h
    ·exact .inr (.inl h)
    ·exact .inr (.inr (by rw[←e];exact List.mem_append_left _ h))
   obtain⟨deep',k1,k2,k3⟩:=OC ids (done++[id]) deep1 (by simpa using hd) (fun i h=>⟨(hi i (by simp[h])).1,hmono i (hi i (by simp[h])).2⟩) h2 h3;refine⟨deep', ?_,by simpa using k2,fun i h=>k3 i (hmono i h)⟩;unfold Fe;rw[show(M id).isNone=false by rw[hid];rfl,if_neg (by simp),show(ndAt M id).kids=nd.kids by unfold ndAt;rw[hid];rfl,h1];simpa using k1
include hT hn hH0 hHs in
theorem Ti:∀(m:Nat) (Dl ids:List Nat) (deep:List (Nat×Nat)),n-Dl.length≤m→(Dl++ids).Nodup→(∀i,(gl deep i).isSome=true↔i∈Dl++ids)→Lv M n H (· ∈Dl) [] deep→0 < deep.length→
 ∃R,tRun M (m+2) ids deep=some R∧∀i,(gl R i).isSome=(M i).isSome
 |m,Dl,[],deep,hm,hd,hv,hL,h0=>by
   refine⟨deep,rfl,fun i=> ?_⟩;have hall:∀i,1≤i→i≤n→(gl deep i).isSome=true:=fun i=>by
    induction i using Nat.strongRecOn with
    |_ i ih=>
      intro h1 h2;by_cases e:i=1
      ·exact(hL.vis i).2 (.inl e)
      ·obtain⟨p,a,ha,hk⟩:=hT.has i (by omega) h2
       have hlt:=(hT.kid p a ha i hk).1;have hp:=(hT.dom p).1 (by rw[ha];rfl);have:=(hv p).1 (ih p hlt hp.1 (by omega));exact(hL.vis i).2 (.inr (.inl ⟨p,a,by simpa using this,ha,hk⟩))
   rw[Bool.eq_iff_iff];constructor
   ·intro h
    have hm:=(Bp deep i).1 h;obtain⟨p,hp,rfl⟩:=List.mem_map.1 hm;exact(hT.dom p.1).2 (hL.bnd p hp)
   ·intro h
    have:=(hT.dom i).1 h;exact hall i this.1 this.2
 |m,Dl,id::ids,deep,hm,hd,hv,hL,h0=>by
   have hbnd:∀x∈Dl++(id::ids),1≤x∧x≤n:=fun x hx=>by
    have:=(Bp deep x).1 ((hv x).2 hx);obtain⟨p,hp,rfl⟩:=List.mem_map.1 this;exact hL.bnd p hp
   have hlen:=Gf n _ hd hbnd;simp only[List.length_append,List.length_cons] at hlen;have hdis:∀i∈id::ids,i∉Dl:=fun i hi h=>(List.nodup_append.1 hd).2.2 i h i hi rfl;obtain⟨deep',h1,h2,h3⟩:=OC hT hn hH0 hHs (Dn:=(· ∈Dl)) (id::ids) [] deep (by simpa using(List.nodup_append.1 hd).2.1) (fun i hi=>⟨hdis i hi,(hv i).2 (List.mem_append_right _ hi)⟩) hL h0;simp only[List.nil_append,List.flatMap_nil] at h1 h2;cases m with
   |zero=>exfalso;omega
   |succ m=>
   have hkn:∀k,k∈(id::ids).flatMap (kd M)→k∉Dl++(id::ids):=fun k hk hm=>by
    obtain⟨q,hq,hkq⟩:=List.mem_flatMap.1 hk;obtain⟨b,hb,hkb⟩:=Da.2 hkq;have h4:=(hT.kid q b hb k hkb).1;have hq1:=(hT.dom q).1 (by rw[hb];rfl);rcases(hL.vis k).1 ((hv k).2 hm) with h|⟨p,a,hp,ha,hka⟩|h
    ·omega
    ·exact hdis q hq (hT.par p q a b k ha hb hka hkb ▸ hp)
    ·simp at h
   have hnd:((id::ids).flatMap (kd M)).Nodup:=by
    refine List.pairwise_flatMap.2 ⟨fun q hq=> ?_, ?_⟩
    ·obtain⟨b,hb⟩:=Option.isSome_iff_exists.1 ((hT.dom q).2 (hbnd q (List.mem_append_right _ hq)))
     have:kd M q=b.kids:=by unfold kd ndAt;rw[hb];rfl
     rw[this];exact hT.nodup q b hb
    ·refine List.Pairwise.imp ?_ (List.nodup_append.1 hd).2.1
     intro p q hpq x hx y hy e;subst e;obtain⟨a,ha,hxa⟩:=Da.2 hx;obtain⟨b,hb,hxb⟩:=Da.2 hy;exact hpq (hT.par p q a b x ha hb hxa hxb)
   have hvis':∀i,(gl deep' i).isSome=true↔i∈(Dl++(id::ids))++(id::ids).flatMap (kd M):=fun i=>by
    rw[h2.vis i,List.mem_append,←hv i,hL.vis i];constructor
    ·rintro(h|h|h)
     ·exact .inl (.inl h)
     ·exact .inl (.inr (.inl h))
     ·exact .inr h
    ·rintro((h|h|h)|h)
     ·exact .inl h
     ·exact .inr (.inl h)
     ·simp at h
     ·exact .inr (.inr h)
   obtain⟨R,hR,hall⟩:=Ti m (Dl++(id::ids)) ((id::ids).flatMap (kd M)) deep' (by simp;omega) (List.nodup_append.2 ⟨hd,hnd,fun a ha b hb e=>hkn b hb (e ▸ ha)⟩) hvis' ⟨fun i=>by
    rw[h2.vis i];constructor
    ·rintro(h|⟨p,a,hp,ha⟩|h)
     ·exact .inl h
     ·exact .inr (.inl ⟨p,a,List.mem_append_left _ hp,ha⟩)
     ·obtain⟨q,hq,hkq⟩:=List.mem_flatMap.1 h
      obtain⟨b,hb,hkb⟩:=Da.2 hkq;exact .inr (.inl ⟨q,b,List.mem_append_right _ hq,hb,hkb⟩)
    ·rintro(h|⟨p,a,hp,ha,hk⟩|h)
     ·exact .inl h
     ·rcases List.mem_append.1 hp with hp|hp
      ·exact .inr (.inl ⟨p,a,hp,ha,hk⟩)
      ·exact .inr (.inr (List.mem_flatMap.2 ⟨p,hp,Da.1 ⟨a,ha,hk⟩⟩))
     ·simp at h,h2.keys,h2.bnd,h2.dep⟩ (by
    have:(gl deep' id).isSome=true:=(hvis' id).2 (by simp);cases deep' with
    |nil=>simp[gl] at this
    |cons _ _=>simp)
   refine⟨R, ?_,hall⟩;show(match Fe M (id::ids) deep [] with|none=>none|some r=>tRun M (m+2) r.2 r.1)=some R;rw[h1];exact hR
end
theorem J6(l:List Row):∀(rs:List Row) (n m:Nat),CO l rs n=some m→∀r∈rs,r.node.ref=0∨(atI l r.node.ref).isSome=true
 |[],n,m,h,r,hr=>by simp at hr
 |q::rs,n,m,h,r,hr=>by
   unfold CO at h;by_cases hc:q.node.ref≠0∧atI l q.node.ref=none
   ·rw[if_pos hc] at h;cases h
   rw[if_neg hc] at h;cases hk:CP l q.node.kids n with
   |none=>rw[hk] at h;cases h
   |some k=>
     rw[hk] at h;rcases List.mem_cons.1 hr with e|e
     ·subst e
      by_cases h0:r.node.ref=0
      ·exact .inl h0
      ·right
       cases ha:atI l r.node.ref with
       |none=>exact absurd ⟨h0,ha⟩ hc
       |some _=>rfl
     ·exact J6 l rs k m h r e
end Hg
