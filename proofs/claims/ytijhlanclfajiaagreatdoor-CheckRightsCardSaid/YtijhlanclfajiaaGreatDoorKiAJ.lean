/-
  A part of the proof.
-/
import Derived.Test.YtijhlanclfajiaaGreatDoorKiAF
import Derived.Test.YtijhlanclfajiaaGreatDoorKiAI
import Derived.BigQuiet
set_option linter.all false
set_option maxHeartbeats 32000000
set_option maxRecDepth 100000
namespace Go.Proofs.YtijhlanclfajiaaGreatDoor
open Go.RowKit
theorem Vv(s:Hg.Rd)(k:Nat)(h:s.bad=true):s.text k=[]:=by simp[Hg.Rd.text,h]
theorem Vu(s:Hg.Rd)(k:Nat)(h:s.L.length≤s.at_):s.text k=[]:=by
 unfold Hg.Rd.text;rw[List.getElem?_eq_none h]
 split <;>rfl
theorem Vt(s:Hg.Rd)(k:Nat)(h:s.bad=false)(hlt:s.at_ < s.L.length)(hk:s.L[s.at_].kind=k):s.text k=s.L[s.at_].text:=by
 simp[Hg.Rd.text,h,AX hlt,hk]
theorem Rn(s:Hg.Rd)(k:Nat)(h:s.bad=false)(hlt:s.at_ < s.L.length)(hk:s.L[s.at_].kind≠k):s.text k=[]:=by
 simp[Hg.Rd.text,h,AX hlt,hk]
theorem MH{a b:List UInt8}(h:a=b):Ending.returned (strV a)= .returned (strV b):=by rw[h]
theorem I5(rb:Nat)(s:Hg.Rd)(k:Nat)(w:World)(hR:RdAt w rb s)(hA:s.at_≤1000000000)(hLL:s.L.length≤1000000000):
 Calls Tryz.prog 138 #[.pointer (some ⟨rb,0,none⟩),.int .u8 (k:Int)] w fun e w'=>e= .returned (strV (s.text k))∧∃n,w'=w.drewN n:=by
 obtain⟨c1,_,c3,_,_⟩:=hR.cell;obtain⟨a,c,c0,hS⟩:=hR.toks;have HS:=zz hS;clear hS hR;cases hb:s.bad
 ·rw[hb] at c3
  by_cases hlt:s.at_ < s.L.length
  ·obtain⟨b,o,ha,_,t0,t1,t2⟩:=HS.out.tokAt (AX hlt)
   subst ha;have hd:decide (s.at_ < s.L.length)=true:=by simp;omega
   have hd2:decide ((s.at_:Int) < (s.L.length:Int))=true:=by simp;omega
   have hi1:(0:Int)≤(s.at_:Int):=by omega
   have hi2:(s.at_:Int) < (s.L.length:Int):=by omega
   by_cases hk:s.L[s.at_].kind=k
   ·have hq:((s.L[s.at_].kind:Int)==(k:Int))=true:=by simp[hk]
    have hfin:=zz (Vt s k hb hlt hk);clear hk hb;go_enter Tryz.func138,Tryz.ntmps138;go_wp2
    go_quiet (fail)
    go_wp2
    go_quiet (fail)
    go_wp2;go_ret;exact⟨MH hfin.out.symm,_,by first|rfl|exact World.drewN_drewN _ _ _⟩
   ·have hq:((s.L[s.at_].kind:Int)==(k:Int))=false:=by simp;omega
    have hfin:=zz (Rn s k hb hlt hk);clear hk hb;go_enter Tryz.func138,Tryz.ntmps138;go_wp2
    go_quiet (fail)
    go_wp2;go_ret;exact⟨MH hfin.out.symm,_,by first|rfl|exact World.drewN_drewN _ _ _⟩
  ·have hd:decide (s.at_ < s.L.length)=false:=by simp;omega
   have hd2:decide ((s.at_:Int) < (s.L.length:Int))=false:=by simp;omega
   have hfin:=zz (Vu s k (by omega));clear hb;go_enter Tryz.func138,Tryz.ntmps138;go_wp2
   go_quiet (fail)
   go_wp2;go_ret;exact⟨MH hfin.out.symm,_,by first|rfl|exact World.drewN_drewN _ _ _⟩
 ·rw[hb] at c3
  have hfin:=zz (Vv s k hb);clear hb;go_enter Tryz.func138,Tryz.ntmps138;go_wp2
  go_quiet (fail)
  go_wp2;go_ret;exact⟨MH hfin.out.symm,_,by first|rfl|exact World.drewN_drewN _ _ _⟩
theorem Xy(rb:Nat)(s:Hg.Rd)(w:World)(hR:RdAt w rb s)(hA:s.at_≤1000000000)(hLL:s.L.length≤1000000000):
 Calls Tryz.prog 138 #[.pointer (some ⟨rb,0,none⟩),.int .u8 1] w fun e w'=>e= .returned (strV (s.text 1))∧∃n,w'=w.drewN n:=I5 rb s 1 w hR hA hLL
theorem TZ(rb:Nat)(s:Hg.Rd)(w:World)(hR:RdAt w rb s)(hA:s.at_≤1000000000)(hLL:s.L.length≤1000000000):
 Calls Tryz.prog 138 #[.pointer (some ⟨rb,0,none⟩),.int .u8 3] w fun e w'=>e= .returned (strV (s.text 3))∧∃n,w'=w.drewN n:=I5 rb s 3 w hR hA hLL
theorem Xx(rb:Nat)(s:Hg.Rd)(w:World)(hR:RdAt w rb s)(hA:s.at_≤1000000000)(hLL:s.L.length≤1000000000):
 Calls Tryz.prog 138 #[.pointer (some ⟨rb,0,none⟩),.int .u8 4] w fun e w'=>e= .returned (strV (s.text 4))∧∃n,w'=w.drewN n:=I5 rb s 4 w hR hA hLL
theorem Kw(rb:Nat)(s:Hg.Rd)(t:List UInt8)(w:World)(hR:RdAt w rb s)(hA:s.at_≤1000000000)(hLL:s.L.length≤1000000000):
 Calls Tryz.prog 139 #[.pointer (some ⟨rb,0,none⟩),strV t] w fun e w'=>e= .returned (.bool (s.next t))∧∃n,w'=w.drewN n:=by
 have HR:=zz hR;clear hR;have hdef:s.next t=(s.text 3==t||s.text 4==t):=rfl;have HD:=zz hdef;clear hdef;cases h3:(s.text 3==t)
 ·cases h4:(s.text 4==t)
  all_goals
   go_enter Tryz.func139,Tryz.ntmps139
   go_wp2_with (first|(go_at_call 138;((with_reducible refine(TZ rb s _ HR.out hA hLL).mono ?_);rintro e w1 ⟨rfl,n1,rfl⟩))|(go_at_call 138;((with_reducible refine(Xx rb s _ (HR.out.drewN n1) hA hLL).mono ?_);rintro e w2 ⟨rfl,n2,rfl⟩)))
   go_ret;refine⟨AQ (by rw[HD.out,h3,h4];rfl),_,by first|rfl|exact World.drewN_drewN _ _ _⟩
 ·go_enter Tryz.func139,Tryz.ntmps139
  go_wp2_with (go_at_call 138;((with_reducible refine(TZ rb s _ HR.out hA hLL).mono ?_);rintro e w1 ⟨rfl,n1,rfl⟩))
  go_ret;exact⟨AQ (by rw[HD.out,h3];rfl),_,rfl⟩
structure Lim (s:Hg.Rd):Prop where
 at_:s.at_≤100000000
 L:s.L.length≤100000000
 deep:s.deep≤100000000
 level:s.level≤100000000
theorem Ka(rb:Nat)(s:Hg.Rd)(t:List UInt8)(w:World)(hR:RdAt w rb s)(hl:Lim s):
 Calls Tryz.prog 94 #[.pointer (some ⟨rb,0,none⟩),strV t] w fun e w'=>e= .returned (.bool (s.next t))∧RdAt w' rb (s.eat t)∧Lite rb w w':=by
 obtain⟨hA,hLL,_,_⟩:=hl;have HR:=zz hR;obtain⟨c1,_,_,_,_⟩:=hR.cell;have f1:=hR.frozen 1;have hlt:=hR.lt;clear hR;have hdef:s.eat t=if s.next t then s.step else s:=rfl
 have HD:=zz hdef;clear hdef;cases hn:s.next t
 ·go_enter Tryz.func94,Tryz.ntmps94
  go_wp2_with (go_at_call 139;((with_reducible refine(Kw rb s t _ HR.out (by omega) (by omega)).mono ?_);rintro e w1 ⟨rfl,n1,rfl⟩))
  go_ret;exact⟨rfl,by rw[HD.out,hn];exact HR.out.drewN n1,Lite.drewN _ _ _⟩
 ·go_enter Tryz.func94,Tryz.ntmps94
  go_wp2_with (go_at_call 139;((with_reducible refine(Kw rb s t _ HR.out (by omega) (by omega)).mono ?_);rintro e w1 ⟨rfl,n1,rfl⟩))
  go_ret;refine⟨rfl, ?_,(Lite.drewN _ _ _).setCell (by decide) _⟩;rw[HD.out,hn];exact(HR.out.drewN n1).setAt (s.at_+1)
theorem OU(rb:Nat)(s:Hg.Rd)(t:List UInt8)(w:World)(hR:RdAt w rb s)(hl:Lim s):
 Calls Tryz.prog 90 #[.pointer (some ⟨rb,0,none⟩),strV t] w fun e w'=>e= .returned (.tuple #[])∧RdAt w' rb (s.need t)∧Lite rb w w':=by
 have HR:=zz hR;clear hR;have HE:=fun w h=>zz (Ka rb s t w h hl);cases hn:s.next t
 ·have hd:s.need t=s.setBad:=by simp[Hg.Rd.need,hn]
  have hd2:s.eat t=s:=by simp[Hg.Rd.eat,hn]
  rw[hd];simp only[hn,hd2] at HE;clear hd hd2 hn;go_enter Tryz.func90,Tryz.ntmps90
  go_wp2_with (go_at_call 94;refine((HE _ HR.out).out).mono ?_;rintro e w1 ⟨rfl,hR1,hb1⟩;have HR1:=zz hR1;obtain⟨_,_,c3,_,_⟩:=hR1.cell;have f3:=hR1.frozen 3;clear hR1)
  go_end0;exact⟨rfl,HR1.out.setBad,hb1.setCell (by decide) _⟩
 ·have hd:s.need t=s.step:=by simp[Hg.Rd.need,hn]
  have hd2:s.eat t=s.step:=by simp[Hg.Rd.eat,hn]
  rw[hd];simp only[hn,hd2] at HE;clear hd hd2 hn;go_enter Tryz.func90,Tryz.ntmps90
  go_wp2_with (go_at_call 94;refine((HE _ HR.out).out).mono ?_;rintro e w1 ⟨rfl,hR1,hb1⟩;have HR1:=zz hR1;clear hR1)
  go_end0;exact⟨rfl,HR1.out,hb1⟩
theorem U4(rb:Nat)(s:Hg.Rd)(w:World)(hR:RdAt w rb s)(hl:Lim s):
 Calls Tryz.prog 91 #[.pointer (some ⟨rb,0,none⟩)] w fun e w'=>e= .returned (strV (s.text 1))∧RdAt w' rb s.name∧Lite rb w w':=by
 obtain⟨hA,hLL,_,_⟩:=hl;have HR:=zz hR;obtain⟨c1,_,c3,_,_⟩:=hR.cell;have f1:=hR.frozen 1;have f3:=hR.frozen 3;clear hR;have HT:=fun w h=>zz (Xy rb s w h (by omega) (by omega));by_cases hn:s.text 1=[]
 ·have hd:s.name=s.setBad:=by simp[Hg.Rd.name,hn]
  rw[hd,hn];simp only[hn] at HT;clear hd hn;go_enter Tryz.func91,Tryz.ntmps91
  go_wp2_with (go_at_call 138;refine((HT _ HR.out).out).mono ?_;rintro e w1 ⟨rfl,n1,rfl⟩)
  go_ret;exact⟨rfl,(HR.out.drewN n1).setBad,(Lite.drewN _ _ _).setCell (by decide) _⟩
 ·have hd:s.name=s.step:=by simp[Hg.Rd.name,hn]
  have hq:(s.text 1==[])=false:=by simp[hn]
  have hq2:(s.text 1).isEmpty=false:=by simp[hn]
  rw[hd];clear hd hn;generalize s.text 1=tx at*;go_enter Tryz.func91,Tryz.ntmps91
  go_wp2_with (go_at_call 138;refine((HT _ HR.out).out).mono ?_;rintro e w1 ⟨rfl,n1,rfl⟩)
  go_ret;exact⟨rfl,(HR.out.drewN n1).setAt (s.at_+1),(Lite.drewN _ _ _).setCell (by decide) _⟩
theorem Rj(rb:Nat)(s:Hg.Rd)(w:World)(hR:RdAt w rb s)(hl:Lim s):
 Calls Tryz.prog 140 #[.pointer (some ⟨rb,0,none⟩)] w fun e w'=>e= .returned (.int .u8 (s.typed.1:Int))∧RdAt w' rb s.typed.2∧Lite rb w w':=by
 have HR:=zz hR;clear hR;have HE:=fun w h=>zz (Ka rb s Hg.wInt w h hl);have HN:=fun w h=>zz (OU rb s Hg.Pz w h hl);cases hn:s.next Hg.wInt
 ·have hd:s.typed=(2,s.need Hg.Pz):=by simp[Hg.Rd.typed,hn]
  have hd2:s.eat Hg.wInt=s:=by simp[Hg.Rd.eat,hn]
  rw[hd];simp only[hn,hd2] at HE;clear hd hd2 hn;go_enter Tryz.func140,Tryz.ntmps140
  go_wp2_with (first|(go_at_call 94;refine((HE _ HR.out).out).mono ?_;rintro e w1 ⟨rfl,hR1,hb1⟩;have HR1:=zz hR1;clear hR1)|(go_at_call 90;refine((HN _ HR1.out).out).mono ?_;rintro e w2 ⟨rfl,hR2,hb2⟩;have HR2:=zz hR2;clear hR2))
  go_ret;exact⟨rfl,HR2.out,hb1.trans hb2⟩
 ·have hd:s.typed=(1,s.step):=by simp[Hg.Rd.typed,hn]
  have hd2:s.eat Hg.wInt=s.step:=by simp[Hg.Rd.eat,hn]
  rw[hd];simp only[hn,hd2] at HE;clear hd hd2 hn;go_enter Tryz.func140,Tryz.ntmps140
  go_wp2_with (go_at_call 94;refine((HE _ HR.out).out).mono ?_;rintro e w1 ⟨rfl,hR1,hb1⟩;have HR1:=zz hR1;clear hR1)
  go_ret;exact⟨rfl,HR1.out,hb1⟩
theorem Hl(rb:Nat)(s:Hg.Rd)(e0:Nat)(w:World)(hR:RdAt w rb s):
 Calls Tryz.prog 93 #[.pointer (some ⟨rb,0,none⟩),.int .i64 (e0:Int)] w fun e w'=>e= .returned (.tuple #[])∧RdAt w' rb (s.fault e0)∧Lite rb w w':=by
 have HR:=zz hR;obtain⟨_,_,c3,c5,_⟩:=hR.cell;have f5:=hR.frozen 5;clear hR;by_cases h0:s.names=0
 ·have hq:((s.names:Int)==0)=true:=by simp[h0]
  cases hb:s.bad
  ·have hd:s.fault e0={s with names:=e0}:=by simp[Hg.Rd.fault,h0,hb]
   rw[hd];rw[hb] at c3;clear hd h0 hb;go_enter Tryz.func93,Tryz.ntmps93;go_wp2;go_end0;exact⟨rfl,HR.out.setNames e0,(Lite.refl _ _).setCell (by decide) _⟩
  ·have hd:s.fault e0=s:=by simp[Hg.Rd.fault,hb]
   rw[hd];rw[hb] at c3;clear hd h0 hb;go_enter Tryz.func93,Tryz.ntmps93;go_wp2;go_end0;exact⟨rfl,HR.out,Lite.refl _ _⟩
 ·have hq:((s.names:Int)==0)=false:=by simp;omega
  have hd:s.fault e0=s:=by simp[Hg.Rd.fault,h0]
  rw[hd];clear hd h0;go_enter Tryz.func93,Tryz.ntmps93;go_wp2;go_end0;exact⟨rfl,HR.out,Lite.refl _ _⟩
theorem Sn(rb:Nat)(s:Hg.Rd)(w:World)(hR:RdAt w rb s)(hl:Lim s):
 Calls Tryz.prog 166 #[.pointer (some ⟨rb,0,none⟩)] w fun e w'=>e= .returned (.bool (!s.enter.bad))∧RdAt w' rb s.enter∧Below rb w w':=by
 have hD:=hl.deep;have HR:=zz hR;obtain⟨_,c2,c3,_,_⟩:=hR.cell;have f2:=hR.frozen 2;have f3:=hR.frozen 3;clear hR;by_cases h90:90 < s.deep+1
 ·have hq:decide ((90:Int) < (s.deep:Int)+1)=true:=by simp;omega
  have hd:s.enter=({s with deep:=s.deep+1}:Hg.Rd).setBad:=by simp[Hg.Rd.enter,h90]
  rw[hd];clear hd;go_enter Tryz.func166,Tryz.ntmps166;go_wp2;go_ret;exact⟨rfl,(HR.out.setDeep (s.deep+1)).setBad,((AP).setCell (p:=⟨rb,2,none⟩) AA _).setCell (p:=⟨rb,3,none⟩) AA _⟩
 ·have hq:decide ((90:Int) < (s.deep:Int)+1)=false:=by simp;omega
  have hd:s.enter={s with deep:=s.deep+1}:=by simp[Hg.Rd.enter,h90]
  rw[hd];clear hd;go_enter Tryz.func166,Tryz.ntmps166;go_wp2;go_ret;exact⟨rfl,HR.out.setDeep (s.deep+1),(AP).setCell (p:=⟨rb,2,none⟩) AA _⟩
theorem Sa(l:List Hg.GA)(t:List UInt8)(k:Nat)(hk:k < l.length)(h:l[k].name=t)(hno:∀j,k < j→(hj:j < l.length)→l[j].name≠t):Hg.Rd.Jl l t=some l[k].id:=by
 unfold Hg.Rd.Jl;have:l.reverse.find? (fun b=>b.name==t)=some l[k]:=by
  rw[List.find?_eq_some_iff_getElem];refine⟨by simpa using h,l.length-1-k,by simp;omega, ?_,fun j hj=> ?_⟩
  ·rw[List.getElem_reverse];congr 1;omega
  ·rw[List.getElem_reverse]
   have:=hno (l.length-1-j) (by omega) (by omega);simpa using this
 rw[this];rfl
theorem Q7(l:List Hg.GA)(t:List UInt8)(hno:∀j,(hj:j < l.length)→l[j].name≠t):Hg.Rd.Jl l t=none:=by
 unfold Hg.Rd.Jl;rw[List.find?_eq_none.2]
 ·rfl
 ·intro b hb
  obtain⟨j,hj,he⟩:=List.mem_iff_getElem.1 (List.mem_reverse.1 hb);have:=hno j hj;rw[he] at this;simpa using this
theorem Il:∀(l:List Hg.GA) (k j:Nat) (t:Hg.GA),l[k]? =some t→j < 3→(l.flatMap Ah)[k*3+j]? =(Ah t)[j]?
 |t0::l,0,j,t,h,hj=>by
   simp only[List.getElem?_cons_zero,Option.some.injEq] at h;subst h;rw[List.flatMap_cons,List.getElem?_append_left (by simp[Ah];omega)];simp
 |t0::l,k+1,j,t,h,hj=>by
   simp only[List.getElem?_cons_succ] at h;rw[List.flatMap_cons,List.getElem?_append_right (by simp[Ah];omega),←Il l k j t h hj]
   congr 1
   simp[Ah];omega
 |[],k,j,t,h,hj=>by simp at h
theorem RdAt.forSeen{w:World}{rb:Nat}{s:Hg.Rd}(h:RdAt w rb s):∃a c,w.cell? ⟨rb,12,none⟩=some (.slice a s.seen.length c)∧
 ∀k,(hk:k < s.seen.length)→∃g,a=some ⟨g,0,none⟩∧w.cell? ⟨g,k*3,none⟩=some (strV s.seen[k].name)∧w.cell? ⟨g,k*3+1,none⟩=some (.int .u64 (s.seen[k].id:Int))∧w.cell? ⟨g,k*3+2,none⟩=some (.int .i64 (s.seen[k].deep:Int)):=by
 obtain⟨vL,vR,vM,vF,vI,vC,vW,vU,vS,ks,h1,h2,h3,h4⟩:=h;have hS:w.ownsRow (rb+1) 196 3 vS s.seen.length (s.seen.flatMap Ah):=h4.1 ⟨vS,196,3,s.seen.length,s.seen.flatMap Ah⟩ (by simp[BU]);obtain⟨a,c,rfl⟩:=(Sl.Ai hS).form;refine⟨a,c,AJ w rb 12 _ _ (0,0) h1,fun k hk=> ?_⟩;rcases hS.2 with⟨he,hn⟩|⟨g,cap,cur,hv,_,hg,_⟩
 ·omega
 ·injection hv with e1 e2 e3
  subst e1;have cell:∀j u,j < 3→(Ah s.seen[k])[j]? =some u→w.cell? ⟨g,k*3+j,none⟩=some u:=by
   intro j u hj hu;have e:=Il s.seen k j s.seen[k] (AX hk) hj;have e2:=World.ownsRow.cellAt hS (k*3+j) (by omega);rw[e2,e];exact hu
  exact⟨g,rfl,cell 0 _ (by omega) rfl,cell 1 _ (by omega) rfl,cell 2 _ (by omega) rfl⟩
theorem VI(rb:Nat)(s:Hg.Rd)(t:List UInt8)(w:World)(hR:RdAt w rb s)(hl:s.seen.length≤100000000):
 Calls Tryz.prog 165 #[.pointer (some ⟨rb,0,none⟩),strV t] w fun e w'=>e= .returned (.int .u64 ((s.find t).1:Int))∧RdAt w' rb (s.find t).2∧Lite rb w w':=by
 obtain⟨a,c,c12,hcell⟩:=hR.forSeen;have HC:=zz hcell;have hdef:∀o,Hg.Rd.Jl s.seen t=o→s.find t=match o with|some id=>(id,s)|none=>(0,s.fault 9):=fun o ho=>by unfold Hg.Rd.find;rw[ho];cases o <;>rfl
 have HDEF:=zz hdef;have H1:=zz (@Sa s.seen t);have H2:=zz (@Q7 s.seen t);clear hcell hdef;generalize hsn:s.seen=l at*;clear hsn;generalize s.find t=res at*;go_enter Tryz.func165,Tryz.ntmps165;go_wp2
 go_loop [5] (fun i=>∃k:Nat,k≤l.length∧i= .int .i64 ((k:Int)-1)∧∀j,k≤j→(hj:j < l.length)→l[j].name≠t) (fun i=>(intOf i+1).toNat)
 case atStart=>exact⟨l.length,AA,rfl,fun j h1 h2=>by omega⟩
 case round=>
  obtain⟨k,hk,rfl,hno⟩:=hrel;have HN:=zz hno;clear hno;cases k with
  |zero=>
    have hd:=zz (HDEF.out none (H2.out fun j hj=>HN.out j (by omega) hj))
    go_wp2_with (go_at_call 93;refine(Hl rb s 9 _ hR).mono ?_;rintro e w1 ⟨rfl,hR1,hb1⟩)
    go_ret;rw[hd.out];exact⟨rfl,hR1,hb1⟩
  |succ k=>
    have hlt:k < l.length:=by omega
    obtain⟨g,rfl,d0,d1,d2⟩:=HC.out k hlt;have e1:((k+1:Nat):Int)-1=(k:Int):=by omega
    rw[e1];have hi1:(0:Int)≤(k:Int):=by omega
    have hi2:(k:Int) < (l.length:Int):=by omega
    have E1:=zz e1;clear e1;by_cases hid:l[k].name=t
    ·have hq:(l[k].name==t)=true:=by simp[hid]
     have hd:=zz (HDEF.out (some l[k].id) (H1.out k hlt hid fun j h1 h2=>HN.out j (by omega) h2));clear hid;go_wp2;go_ret;rw[hd.out];exact⟨rfl,hR,Lite.refl _ _⟩
    ·have hq:(l[k].name==t)=false:=by simp[hid]
     have HI:=zz hid;clear hid;go_wp2
     go_round
     case rel=>exact⟨k,by omega,rfl,fun j h1 h2=>by
      by_cases e:j=k
      ·subst e;exact HI.out
      ·exact HN.out j (by omega) h2⟩
     case measure=>simp[intOf] <;>omega
end Go.Proofs.YtijhlanclfajiaaGreatDoor
