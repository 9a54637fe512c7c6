/-
  A part of the proof.
-/
import Derived.Test.YtfgnfpdfohjopaaGreatDoorKgAT
import Derived.Test.YtfgnfpdfohjopaaGreatDoorKgAV
set_option linter.all false
set_option maxHeartbeats 0
set_option maxRecDepth 100000
namespace Hg
def Gv(s:Str):List Row:=if (Df (s.take 900)).2≠0 then[⟨1,⟨1,[],0,0,0,[]⟩⟩] else(Df (s.take 900)).1
structure Tg (l:List Row):Prop where
 tr:Tr l
 len:l.length≤20000
 nk:∀r∈l,Nk 900 r.node
theorem Mq(s:Str):Tg (Gv s):=by
 unfold Gv;split
 ·refine⟨Rd.PL _ rfl rfl,by decide,fun r hr=> ?_⟩
  rw[List.mem_singleton] at hr;subst hr;exact⟨by decide,by decide,by decide⟩
 ·obtain⟨h1,h2⟩:=Vn (s.take 900)
  refine⟨?_,h2,fun r hr=> ?_⟩
  ·rcases h1 with h1|h1
   ·rw[h1];exact⟨fun k r h=>(by cases h),fun k r h=>(by cases h),List.Perm.refl _,fun k r h=>(by cases h),fun r h=>(by cases h)⟩
   ·exact h1
  ·have h3:=Vo (s.take 900) r hr
   have hl:(s.take 900).length≤900:=by rw[List.length_take];omega
   exact⟨h3.1,h3.2.1,by have:=h3.2.2;omega⟩
end Hg
namespace Go.Proofs.YtfgnfpdfohjopaaGreatDoor
open Go.RowKit
open Hg (Gv Tg Ej)
theorem Tg.rok{l:List Hg.Row}(h:Tg l):Rok l:=by
 have h1:=h.len;refine⟨by omega,by rw[h.tr.sum];omega,fun j r hr=> ?_,fun j r hr=> ?_,fun j r hr=> ?_,fun j r hr=> ?_⟩
 all_goals have hm:=List.mem_of_getElem? hr
 ·have:=h.tr.kids r hm;omega
 ·have:=(h.nk r hm).1;omega
 ·have:=(h.nk r hm).2.2;omega
 ·exact(h.nk r hm).2.1
theorem Pe{l:List Hg.Row}(h:Tg l)(B:Nat)(v:Value)(w:World)(hB:B≤w.heap.size)(hx:BA w B v l):
 ∃r,Hg.Ec l=some r∧Calls Tryz.prog 7 #[v] w fun e w'=>e= .returned (.int .i64 (r:Int))∧Below w.heap.size w w':=by
 obtain⟨r,hr⟩:=Hg.Ob l;have hrok:=Tg.rok h;have hl:=h.len;have hkn:∀x,(Hg.AO l x).kids.length≤4000000:=by
  intro x;cases hk:Hg.atI l x with
  |none=>rw[Hg.CS _ x hk];simp[Hg.Node.zero]
  |some k=>rw[Hg.DF _ x k hk];have:=h.tr.kids _ (List.mem_of_getElem? (Dr hk));omega
 have hz:∀x,∀k∈(Hg.AO l x).kids,k≠0:=fun x k hk=>h.tr.kid0 x k hk;refine⟨r,hr,Q6 B v _ w hB hx hrok (fun W al hW hX hsh hal=> ?_) r hr⟩;refine Wu B v _ W hW hX hrok.len hrok.sum hkn hz (fun id wb al vi W' hwb hid hX' hWk hvis=> ?_) al hal;exact Kz B wb v _ id hrok.len hwb hkn (PU hsh) hz 201 id (.slice none 0 0) [] al vi W' hid hX' (Sl.nil _ _) (by simp[Value.ownBlock]) (by simp) hWk hvis
theorem Tg.ids{l:List Hg.Row}(h:Tg l):Ej 1 l:=fun k r hr=>by have:=h.tr.rid k r hr;omega
def X0(x:List Hg.Row)(w:World)(e:Ending)(w':World):Prop:=
 ∃ab mb c v,e= .returned (.tuple #[.pointer (some ⟨ab,0,none⟩),v])∧ArAt w' ab mb c (EX x x.length)∧BA w' w'.heap.size v x∧Below w.heap.size w w'
theorem Vu(w:World):BA (w.alloc (.cells #[.int .u64 1,.int .u8 1,.string ⟨#[]⟩,.int .i64 0,.int .u8 0,.int .u64 0,.slice none 0 0] 50)) (w.heap.size+1) (.slice (some ⟨w.heap.size,0,none⟩) 1 1) [⟨1,⟨1,[],0,0,0,[]⟩⟩]:=by
 have h:=Sl.new w 50 1 #[.int .u64 1,.int .u8 1,.string ⟨#[]⟩,.int .i64 0,.int .u8 0,.int .u64 0,.slice none 0 0];refine⟨[.slice none 0 0],rfl,h,fun k r kv hr hv=> ?_⟩;cases k with
 |zero=>
   injection hr with hr;injection hv with hv;subst hr;subst hv;exact Sl.nil _ _
 |succ k=>cases hr
theorem NF(s:List UInt8)(w:World)(hs:s.length≤1000000000000000):Calls Tryz.prog 6 #[.string ⟨s.toArray⟩] w (X0 (Gv s) w):=by
 have T1:=zz (Ty s 900 hs (by decide) w);have T2:=zz (RF (s.take 900) (by rw[List.length_take];omega) w);have TG:=Hg.Mq s;have HG:=zz (show Gv s=if (Hg.Df (s.take 900)).2≠0 then[⟨1,⟨1,[],0,0,0,[]⟩⟩] else(Hg.Df (s.take 900)).1 from rfl);have TN:=zz (fun W=>Xc (fun _=>True) W);generalize Gv s=x at HG TG⊢;have HI:=zz (Tg.ids TG);have hl:=TG.len;have HK:=zz (fun(k:Nat) (r:Hg.Row) (hr:x[k]? =some r)=>(show r.node.kids.length≤1000000 from by have:=TG.tr.kids r (List.mem_of_getElem? hr);omega));clear TG;go_enter Tryz.func6,Tryz.ntmps6;go_wp2_with fail;refine T1.out.mono ?_;rintro e w1 ⟨rfl,rfl⟩;clear T1;go_wp2_with fail;refine T2.out.mono ?_;rintro e w2 ⟨⟨v,rfl,hv⟩,hb2⟩;have HV:=zz hv;have HB2:=zz hb2;clear T2 hv hb2;generalize Hg.Df (s.take 900)=pr at HG HV;obtain⟨rows,n⟩:=pr;have hg:=HG.out;obtain⟨av,cv,rfl⟩:=HV.out.form;by_cases h0:n=0
 case' pos=>
  subst h0;rw[if_neg (by simp)] at hg;dsimp only at hg;subst hg;have HX3:=zz HV.out;have HB3:=zz HB2.out;go_wp2_with fail;generalize w2=W3 at HX3 HB3⊢;generalize Value.slice av x.length cv=v3 at HX3⊢
 case' neg=>
  rw[if_pos h0] at hg;have q:((n:Int) !=0)=true:=by simp[h0]
  clear h0;go_wp2_with fail;have h1:=Vu w2;have hb3:Below w2.heap.size w2 (w2.alloc (.cells #[.int .u64 1,.int .u8 1,.string ⟨#[]⟩,.int .i64 0,.int .u8 0,.int .u64 0,.slice none 0 0] 50)):=(AL).alloc AA _;have hz3:(w2.alloc (.cells #[.int .u64 1,.int .u8 1,.string ⟨#[]⟩,.int .i64 0,.int .u8 0,.int .u64 0,.slice none 0 0] 50)).heap.size=w2.heap.size+1:=by simp
  have HX3:=zz (show BA (w2.alloc (.cells #[.int .u64 1,.int .u8 1,.string ⟨#[]⟩,.int .i64 0,.int .u8 0,.int .u64 0,.slice none 0 0] 50)) (w2.alloc (.cells #[.int .u64 1,.int .u8 1,.string ⟨#[]⟩,.int .i64 0,.int .u8 0,.int .u64 0,.slice none 0 0] 50)).heap.size (.slice (some ⟨w2.heap.size,0,none⟩) 1 1) x from by rw[hz3,hg];exact h1);have HB3:=zz (HB2.out.trans (hb3.mono HB2.out.size));clear h1 hb3 hz3;generalize World.alloc w2 _=W3 at HX3 HB3⊢;generalize Value.slice (some _) 1 1=v3 at HX3⊢
 all_goals
  clear HG HV
  try clear hg
  obtain⟨a4,c4,rfl⟩:=HX3.out.form;refine(TN.out W3).mono ?_;rintro e w5 ⟨ab,mb,rfl,hab,hmb,hA5,hb5⟩;have HA5:=zz hA5;have HB5:=zz hb5;clear hA5 hb5 TN HB2;go_wp2
  go_loopw [23] (fun p wr=>∃(j cj:Nat),p= .int .i64 (j:Int)∧j≤x.length∧ArAt wr ab mb cj (EX x j)∧cj≤j+1∧(0 < j→cj≤j)∧Below W3.heap.size W3 wr) (fun p wr=>x.length-(intOf p).toNat)
  case atStart=>exact⟨0,1,rfl,Nat.zero_le _,HA5.out,by omega,fun h=>by omega,HB5.out⟩
  case round=>
   obtain⟨j,cj,rfl,hj,hA,hc1,hc2,hb⟩:=hrel;have HA:=zz hA;have HB:=zz hb;have HC:=zz (And.intro hc1 hc2);clear hA hc1 hc2 HA5 HB5;by_cases hlt:j < x.length
   ·obtain⟨r,hr⟩:∃r,x[j]? =some r:=⟨_,AY hlt⟩
    obtain⟨b,o,ka,kc,rfl,hbl,hks,r0,r1,r2,r3,r4,r5,r6⟩:=(HX3.out.below hb AA).at_ hr;have hid:r.id=j+1:=by have:=HI.out j r hr;omega
    have hkl:=HK.out j r hr;have hbN:Below wr.heap.size wr (wr.alloc (.cells #[.int .u64 (r.id:Int),.int .u8 (r.node.kind:Int),strV r.node.name,.int .i64 r.node.num,.int .u8 (r.node.type:Int),.int .u64 (r.node.ref:Int),.slice ka r.node.kids.length kc] 50)):=(AL).alloc AA _;have hiM:(EX x j r.id).isSome=decide (j=0):=by rw[hid];exact Ql x j
    have TPU:=XW (fun _=>True) ab mb cj (EX x j) r.id r.node ka kc _ (HA.out.below hbN AA) (by unfold Ah;omega) (by omega) (by
     rw[hiM];by_cases e:j=0
     ·exact .inl (by simp[e])
     ·exact .inr (by have:=HC.out.2 (by omega);omega)) (by have:=HC.out.1;omega) ((hks.more hb.size).below hbN AA|>.more hbN.size) hkl
    have TPU:=zz TPU;have HR:=zz (And.intro hr (And.intro hid hiM));have HBN:=zz (HB.out.trans (hbN.mono HB.out.size));clear hr hid hiM hkl hb hbN hks;go_wp2_with fail;refine TPU.out.mono ?_;rintro e w7 ⟨rfl,hA7,hg7⟩;have HB7:=zz (show Below W3.heap.size W3 w7 from HBN.out.grown hg7 HBN.out.size (fun k hk=>by injection hk with hk;omega));have HA7:=zz (show∃c7,ArAt w7 ab mb c7 (EX x (j+1))∧c7≤j+1 from by
     have h1:=hA7.imp (Z':=fun _=>True) (fun _ _=>trivial);obtain⟨g1,g2,g3⟩:=HR.out;rw[g3,g2,UK g1] at h1;refine⟨_,h1, ?_⟩;have h2:=HC.out;by_cases e:j=0
     ·rw[if_pos (by simpa using e)];omega
     ·rw[if_neg (by simpa using e)];have:=h2.2 (by omega);omega)
    clear hA7 hg7 TPU;go_wp2;go_roundw
    case rel=>
     obtain⟨c7,h1,h2⟩:=HA7.out;exact⟨j+1,c7,by go_num,by omega,h1,by omega,fun _=>h2,HB7.out⟩
    case measure=>simp[intOf];omega
   ·obtain rfl:j=x.length:=by omega
    clear hb;go_wp2;go_ret2;exact⟨ab,mb,cj,_,rfl,HA.out,(HX3.out.below HB.out AA).more HB.out.size,HB3.out.trans (HB.out.mono HB3.out.size)⟩
end Go.Proofs.YtfgnfpdfohjopaaGreatDoor
