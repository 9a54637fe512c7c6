/-
  A part of the proof.
-/
import Derived.Test.YtijhlanclfajiaaGreatDoorKiAZ
import Derived.Test.YtijhlanclfajiaaGreatDoorKiAY
import Derived.Test.YtijhlanclfajiaaGreatDoorKiAU
set_option linter.all false
set_option maxHeartbeats 32000000
set_option maxRecDepth 100000
namespace Go.Proofs.YtijhlanclfajiaaGreatDoor
open Go.RowKit Go.Sort Go.Lib
open Hg (GT gl)
section
variable {α:Type} [Inhabited α]
theorem ZB{w:World}{g:Nat}{cur:Array Value}{e:TypeId}(enc:α→Value){ss:List α}(hb:w.heap[g]? =some (.cells cur e (0,0)))(ht:cur.toList.take ss.length=ss.map enc):Holds enc w g 0 ss.toArray:=by
 intro j hj;have hj':j < ss.length:=by simpa using hj
 refine⟨?_,by simp[World.frozen?,hb]⟩;have h1:(cur.toList.take ss.length)[j]? =(ss.map enc)[j]? :=by rw[ht]
 rw[List.getElem?_take_of_lt hj'] at h1;simp only[World.cell?,hb,Nat.zero_add];simp only[Option.isSome_none,Bool.false_eq_true,if_false];rw[←Array.getElem?_toList,h1]
 simp[hj']
theorem ZT{w:World}{g n:Nat}{cur:Array Value}{e:TypeId}{fr:Nat×Nat}(enc:α→Value)(d:Array α)(hb:w.heap[g]? =some (.cells cur e fr)):
 (putRow enc (Sort.ahead w n) g 0 d).heap[g]? =some (.cells (putCells enc 0 d cur) e fr):=by
 simp[putRow,mapBlock,Sort.ahead,Array.getElem?_modify,hb,onCells]
theorem frE{w:World}{g n:Nat}(enc:α→Value)(d:Array α):Fr (fun q=>q=g) w (putRow enc (Sort.ahead w n) g 0 d):=by
 refine⟨rfl,rfl,rfl,by simp[Sort.ahead],fun k hk hne=> ?_⟩;have:g≠k:=fun e=>hne e.symm
 simp[putRow,mapBlock,Sort.ahead,Array.getElem?_modify,this]
theorem ZQ(enc:α→Value)(cur:Array Value)(ts:List α)(h:ts.length≤cur.size):(putCells enc 0 ts.toArray cur).toList.take ts.length=ts.map enc:=by
 apply List.ext_getElem?;intro j;by_cases hj:j < ts.length
 ·rw[List.getElem?_take_of_lt hj,Array.getElem?_toList]
  simp[putCells,hj,show j < cur.size by omega]
 ·rw[List.getElem?_take_eq_none (by omega),List.getElem?_eq_none (by simp;omega)]
theorem ownE{w:World}{base g cap n:Nat}{e:TypeId}{cur:Array Value}(enc:α→Value){ts:List α}(hbase:base≤g)(hb:w.heap[g]? =some (.cells cur e (0,0)))
 (h1:ts.length≤cap) (h2:cap≤maxLen) (h3:cur.size=cap*1):
 (putRow enc (Sort.ahead w n) g 0 ts.toArray).ownsRow base e 1 (.slice (some ⟨g,0,none⟩) ts.length cap) ts.length (ts.map enc):=
 ⟨by simp,.inr ⟨g,cap,_,rfl,hbase,ZT enc _ hb,h1,h2,by simp[putCells,h3],by rw[Nat.mul_one];exact ZQ enc cur ts (by omega)⟩⟩
end
theorem Y4:OneCell idV:=fun x=>rfl
theorem Lg(B:Nat)(v:Value)(xs:List Nat)(w:World)(hl:xs.length≤1000000)(ho:w.ownsRow B 37 1 v xs.length (xs.map idV)):
 Calls Tryz.prog 39 #[v] w fun e w'=>e= .returned (.tuple #[])∧w'.ownsRow B 37 1 v xs.length (xs.reverse.map idV)∧Fr (fun q=>v.ownBlock=some q) w w':=by
 rcases ho.2 with⟨h0,hn⟩|⟨g,cap,cur,hv,hg,hh,hc1,hc2,hc3,ht⟩
 ·subst h0
  have hx:xs=[]:=List.length_eq_zero_iff.1 hn;subst hx;refine(AnyE.slices_Reverse_empty Tryz.lRev none 0 w).mono ?_;rintro e w' ⟨rfl,rfl⟩;exact⟨rfl,ho,Fr.refl _ _⟩
 ·subst hv
  rw[Nat.mul_one] at ht;refine(AnyE.slices_Reverse Tryz.lRev idV Y4 g 0 cap xs w (ZB idV hh ht) (by omega)).mono ?_;rintro e w' ⟨rfl,n,rfl⟩;refine⟨rfl, ?_,(frE idV _).imp (fun q _ e=>by rw[e];rfl)⟩;have:=ownE (n:=n) idV (ts:=xs.reverse) hg hh (by simpa using hc1) hc2 hc3;rw[List.length_reverse] at this;exact this
end Go.Proofs.YtijhlanclfajiaaGreatDoor
namespace Go.Proofs.YtijhlanclfajiaaGreatDoor
open Go.RowKit
open Hg (Bend Dy FB Dv)
end Go.Proofs.YtijhlanclfajiaaGreatDoor
namespace Hg
theorem XU(x:Node)(len:Nat)(b:Bend){dm:Nat}(h:b.d % 5=dm):Dv x len b=
 if dm=0 then(if x.ref=0 then x else {x with ref:=b.id % (len+2)})
 else if dm=1 then(if x.type=0 then x else {x with type:=1+Fu b.n % 2})
 else if dm=2 then(if x.name=[] then x else {x with name:=b.name.take 30})
 else if dm=3 then(if x.kind=18 then {x with num:=((1+Fu b.n % 13:Nat):Int)} else x)
 else {x with kids:=x.kids.reverse}:=by subst h;rfl
end Hg
namespace Go.Proofs.YtijhlanclfajiaaGreatDoor
open Go.RowKit
open Hg (Bend Dy FB Dv)
theorem Vr(W:World)(o1 o2:Obj):Below W.heap.size W ((W.alloc o1).alloc o2)∧((W.alloc o1).alloc o2).heap[W.heap.size]? =some o1∧((W.alloc o1).alloc o2).heap[W.heap.size+1]? =some o2∧((W.alloc o1).alloc o2).heap.size=W.heap.size+2:=by
 have h:=AZ (W.alloc o1) o2;rw[show(W.alloc o1).heap.size=W.heap.size+1 by simp] at h;exact⟨((AP).alloc AA _).alloc (by simp) _,(heap_alloc_old _ _ (by simp)).trans (AZ W _),h,by simp⟩
theorem YT{l:List Hg.Row}{r:Hg.Row}(h:r∈l):r.node.kids.length≤Hg.BF l:=by
 induction l with
 |nil=>cases h
 |cons a l ih=>
   rw[Hg.DZ];rcases List.mem_cons.1 h with e|e
   ·subst e;omega
   ·have:=ih e;omega
def Hy(w:World)(v:Value)(bs:List Bend):Prop:=
 ∃a c,v= .slice a bs.length c∧∀(k:Nat) (b:Bend),bs[k]? =some b→∃q o,a=some ⟨q,o,none⟩∧q < w.heap.size∧
   w.cell? ⟨q,o+k*5,none⟩=some (.int .u8 (b.k:Int))∧w.cell? ⟨q,o+k*5+1,none⟩=some (.int .u8 (b.d:Int))∧w.cell? ⟨q,o+k*5+2,none⟩=some (.int .i64 b.n)∧
   w.cell? ⟨q,o+k*5+3,none⟩=some (strV b.name)∧w.cell? ⟨q,o+k*5+4,none⟩=some (.int .u64 (b.id:Int))
def Nr(b:Bend):Prop:=b.k≤255∧b.d≤255∧-9223372036854775808≤b.n∧b.n≤9223372036854775807∧b.name.length≤9223372036854775807∧b.id < 18446744073709551616
theorem P6(n:Int):IntKind.u64.wrap n=((Hg.Fu n:Nat):Int):=by
 unfold Hg.Fu
 simp[IntKind.wrap,IntKind.bits,IntKind.signed]
 omega
theorem Xq(n:Int):(1+(IntKind.u64.wrap n).tmod 2) % 256=((1+Hg.Fu n % 2:Nat):Int):=by
 rw[P6,show((Hg.Fu n:Nat):Int).tmod 2=((Hg.Fu n % 2:Nat):Int) from rfl];omega
theorem Y5(n:Int):wrap64 (1+wrap64 ((IntKind.u64.wrap n).tmod 13))=((1+Hg.Fu n % 13:Nat):Int):=by
 rw[P6,show((Hg.Fu n:Nat):Int).tmod 13=((Hg.Fu n % 13:Nat):Int) from rfl];unfold wrap64;omega
theorem XT(v bv:Value)(x:List Hg.Row)(bs:List Bend)(N:Nat)(w:World)(hx:Aw w w.heap.size v x)(hb:Hy w bv bs)(hbs:∀b∈bs,Nr b)(hok:Dy N x)(hN:N≤20000)(hbl:bs.length≤1000000000000000):
 Calls Tryz.prog 15 #[v,bv] w (F8 w (Hg.bent 0 bs x)):=by
 obtain⟨ab,cb,rfl,hbc⟩:=hb;obtain⟨ax,cx,rfl⟩:=hx.form;obtain⟨j0,hj,hj0,hj1,hj2⟩:=info_parts Gc;have HX:=zz hx;have HBC:=zz hbc;have HBS:=zz hbs;have HOK:=zz hok;generalize hR:Hg.bent 0 bs x=R;have HR:=zz hR;clear hx hbc hbs hok hR;go_enter Tryz.func15,Tryz.ntmps15;go_wp2
 go_loopw [0,11] (fun p i wr=>∃(k:Nat) (y:List Hg.Row) (a c:_),i= .int .i64 (k:Int)∧p= .slice a y.length c∧k≤bs.length∧Aw wr wr.heap.size (.slice a y.length c) y∧Dy N y∧Below w.heap.size w wr∧Hg.bent k (bs.drop k) y=R) (fun _ i wr=>bs.length-(intOf i).toNat)
 case atStart=>exact⟨0,x,ax,cx,rfl,rfl,Nat.zero_le _,HX.out,HOK.out,AP,HR.out⟩
 case round=>
  obtain⟨k,y,a,c,rfl,rfl,hk,hy,hyo,hbw,hg⟩:=hrel;have HY:=zz hy;have HYO:=zz hyo;have HBW:=zz hbw;have HG:=zz hg;have HYL:=zz hyo.len;have hyN:y.length≤20000:=by have:=hyo.len;omega
  clear hy hyo hg HX HOK HR;by_cases hlt:k < bs.length
  ·obtain⟨b,hb⟩:∃b,bs[k]? =some b:=⟨_,AX hlt⟩
   obtain⟨q,o,rfl,hql,r0,r1,r2,r3,r4⟩:=HBC.out k b hb;have hbo:=HBS.out b (List.mem_of_getElem? hb);have e0:=(hbw.cell (p:=⟨q,o+k*5,none⟩) hql).trans r0;have e1:=(hbw.cell (p:=⟨q,o+k*5+1,none⟩) hql).trans r1;have e2:=(hbw.cell (p:=⟨q,o+k*5+2,none⟩) hql).trans r2;have e3:=(hbw.cell (p:=⟨q,o+k*5+3,none⟩) hql).trans r3;have e4:=(hbw.cell (p:=⟨q,o+k*5+4,none⟩) hql).trans r4;have hstep:Hg.bent k (b::bs.drop (k+1)) y=R:=by
    have:=HG.out;rw[Au hlt,show bs[k]=b from(Af.1 hb).2] at this;exact this
   rw[Hg.bent] at hstep;obtain⟨bk,bd,bn,bname,bid⟩:=b;obtain⟨o1,o2,o3,o4,o5,o6⟩:=hbo;dsimp only at e0 e1 e2 e3 e4 o1 o2 o3 o4 o5 o6;clear r0 r1 r2 r3 r4 hb HG hbw;go_upto_region 4 with fail;have hn:=AZ wr (.cells #[.int .u8 (bk:Int),.int .u8 (bd:Int),.int .i64 bn,strV bname,.int .u64 (bid:Int)] 92);have hb1:Below wr.heap.size wr (wr.alloc (.cells #[.int .u8 (bk:Int),.int .u8 (bd:Int),.int .i64 bn,strV bname,.int .u64 (bid:Int)] 92)):=(AP).alloc AA _;have hz1:(wr.alloc (.cells #[.int .u8 (bk:Int),.int .u8 (bd:Int),.int .i64 bn,strV bname,.int .u64 (bid:Int)] 92)).heap.size=wr.heap.size+1:=by simp
   generalize World.alloc wr _=W1 at hn hb1 hz1⊢;have HN:=zz hn;have HB1:=zz hb1;have HZ1:=zz hz1;have HY1:=zz (HY.out.below hb1 AA|>.more hb1.size);clear hn hb1 hz1 e0 e1 e2 e3 e4;have hbw1:Below w.heap.size w W1:=HBW.out.trans (HB1.out.mono HBW.out.size);have HBW1:=zz hbw1;clear hbw1;by_cases hk6:6≤k
   ·rw[if_pos (.inl hk6)] at hstep
    have q1:decide ((6:Int)≤(k:Int))=true:=by simp;omega
    have q2:decide (6≤k)=true:=by simpa using hk6
    have HST:=zz hstep;clear hstep hk6;go_wp2;go_ret;rw[←HST.out];exact⟨_,rfl,HY1.out,HBW1.out⟩
   have q1:decide ((6:Int)≤(k:Int))=false:=by simp;omega
   have q2:decide (6≤k)=false:=by simpa using hk6
   by_cases hy0:y.length=0
   ·rw[if_pos (.inr hy0)] at hstep
    have q3:((y.length:Int)==0)=true:=by simp[hy0]
    have HST:=zz hstep;clear hstep hy0 hk6;go_wp2;go_ret;rw[←HST.out];exact⟨_,rfl,HY1.out,HBW1.out⟩
   have q3:((y.length:Int)==0)=false:=beq_eq_false_iff_ne.2 (by omega);rw[if_neg (by omega)] at hstep;have hm:bk % y.length < y.length:=Nat.mod_lt _ (by omega);have hrem:(bk:Int).tmod (y.length:Int)=((bk % y.length:Nat):Int):=rfl;have hstep2:Dy N (Hg.putRow y (Hg.rowAt y (bk % y.length)).id (Dv (Hg.rowAt y (bk % y.length)).node y.length ⟨bk,bd,bn,bname,bid⟩))∧Hg.bent (k+1) (bs.drop (k+1)) (Hg.putRow y (Hg.rowAt y (bk % y.length)).id (Dv (Hg.rowAt y (bk % y.length)).node y.length ⟨bk,bd,bn,bname,bid⟩))=R:=⟨HYO.out.FB ⟨bk,bd,bn,bname,bid⟩ hy0,hstep⟩;clear hstep;generalize bk % y.length=m at hm hrem hstep2;obtain⟨r,hr⟩:∃r,y[m]? =some r:=⟨_,AX hm⟩;obtain⟨b7,o7,ka,kc,rfl,hb7,hks,r0,r1,r2,r3,r4,r5,r6⟩:=HY1.out.at_ hr;have hrow:Hg.rowAt y m=r:=by simp[Hg.rowAt,hr]
   have hrid:r.id=m+1:=(HYO.out.ids m r hr).trans (Nat.add_comm 1 m);have hrk:=HYO.out.kind r (List.mem_of_getElem? hr);rw[hrow] at hstep2;have HST:=zz hstep2;have HKS:=zz hks;have HR:=zz (And.intro hr hrid);have bf:=fun i=>AJ W1 wr.heap.size i _ _ (0,0) HN.out;have b0:=bf 0;have b1:=bf 1;have b2:=bf 2;have b3:=bf 3;have b4:=bf 4;simp at b0 b1 b2 b3 b4;clear bf hstep2 hks hr hrow hrid;go_upto_region 7 with fail;have hw2:=Vr W1 (.cells #[.int .u64 (r.id:Int),.int .u8 (r.node.kind:Int),strV r.node.name,.int .i64 r.node.num,.int .u8 (r.node.type:Int),.int .u64 (r.node.ref:Int),.slice ka r.node.kids.length kc] 46) (.cells #[.int .u8 (r.node.kind:Int),strV r.node.name,.int .i64 r.node.num,.int .u8 (r.node.type:Int),.int .u64 (r.node.ref:Int),.slice ka r.node.kids.length kc] 44);generalize World.alloc (World.alloc W1 _) _=W2 at hw2⊢;obtain⟨hb2,n1,n2,hz2⟩:=hw2;have nf:=fun i=>AJ W2 (W1.heap.size+1) i _ _ (0,0) n2;have nd5:=nf 5;simp at nd5;have nd6:=Dw nd5 (.cells #[] 37);have hfz:W2.frozen? ⟨W1.heap.size+1,5,none⟩=false:=by simp[World.frozen?,n2]
   have HB2:=zz hb2;have HN1:=zz n1;have HN2:=zz n2;have HZ2:=zz hz2;have hkl:r.node.kids.length≤20000:=by
    have h1:=HYO.out.sum;have h2:r.node.kids.length≤Hg.BF y:=YT (List.mem_of_getElem? HR.out.1);omega
   have HK2:=zz ((HKS.out.below hb2 AA).more hb2.size);clear nf hb2 n1 n2 hz2 r0 r1 r2 r3 r4 r5 r6;have hw0:w.heap.size≤W2.heap.size:=by have:=HBW1.out.size;have:=HZ2.out;omega
   have hw2:W1.heap.size+2=W2.heap.size:=HZ2.out.symm;have HW2:=zz hw2;clear hw2
   go_wp2_with (at_builtin;refine Bb _ rfl (.tmp 34) (.tmp 36) _ rfl W2.heap.size 37 j0 _ 8 Tryz.underlying42 hj hj0 hj1 hj2 rfl _ _ _ rfl (Di _ _ _ ?_) W2.heap.size _ _ _ rfl (HK2.out.alloc ?_ _) ?_ (Ej _) ?_ ?_ ?_ ?_)
   ·omega
   ·omega
   ·simp
   ·unfold maxLen;omega
   ·omega
   ·simp
   intro v3 W3 own3 g3 at3
   try simp only[Nat.zero_add,List.nil_append] at own3
   obtain⟨a3,c3,hv3⟩:=(Sl.Ai own3).form;subst hv3;have hne3:some (W1.heap.size+1)≠some W2.heap.size:=fun e=>by injection e with e;have:=HZ2.out;omega
   have hn3:W3.heap[W1.heap.size+1]? =some (.cells #[.int .u8 (r.node.kind:Int),strV r.node.name,.int .i64 r.node.num,.int .u8 (r.node.type:Int),.int .u64 (r.node.ref:Int),.slice ka r.node.kids.length kc] 44 (0,0)):=
    (g3.block _ (by have:=HZ2.out;simp;omega) hne3).trans ((heap_alloc_old _ _ (by have:=HZ2.out;omega)).trans HN2.out)
   have hfz3:W3.frozen? ⟨W1.heap.size+1,5,none⟩=false:=by simp[World.frozen?,hn3]
   have hc3:=AJ W3 (W1.heap.size+1) 5 _ _ (0,0) hn3;simp at hc3;have HOW3:=zz own3;have HG3:=zz g3;have HN3:=zz hn3;have HAT3:=zz at3;clear own3 g3 at3 hn3 hne3 nd5 nd6 hfz;go_upto_region 8 with fail;have hn4:(W3.setCell ⟨W1.heap.size+1,5,none⟩ (.slice a3 r.node.kids.length c3)).heap[W1.heap.size+1]? =some (.cells #[.int .u8 (r.node.kind:Int),strV r.node.name,.int .i64 r.node.num,.int .u8 (r.node.type:Int),.int .u64 (r.node.ref:Int),.slice a3 r.node.kids.length c3] 44 (0,0)):=heap_setCell_same (i:=5) HN3.out (.slice a3 r.node.kids.length c3);have hb23:Below W2.heap.size W2 W3:=Gh (AP) AA HG3.out (fun j e=>by simp[Value.ownBlock] at e;omega);have hfr34:Fr (fun q=>q=W1.heap.size+1) W3 (W3.setCell ⟨W1.heap.size+1,5,none⟩ (.slice a3 r.node.kids.length c3)):=(Fr.refl (fun q=>q=W1.heap.size+1) W3).set (p:=⟨W1.heap.size+1,5,none⟩) (.inl rfl) _;have hb14:Below W1.heap.size W1 (W3.setCell ⟨W1.heap.size+1,5,none⟩ (.slice a3 r.node.kids.length c3)):=(HB2.out.trans (hb23.mono HB2.out.size)).setCell (p:=⟨W1.heap.size+1,5,none⟩) (by simp) _;have hrow4:=hfr34.at_ ((hb23.block W1.heap.size (by have:=HZ2.out;omega)).trans HN1.out) (by omega);have own4:=Aq HOW3.out hfr34 (fun q e=>by have:=HOW3.out.lt q e;have:=HZ2.out;omega);generalize World.setCell W3 _ _=W4 at hn4 hb14 hrow4 own4⊢;have hbd4:=(hb14.block wr.heap.size (by have:=HZ1.out;omega)).trans HN.out;have HN4:=zz hn4;have HB4:=zz hb14;have HROW4:=zz hrow4;have HOW4:=zz own4;have HBD4:=zz hbd4;have nf4:=fun i=>AJ W4 (W1.heap.size+1) i _ _ (0,0) hn4;have n0:=nf4 0;have n1:=nf4 1;have n2:=nf4 2;have n3:=nf4 3;have n4:=nf4 4;have n5:=nf4 5;simp at n0 n1 n2 n3 n4 n5;have bf4:=fun i=>AJ W4 wr.heap.size i _ _ (0,0) hbd4;have b0:=bf4 0;have b1:=bf4 1;have b2:=bf4 2;have b3:=bf4 3;have b4:=bf4 4;simp at b0 b1 b2 b3 b4;have hf1:W4.frozen? ⟨W1.heap.size+1,1,none⟩=false:=by simp[World.frozen?,hn4]
   have hf2:W4.frozen? ⟨W1.heap.size+1,2,none⟩=false:=by simp[World.frozen?,hn4]
   have hf3:W4.frozen? ⟨W1.heap.size+1,3,none⟩=false:=by simp[World.frozen?,hn4]
   have hf4:W4.frozen? ⟨W1.heap.size+1,4,none⟩=false:=by simp[World.frozen?,hn4]
   have hc4:=AJ W4 W1.heap.size 0 _ _ (0,0) hrow4;simp at hc4;obtain⟨dm,hdm⟩:∃dm,bd % 5=dm:=⟨_,rfl⟩;have hnd:=Hg.XU r.node y.length ⟨bk,bd,bn,bname,bid⟩ hdm;have hrem5:(bd:Int).tmod 5=((bd % 5:Nat):Int):=rfl;rw[hdm] at hrem5;have hdl:dm < 5:=by omega
   generalize Dv r.node y.length ⟨bk,bd,bn,bname,bid⟩=nd at hnd HST;clear hn4 hb23 hfr34 hb14 hrow4 own4 hbd4 nf4 bf4 hdm HG3 HN3 HOW3 HAT3 HN1 HN2 hc3;rcases(show dm=0∨dm=1∨dm=2∨dm=3∨dm=4 by omega) with rfl|rfl|rfl|rfl|rfl
   ·have hr5:(bd:Int).tmod 5=0:=hrem5
    simp only[if_true] at hnd;clear hrem5 hdl;by_cases h0:r.node.ref=0
    ·rw[if_pos h0] at hnd
     have q5:((r.node.ref:Int) !=0)=false:=by simp[h0]
     have HND:=zz hnd;clear hnd h0;go_wp2_with fail;obtain⟨W5,hW5⟩:∃W5,W4=W5:=⟨_,rfl⟩;have HF5:=zz (show Fr (fun q=>W1.heap.size+1≤q) W4 W5 from hW5 ▸ Fr.refl _ W4);have HS5:=zz (show Sl W5 W5.heap.size (.slice a3 r.node.kids.length c3) r.node.kids.length (r.node.kids.map idV) from hW5 ▸ Sl.Ai HOW4.out);rw[hW5];have hb5:Below W1.heap.size W1 W5:=HB4.out.trans ⟨HF5.out.os,HF5.out.tape,HF5.out.output,HF5.out.size,fun i hi=>HF5.out.block i (by have:=HB4.out.size;omega) (by omega)⟩;refine(EP _ y r.id r.node a3 c3 W5 ((HY1.out.below hb5 AA).more hb5.size) HS5.out (by omega)).mono ?_;rintro e w6 ⟨v6,rfl,hy6,hb6⟩;have hst:=HST.out;rw[HND.out] at hst;obtain⟨a6,c6,rfl⟩:=hy6.form;have HB6:=zz (HBW1.out.trans ((hb5.trans (hb6.mono hb5.size)).mono HBW1.out.size));have HST2:=zz hst;have HY6:=zz hy6;clear hy6 hb6 hb5 hst;go_wp2;go_roundw
     case rel=>exact⟨k+1,_,a6,c6,by go_num,rfl,by omega,HY6.out,HST2.out.1,HB6.out,HST2.out.2⟩
     case measure=>simp[intOf];omega
    ·rw[if_neg h0] at hnd
     have q5:((r.node.ref:Int) !=0)=true:=by simp[h0]
     have hc:(bid:Int) % ((y.length:Int)+2)=((bid % (y.length+2):Nat):Int):=by push_cast;rfl
     generalize bid % (y.length+2)=rf at hnd hc;have HND:=zz hnd;clear hnd h0;go_wp2_with fail;generalize hW5:World.setCell W4 _ _=W5;have HF5:=zz (show Fr (fun q=>W1.heap.size+1≤q) W4 W5 from by rw[←hW5];exact(Fr.refl (fun q=>W1.heap.size+1≤q) W4).set (.inl AA) _);have HS5:=zz (show Sl W5 W5.heap.size (.slice a3 r.node.kids.length c3) r.node.kids.length (r.node.kids.map idV) from by
      have h1:Fr (fun q=>q=W1.heap.size+1) W4 W5:=by rw[←hW5];exact(Fr.refl (fun q=>q=W1.heap.size+1) W4).set (.inl rfl) _
      exact Sl.Ai (Aq HOW4.out h1 (fun q e=>by have:=HOW4.out.lt q e;have:=HZ2.out;omega)))
     have hb5:Below W1.heap.size W1 W5:=HB4.out.trans ⟨HF5.out.os,HF5.out.tape,HF5.out.output,HF5.out.size,fun i hi=>HF5.out.block i (by have:=HB4.out.size;omega) (by omega)⟩;refine(EP _ y r.id {r.node with ref:=rf} a3 c3 W5 ((HY1.out.below hb5 AA).more hb5.size) HS5.out (by omega)).mono ?_;rintro e w6 ⟨v6,rfl,hy6,hb6⟩;have hst:=HST.out;rw[HND.out] at hst;obtain⟨a6,c6,rfl⟩:=hy6.form;have HB6:=zz (HBW1.out.trans ((hb5.trans (hb6.mono hb5.size)).mono HBW1.out.size));have HST2:=zz hst;have HY6:=zz hy6;clear hy6 hb6 hb5 hst;go_wp2;go_roundw
     case rel=>exact⟨k+1,_,a6,c6,by go_num,rfl,by omega,HY6.out,HST2.out.1,HB6.out,HST2.out.2⟩
     case measure=>simp[intOf];omega
   ·have hr5:(bd:Int).tmod 5=1:=hrem5
    simp only[if_true,if_false,Nat.one_ne_zero] at hnd;clear hrem5 hdl;by_cases h0:r.node.type=0
    ·rw[if_pos h0] at hnd
     have q5:((r.node.type:Int) !=0)=false:=by simp[h0]
     have HND:=zz hnd;clear hnd h0;go_wp2_with fail;obtain⟨W5,hW5⟩:∃W5,W4=W5:=⟨_,rfl⟩;have HF5:=zz (show Fr (fun q=>W1.heap.size+1≤q) W4 W5 from hW5 ▸ Fr.refl _ W4);have HS5:=zz (show Sl W5 W5.heap.size (.slice a3 r.node.kids.length c3) r.node.kids.length (r.node.kids.map idV) from hW5 ▸ Sl.Ai HOW4.out);rw[hW5];have hb5:Below W1.heap.size W1 W5:=HB4.out.trans ⟨HF5.out.os,HF5.out.tape,HF5.out.output,HF5.out.size,fun i hi=>HF5.out.block i (by have:=HB4.out.size;omega) (by omega)⟩;refine(EP _ y r.id r.node a3 c3 W5 ((HY1.out.below hb5 AA).more hb5.size) HS5.out (by omega)).mono ?_;rintro e w6 ⟨v6,rfl,hy6,hb6⟩;have hst:=HST.out;rw[HND.out] at hst;obtain⟨a6,c6,rfl⟩:=hy6.form;have HB6:=zz (HBW1.out.trans ((hb5.trans (hb6.mono hb5.size)).mono HBW1.out.size));have HST2:=zz hst;have HY6:=zz hy6;clear hy6 hb6 hb5 hst;go_wp2;go_roundw
     case rel=>exact⟨k+1,_,a6,c6,by go_num,rfl,by omega,HY6.out,HST2.out.1,HB6.out,HST2.out.2⟩
     case measure=>simp[intOf];omega
    ·rw[if_neg h0] at hnd
     have q5:((r.node.type:Int) !=0)=true:=by simp[h0]
     have hc:=Xq bn;generalize 1+Hg.Fu bn % 2=tn at hnd hc;have HND:=zz hnd;clear hnd h0;go_wp2_with fail;generalize hW5:World.setCell W4 _ _=W5;have HF5:=zz (show Fr (fun q=>W1.heap.size+1≤q) W4 W5 from by rw[←hW5];exact(Fr.refl (fun q=>W1.heap.size+1≤q) W4).set (.inl AA) _);have HS5:=zz (show Sl W5 W5.heap.size (.slice a3 r.node.kids.length c3) r.node.kids.length (r.node.kids.map idV) from by
      have h1:Fr (fun q=>q=W1.heap.size+1) W4 W5:=by rw[←hW5];exact(Fr.refl (fun q=>q=W1.heap.size+1) W4).set (.inl rfl) _
      exact Sl.Ai (Aq HOW4.out h1 (fun q e=>by have:=HOW4.out.lt q e;have:=HZ2.out;omega)))
     have hb5:Below W1.heap.size W1 W5:=HB4.out.trans ⟨HF5.out.os,HF5.out.tape,HF5.out.output,HF5.out.size,fun i hi=>HF5.out.block i (by have:=HB4.out.size;omega) (by omega)⟩;refine(EP _ y r.id {r.node with type:=tn} a3 c3 W5 ((HY1.out.below hb5 AA).more hb5.size) HS5.out (by omega)).mono ?_;rintro e w6 ⟨v6,rfl,hy6,hb6⟩;have hst:=HST.out;rw[HND.out] at hst;obtain⟨a6,c6,rfl⟩:=hy6.form;have HB6:=zz (HBW1.out.trans ((hb5.trans (hb6.mono hb5.size)).mono HBW1.out.size));have HST2:=zz hst;have HY6:=zz hy6;clear hy6 hb6 hb5 hst;go_wp2;go_roundw
     case rel=>exact⟨k+1,_,a6,c6,by go_num,rfl,by omega,HY6.out,HST2.out.1,HB6.out,HST2.out.2⟩
     case measure=>simp[intOf];omega
   ·have hr5:(bd:Int).tmod 5=2:=hrem5
    simp only[if_true,if_false,show¬(2=0) by decide,show¬(2=1) by decide] at hnd;clear hrem5 hdl;by_cases h0:r.node.name=[]
    ·rw[if_pos h0] at hnd
     have q5:(!List.isEmpty r.node.name)=false:=by simp[h0]
     have HND:=zz hnd;clear hnd h0;go_wp2_with fail;obtain⟨W5,hW5⟩:∃W5,W4=W5:=⟨_,rfl⟩;have HF5:=zz (show Fr (fun q=>W1.heap.size+1≤q) W4 W5 from hW5 ▸ Fr.refl _ W4);have HS5:=zz (show Sl W5 W5.heap.size (.slice a3 r.node.kids.length c3) r.node.kids.length (r.node.kids.map idV) from hW5 ▸ Sl.Ai HOW4.out);rw[hW5];have hb5:Below W1.heap.size W1 W5:=HB4.out.trans ⟨HF5.out.os,HF5.out.tape,HF5.out.output,HF5.out.size,fun i hi=>HF5.out.block i (by have:=HB4.out.size;omega) (by omega)⟩;refine(EP _ y r.id r.node a3 c3 W5 ((HY1.out.below hb5 AA).more hb5.size) HS5.out (by omega)).mono ?_;rintro e w6 ⟨v6,rfl,hy6,hb6⟩;have hst:=HST.out;rw[HND.out] at hst;obtain⟨a6,c6,rfl⟩:=hy6.form;have HB6:=zz (HBW1.out.trans ((hb5.trans (hb6.mono hb5.size)).mono HBW1.out.size));have HST2:=zz hst;have HY6:=zz hy6;clear hy6 hb6 hb5 hst;go_wp2;go_roundw
     case rel=>exact⟨k+1,_,a6,c6,by go_num,rfl,by omega,HY6.out,HST2.out.1,HB6.out,HST2.out.2⟩
     case measure=>simp[intOf];omega
    ·rw[if_neg h0] at hnd
     have q5:(!List.isEmpty r.node.name)=true:=by simp[h0]
     have HND:=zz hnd;clear hnd h0;go_wp2_with fail;refine(Ua bname 30 o5 (by decide) W4).mono ?_;rintro e w5 ⟨rfl,rfl⟩;go_wp2_with fail;generalize hW5:World.setCell W4 _ _=W5;have HF5:=zz (show Fr (fun q=>W1.heap.size+1≤q) W4 W5 from by rw[←hW5];exact(Fr.refl (fun q=>W1.heap.size+1≤q) W4).set (.inl AA) _);have HS5:=zz (show Sl W5 W5.heap.size (.slice a3 r.node.kids.length c3) r.node.kids.length (r.node.kids.map idV) from by
      have h1:Fr (fun q=>q=W1.heap.size+1) W4 W5:=by rw[←hW5];exact(Fr.refl (fun q=>q=W1.heap.size+1) W4).set (.inl rfl) _
      exact Sl.Ai (Aq HOW4.out h1 (fun q e=>by have:=HOW4.out.lt q e;have:=HZ2.out;omega)))
     have hb5:Below W1.heap.size W1 W5:=HB4.out.trans ⟨HF5.out.os,HF5.out.tape,HF5.out.output,HF5.out.size,fun i hi=>HF5.out.block i (by have:=HB4.out.size;omega) (by omega)⟩;refine(EP _ y r.id {r.node with name:=List.take 30 bname} a3 c3 W5 ((HY1.out.below hb5 AA).more hb5.size) HS5.out (by omega)).mono ?_;rintro e w6 ⟨v6,rfl,hy6,hb6⟩;have hst:=HST.out;rw[HND.out] at hst;obtain⟨a6,c6,rfl⟩:=hy6.form;have HB6:=zz (HBW1.out.trans ((hb5.trans (hb6.mono hb5.size)).mono HBW1.out.size));have HST2:=zz hst;have HY6:=zz hy6;clear hy6 hb6 hb5 hst;go_wp2;go_roundw
     case rel=>exact⟨k+1,_,a6,c6,by go_num,rfl,by omega,HY6.out,HST2.out.1,HB6.out,HST2.out.2⟩
     case measure=>simp[intOf];omega
   ·have hr5:(bd:Int).tmod 5=3:=hrem5
    simp only[if_true,if_false,show¬(3=0) by decide,show¬(3=1) by decide,show¬(3=2) by decide] at hnd;clear hrem5 hdl;by_cases h0:r.node.kind=18
    ·rw[if_pos h0] at hnd
     have q5:((r.node.kind:Int)==18)=true:=by simp[h0]
     have hc:=Y5 bn;generalize 1+Hg.Fu bn % 13=tn at hnd hc;have HND:=zz hnd;clear hnd h0;go_wp2_with fail;generalize hW5:World.setCell W4 _ _=W5;have HF5:=zz (show Fr (fun q=>W1.heap.size+1≤q) W4 W5 from by rw[←hW5];exact(Fr.refl (fun q=>W1.heap.size+1≤q) W4).set (.inl AA) _);have HS5:=zz (show Sl W5 W5.heap.size (.slice a3 r.node.kids.length c3) r.node.kids.length (r.node.kids.map idV) from by
      have h1:Fr (fun q=>q=W1.heap.size+1) W4 W5:=by rw[←hW5];exact(Fr.refl (fun q=>q=W1.heap.size+1) W4).set (.inl rfl) _
      exact Sl.Ai (Aq HOW4.out h1 (fun q e=>by have:=HOW4.out.lt q e;have:=HZ2.out;omega)))
     have hb5:Below W1.heap.size W1 W5:=HB4.out.trans ⟨HF5.out.os,HF5.out.tape,HF5.out.output,HF5.out.size,fun i hi=>HF5.out.block i (by have:=HB4.out.size;omega) (by omega)⟩;refine(EP _ y r.id {r.node with num:=((tn:Nat):Int)} a3 c3 W5 ((HY1.out.below hb5 AA).more hb5.size) HS5.out (by omega)).mono ?_;rintro e w6 ⟨v6,rfl,hy6,hb6⟩;have hst:=HST.out;rw[HND.out] at hst;obtain⟨a6,c6,rfl⟩:=hy6.form;have HB6:=zz (HBW1.out.trans ((hb5.trans (hb6.mono hb5.size)).mono HBW1.out.size));have HST2:=zz hst;have HY6:=zz hy6;clear hy6 hb6 hb5 hst;go_wp2;go_roundw
     case rel=>exact⟨k+1,_,a6,c6,by go_num,rfl,by omega,HY6.out,HST2.out.1,HB6.out,HST2.out.2⟩
     case measure=>simp[intOf];omega
    ·rw[if_neg h0] at hnd
     have q5:((r.node.kind:Int)==18)=false:=by simp;omega
     have HND:=zz hnd;clear hnd h0;go_wp2_with fail;obtain⟨W5,hW5⟩:∃W5,W4=W5:=⟨_,rfl⟩;have HF5:=zz (show Fr (fun q=>W1.heap.size+1≤q) W4 W5 from hW5 ▸ Fr.refl _ W4);have HS5:=zz (show Sl W5 W5.heap.size (.slice a3 r.node.kids.length c3) r.node.kids.length (r.node.kids.map idV) from hW5 ▸ Sl.Ai HOW4.out);rw[hW5];have hb5:Below W1.heap.size W1 W5:=HB4.out.trans ⟨HF5.out.os,HF5.out.tape,HF5.out.output,HF5.out.size,fun i hi=>HF5.out.block i (by have:=HB4.out.size;omega) (by omega)⟩;refine(EP _ y r.id r.node a3 c3 W5 ((HY1.out.below hb5 AA).more hb5.size) HS5.out (by omega)).mono ?_;rintro e w6 ⟨v6,rfl,hy6,hb6⟩;have hst:=HST.out;rw[HND.out] at hst;obtain⟨a6,c6,rfl⟩:=hy6.form;have HB6:=zz (HBW1.out.trans ((hb5.trans (hb6.mono hb5.size)).mono HBW1.out.size));have HST2:=zz hst;have HY6:=zz hy6;clear hy6 hb6 hb5 hst;go_wp2;go_roundw
     case rel=>exact⟨k+1,_,a6,c6,by go_num,rfl,by omega,HY6.out,HST2.out.1,HB6.out,HST2.out.2⟩
     case measure=>simp[intOf];omega
   ·have hr5:(bd:Int).tmod 5=4:=hrem5
    simp only[if_false,show¬(4=0) by decide,show¬(4=1) by decide,show¬(4=2) by decide,show¬(4=3) by decide] at hnd;clear hrem5 hdl;have HND:=zz hnd;clear hnd;go_wp2_with fail;refine(Lg W2.heap.size (.slice a3 r.node.kids.length c3) r.node.kids W4 (by omega) HOW4.out).mono ?_;rintro e W5 ⟨rfl,ho5,hf5⟩;have hob:=fun q e=>(HOW4.out.lt q e).1;have hn5:=hf5.at_ HN4.out (fun e=>by have:=hob _ e;have:=HZ2.out;omega);have hrow5:=hf5.at_ HROW4.out (fun e=>by have:=hob _ e;have:=HZ2.out;omega);have HF5:=zz (show Fr (fun q=>W1.heap.size+1≤q) W4 W5 from hf5.imp (fun q _ e=>by have:=hob q e;have:=HZ2.out;omega));have HS5:=zz (show Sl W5 W5.heap.size (.slice a3 r.node.kids.reverse.length c3) r.node.kids.reverse.length (r.node.kids.reverse.map idV) from by
     rw[List.length_reverse];exact Sl.Ai ho5)
    have nf5:=fun i=>AJ W5 (W1.heap.size+1) i _ _ (0,0) hn5;have m0:=nf5 0;have m1:=nf5 1;have m2:=nf5 2;have m3:=nf5 3;have m4:=nf5 4;have m5:=nf5 5;simp at m0 m1 m2 m3 m4 m5;have hc5:=AJ W5 W1.heap.size 0 _ _ (0,0) hrow5;simp at hc5;clear nf5 hn5 hrow5 hob ho5 hf5;go_wp2_with fail;rw[show r.node.kids.length=r.node.kids.reverse.length from List.length_reverse.symm];have hb5:Below W1.heap.size W1 W5:=HB4.out.trans ⟨HF5.out.os,HF5.out.tape,HF5.out.output,HF5.out.size,fun i hi=>HF5.out.block i (by have:=HB4.out.size;omega) (by omega)⟩;refine(EP _ y r.id {r.node with kids:=r.node.kids.reverse} a3 c3 W5 ((HY1.out.below hb5 AA).more hb5.size) HS5.out (by omega)).mono ?_;rintro e w6 ⟨v6,rfl,hy6,hb6⟩;have hst:=HST.out;rw[HND.out] at hst;obtain⟨a6,c6,rfl⟩:=hy6.form;have HB6:=zz (HBW1.out.trans ((hb5.trans (hb6.mono hb5.size)).mono HBW1.out.size));have HST2:=zz hst;have HY6:=zz hy6;clear hy6 hb6 hb5 hst;go_wp2;go_roundw
    case rel=>exact⟨k+1,_,a6,c6,by go_num,rfl,by omega,HY6.out,HST2.out.1,HB6.out,HST2.out.2⟩
    case measure=>simp[intOf];omega
  ·obtain rfl:k=bs.length:=by omega
   have hg:=HG.out;rw[List.drop_length,Hg.bent] at hg;have HGR:=zz hg;clear hg HG hbw;go_wp2;go_ret;rw[←HGR.out];exact⟨_,rfl,HY.out,HBW.out⟩
end Go.Proofs.YtijhlanclfajiaaGreatDoor
namespace Go.Proofs.YtijhlanclfajiaaGreatDoor
open Go.RowKit
open Hg (Bend Dy FI IM)
theorem Hy.below{w w':World}{v:Value}{bs:List Bend}(h:Hy w v bs)(hb:Below w.heap.size w w'):Hy w' v bs:=by
 obtain⟨a,c,rfl,h⟩:=h;refine⟨a,c,rfl,fun k b hk=> ?_⟩;obtain⟨q,o,ha,hq,h0,h1,h2,h3,h4⟩:=h k b hk;exact⟨q,o,ha,Ae hq hb.size,(hb.cell (p:=⟨q,_,none⟩) hq).trans h0,(hb.cell (p:=⟨q,_,none⟩) hq).trans h1,(hb.cell (p:=⟨q,_,none⟩) hq).trans h2,(hb.cell (p:=⟨q,_,none⟩) hq).trans h3,(hb.cell (p:=⟨q,_,none⟩) hq).trans h4⟩
theorem F8.from{w w1 w':World}{rows:List Hg.Row}{e:Ending}(h:F8 w1 rows e w')(hb:Below w.heap.size w w1):F8 w rows e w':=by
 obtain⟨v,he,hr,hb'⟩:=h;exact⟨v,he,hr,hb.trans (hb'.mono hb.size)⟩
theorem WU(w:World):Aw (w.alloc (.cells #[.int .u64 1,.int .u8 1,.string ⟨#[]⟩,.int .i64 0,.int .u8 0,.int .u64 0,.slice none 0 0] 46)) (w.heap.size+1) (.slice (some ⟨w.heap.size,0,none⟩) 1 1) [⟨1,⟨1,[],0,0,0,[]⟩⟩]:=by
 have h:=Sl.new w 46 1 #[.int .u64 1,.int .u8 1,.string ⟨#[]⟩,.int .i64 0,.int .u8 0,.int .u64 0,.slice none 0 0];refine⟨[.slice none 0 0],rfl,h,fun k r kv hr hv=> ?_⟩;cases k with
 |zero=>
   injection hr with hr;injection hv with hv;subst hr;subst hv;exact Sl.nil _ _
 |succ k=>cases hr
theorem Nu(s:List UInt8)(bv:Value)(bs:List Bend)(w:World)(hs:s.length≤1000000000000000)(hb:Hy w bv bs)(hbs:∀b∈bs,Nr b)(hbl:bs.length≤1000000000000000):
 Calls Tryz.prog 5 #[.string ⟨s.toArray⟩,bv] w (F8 w (IM s bs)):=by
 have T1:=zz (Ub s 900 hs (by decide) w);have T2:=zz (Rz (s.take 900) (by rw[List.length_take];omega) w);obtain⟨N,hN,hok⟩:=Hg.SS s;have TB:=fun v W (hbw:Below w.heap.size w W) (hx:Aw W W.heap.size v (FI s))=>zz (XT v bv (FI s) bs N W hx (hb.below hbw) hbs hok hN hbl);have HG:=zz (show FI s=if (Hg.CE (s.take 900)).2≠0 then[⟨1,⟨1,[],0,0,0,[]⟩⟩] else(Hg.CE (s.take 900)).1 from rfl);have hp:Hg.bent 0 bs (FI s)=IM s bs:=rfl;obtain⟨ab,cb,hform⟩:∃a c,bv= .slice a bs.length c:=by
  obtain⟨a,c,h,_⟩:=hb;exact⟨a,c,h⟩
 have HP:=zz hp;have HTB:=zz TB;clear hok hb hbs hp TB;generalize FI s=gx at HG HP HTB;subst hform;go_enter Tryz.func5,Tryz.ntmps5;go_wp2_with fail;refine T1.out.mono ?_;rintro e w1 ⟨rfl,rfl⟩;clear T1;go_wp2_with fail;refine T2.out.mono ?_;rintro e w2 ⟨⟨v,rfl,hv⟩,hb2⟩;have HV:=zz hv;have HB2:=zz hb2;clear T2 hv hb2;generalize Hg.CE (s.take 900)=pr at HG HV;obtain⟨rows,n⟩:=pr;have hg:=HG.out;obtain⟨av,cv,rfl⟩:=HV.out.form;by_cases h0:n=0
 ·subst h0
  rw[if_neg (by simp)] at hg;have TB2:=HTB.out _ _ HB2.out (by rw[hg];exact HV.out);clear hg;go_wp2_with fail;refine TB2.out.mono ?_;rintro e w4 ⟨v4,rfl,hr4,hb4⟩;obtain⟨a4,c4,rfl⟩:=hr4.form;have HF:=zz (show F8 w (IM s bs) (.returned (.slice a4 (Hg.bent 0 bs gx).length c4)) w4 from⟨_,rfl,HP.out ▸ hr4,HB2.out.trans (hb4.mono HB2.out.size)⟩);clear hr4 hb4;go_wp2;go_ret;exact HF.out
 ·rw[if_pos h0] at hg
  have q:((n:Int) !=0)=true:=by simp[h0]
  clear h0;go_wp2_with fail;have h1:=WU w2;have hb3:Below w2.heap.size w2 (w2.alloc (.cells #[.int .u64 1,.int .u8 1,.string ⟨#[]⟩,.int .i64 0,.int .u8 0,.int .u64 0,.slice none 0 0] 46)):=(AP).alloc AA _;have hz3:(w2.alloc (.cells #[.int .u64 1,.int .u8 1,.string ⟨#[]⟩,.int .i64 0,.int .u8 0,.int .u64 0,.slice none 0 0] 46)).heap.size=w2.heap.size+1:=by simp
  generalize World.alloc w2 _=W3 at h1 hb3 hz3⊢;have hbw:=HB2.out.trans (hb3.mono HB2.out.size);refine(HTB.out _ W3 hbw (by rw[hg,hz3];exact h1)).out.mono ?_;rintro e w4 ⟨v4,rfl,hr4,hb4⟩;obtain⟨a4,c4,rfl⟩:=hr4.form;have HF:=zz (show F8 w (IM s bs) (.returned (.slice a4 (Hg.bent 0 bs gx).length c4)) w4 from⟨_,rfl,HP.out ▸ hr4,hbw.trans (hb4.mono hbw.size)⟩);clear hr4 hb4 hg;go_wp2;go_ret;exact HF.out
end Go.Proofs.YtijhlanclfajiaaGreatDoor
