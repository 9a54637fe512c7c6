/-
  A part of the proof.
-/
import Derived.Test.YtijhlanclfajiaaGreatDoorKiAI
import Derived.Test.YtijhlanclfajiaaGreatDoorKiAG
set_option linter.all false
set_option maxHeartbeats 32000000
set_option maxRecDepth 100000
namespace Go.Proofs.YtijhlanclfajiaaGreatDoor
open Go.RowKit
theorem Gc:(Tryz.prog.info? 37).map (fun i=>(i.zero,i.size,i.bytes))=some (some (.int .u64 0),1,8):=by kernel_rfl
def Xm(w:World)(ids:List Nat)(e:Ending)(w':World):Prop:=
 ∃ka kc,e= .returned (.slice ka ids.length kc)∧Sl w' w'.heap.size (.slice ka ids.length kc) ids.length (ids.map idV)∧Below w.heap.size w w'∧∀q,(Value.slice ka ids.length kc).ownBlock=some q→w.heap.size≤q∧q < w'.heap.size
theorem Cf{w:World}{B:Nat}{v:Value}{n:Nat}{xs:List Value}(h:Sl w B v n xs){p:Addr}(hp:v.ownBlock≠some p.block)(u:Value):Sl (w.setCell p u) B v n xs:=by
 obtain⟨a,c,hv,hc⟩:=h;refine⟨a,c,hv,fun hn=> ?_⟩;obtain⟨b,o,ha,hb,hx⟩:=hc hn;refine⟨b,o,ha,hb,fun j hj=>(World.cell?_of_block (Below.heap_setCell w p u b fun e=>hp ?_)).trans (hx j hj)⟩;rw[hv,ha]
 simp[Value.ownBlock,e]
theorem GJ{w w':World}(h:w.grownBy w' none):Below w.heap.size w w':=⟨h.os,h.tape,h.output,h.size,fun b hb=>h.block b hb (by simp)⟩
theorem VT(B:Nat)(v:Value)(ids:List Nat)(w:World)(hB:B≤w.heap.size)(hs:Sl w B v ids.length (ids.map idV))(hl:ids.length≤1000000):
 Calls Tryz.prog 96 #[v] w (Xm w ids):=by
 obtain⟨j0,hj,hj0,hj1,hj2⟩:=info_parts Gc;obtain⟨a,c,rfl⟩:=hs.form;have HS:=zz hs;clear hs;cases a with
 |none=>
   have h0:ids=[]:=by
    obtain⟨a',c',hv,hc⟩:=HS.out;injection hv with h1 h2 h3;cases ids with
    |nil=>rfl
    |cons x xs=>obtain⟨b,o,ha,_⟩:=hc (by simp);rw[←h1] at ha;cases ha
   subst h0;have hnil:=Go.Lib.run_eql_slice_nil (P:=Tryz.prog) w 42 37 none 0 c 0 0 Tryz.underlying42;go_enter Tryz.func96,Tryz.ntmps96;go_wp2_with fail;go_ret;exact⟨none,0,rfl,Sl.nil _ _,AP,fun q hq=>by cases hq⟩
 |some a=>
   have hnil:=Go.Lib.run_eql_slice_nil (P:=Tryz.prog) w 42 37 (some a) ids.length c 0 0 Tryz.underlying42;go_enter Tryz.func96,Tryz.ntmps96
   go_wp2_with (at_builtin;refine Bb _ rfl (.tmp 5) (.tmp 6) _ rfl w.heap.size 37 j0 _ 8 Tryz.underlying42 hj hj0 hj1 hj2 rfl _ _ _ rfl (Di _ _ _ ?_) B _ _ _ rfl (HS.out.alloc ?_ _) ?_ (Ej _) ?_ ?_ ?_ ?_)
   ·omega
   ·omega
   ·simp
   ·unfold maxLen;omega
   ·omega
   ·simp
   intro v3 W3 own3 g3 at3
   try simp only[Nat.zero_add,List.nil_append] at own3
   have hb3:Below w.heap.size w W3:=((Below.refl w.heap.size w).alloc AA _).grown g3 (by simp) (fun k hk=>by simp[Value.ownBlock] at hk;omega);have hs3:Sl W3 W3.heap.size v3 ids.length (ids.map idV):=Sl.Ai own3;have hq3:∀q,v3.ownBlock=some q→w.heap.size≤q∧q < W3.heap.size:=fun q hq=>own3.lt q hq;obtain⟨a3,c3,rfl⟩:=hs3.form;have HQ3:=zz hq3;have HS3:=zz hs3;clear hs3 hq3 own3 at3 g3;go_wp2;go_ret;exact⟨a3,c3,rfl,HS3.out,hb3,HQ3.out⟩
def Xd(w:World)(n:Hg.Node)(e:Ending)(w':World):Prop:=
 ∃ka kc,e= .returned (ndV n ka kc)∧Sl w' w'.heap.size (.slice ka n.kids.length kc) n.kids.length (n.kids.map idV)∧Below w.heap.size w w'∧∀q,(Value.slice ka n.kids.length kc).ownBlock=some q→w.heap.size+2≤q∧q < w'.heap.size
theorem Gr{w w1:World}{c1 c2:Array Value}{t1 t2:TypeId}(hb:Below ((w.alloc (.cells c1 t1)).alloc (.cells c2 t2)).heap.size ((w.alloc (.cells c1 t1)).alloc (.cells c2 t2)) w1):
 w1.heap[w.heap.size]? =some (.cells c1 t1 (0,0))∧w1.heap[w.heap.size+1]? =some (.cells c2 t2 (0,0))∧w.heap.size+1 < w1.heap.size∧Below w.heap.size w w1:=by
 have h2:((w.alloc (.cells c1 t1)).alloc (.cells c2 t2)).heap[w.heap.size+1]? =some (.cells c2 t2 (0,0)):=by
  have:=AZ (w.alloc (.cells c1 t1)) (.cells c2 t2);simpa using this
 have h1:((w.alloc (.cells c1 t1)).alloc (.cells c2 t2)).heap[w.heap.size]? =some (.cells c1 t1 (0,0)):=by
  have:=AZ w (.cells c1 t1);rw[heap_alloc_old]
  ·exact this
  ·simp
 refine⟨(hb.block _ (by simp;omega)).trans h1,(hb.block _ (by simp)).trans h2, ?_, ?_⟩
 ·have:=hb.size;simp at this;omega
 ·exact(((Below.refl w.heap.size w).alloc AA _).alloc (by simp) _).trans (hb.mono (by simp;omega))
theorem X5{w1:World}{B g g' j:Nat}{v:Value}{n:Nat}{xs:List Value}(h:Sl w1 B v n xs)(hg:∀q,v.ownBlock=some q→g' < q∧g < q)(u u0 u1 u2 u3 u4 u5:Value):
 Sl (((((((w1.setCell ⟨g',j,none⟩ u).setCell ⟨g,0,none⟩ u0).setCell ⟨g,1,none⟩ u1).setCell ⟨g,2,none⟩ u2).setCell ⟨g,3,none⟩ u3).setCell ⟨g,4,none⟩ u4).setCell ⟨g,5,none⟩ u5) B v n xs:=by
 have hne:v.ownBlock≠some g:=fun e=>by have:=hg g e;omega
 exact Cf (p:=⟨g,5,none⟩) (Cf (p:=⟨g,4,none⟩) (Cf (p:=⟨g,3,none⟩) (Cf (p:=⟨g,2,none⟩) (Cf (p:=⟨g,1,none⟩) (Cf (p:=⟨g,0,none⟩) (Cf (p:=⟨g',j,none⟩) h (fun e=>by have:=hg g' e;omega) _) hne _) hne _) hne _) hne _) hne _) hne _
theorem N8(B:Nat)(n:Hg.Node)(ka:Option Addr)(kc:Nat)(w:World)(hB:B≤w.heap.size)(hs:Sl w B (.slice ka n.kids.length kc) n.kids.length (n.kids.map idV))(hl:n.kids.length≤1000000):
 Calls Tryz.prog 41 #[ndV n ka kc] w (Xd w n):=by
 have HS:=zz hs;clear hs;go_enter Tryz.func41,Tryz.ntmps41;go_wp2_with fail;refine(VT B _ n.kids _ (by simp;omega) ((HS.out.alloc hB _).alloc (by simp;omega) _) hl).mono ?_;rintro e w1 ⟨ka1,kc1,rfl,hs1,hb1,hq1⟩;obtain⟨hh1,hh2,hsz,hbb⟩:=Gr hb1;have HS1:=zz hs1;have HQ1:=zz (show∀q,(Value.slice ka1 n.kids.length kc1).ownBlock=some q→w.heap.size+2≤q∧q < w1.heap.size from fun q hq=>by have:=hq1 q hq;simp at this;omega);have c1:=fun i=>AJ w1 w.heap.size i _ _ (0,0) hh1;have k0:=c1 0;have k1:=c1 1;have k2:=c1 2;have k3:=c1 3;have k4:=c1 4;have k5:=c1 5;simp at k0 k1 k2 k3 k4 k5;have c2:=fun i=>AJ w1 (w.heap.size+1) i _ _ (0,0) hh2;have z0:=c2 0;have z1:=c2 1;have z2:=c2 2;have z3:=c2 3;have z4:=c2 4;have z5:=c2 5;simp at z0 z1 z2 z3 z4 z5;have f1:∀i,w1.frozen? ⟨w.heap.size,i,none⟩=false:=fun i=>by simp[World.frozen?,hh1]
 have f2:∀i,w1.frozen? ⟨w.heap.size+1,i,none⟩=false:=fun i=>by simp[World.frozen?,hh2]
 clear hs1 hb1 hh1 hh2 c1 c2 hq1;go_wp2;exact bodyPost_ret (v:=ndV n ka1 kc1) (by simp[results,Tryz.results41,go_sem,k0,k1,k2,k3,k4,k5,z0,z1,z2,z3,z4,z5,f1,f2]) rfl
  ⟨ka1,kc1,rfl,(X5 HS1.out (fun q hq=>by have:=HQ1.out q hq;omega) _ _ _ _ _ _ _).more (by simp),CO (hbb.setCell (p:=⟨w.heap.size,5,none⟩) AA _) (by omega) _ _ _ _ _ _,fun q hq=>⟨(HQ1.out q hq).1,by simpa using(HQ1.out q hq).2⟩⟩
end Go.Proofs.YtijhlanclfajiaaGreatDoor
