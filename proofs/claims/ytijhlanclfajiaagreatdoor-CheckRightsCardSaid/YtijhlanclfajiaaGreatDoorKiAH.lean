/-
  A part of the proof.
-/
import Derived.Test.YtijhlanclfajiaaGreatDoorKiAF
import Derived.RangeFuncBox
set_option linter.all false
namespace Go.Proofs.YtijhlanclfajiaaGreatDoor
open Go.RowKit
theorem FY:∀(rs:List Hg.Row) (ks:List Value) (r:Hg.Row) (k:Value),ks.length=rs.length→Aa (rs++[r]) (ks++[k])=Aa rs ks++Ap r k
 |[],[],r,k,_=>by simp[Aa]
 |r0::rs,k0::ks,r,k,h=>by
   have:=FY rs ks r k (by simpa using h)
   simp[Aa,this]
theorem KQ:∀(rs:List Hg.Row) (ks:List Value) (r:Hg.Row) (k:Value),ks.length=rs.length→Bc (rs++[r]) (ks++[k])=Bc rs ks++[⟨k,37,1,r.node.kids.length,r.node.kids.map idV⟩]
 |[],[],r,k,_=>by simp[Bc]
 |r0::rs,k0::ks,r,k,h=>by
   have:=KQ rs ks r k (by simpa using h)
   simp[Bc,this]
theorem IK:∀(rs:List Hg.Row) (ks:List Value) (k j:Nat) (f:Hg.Row→Hg.Row) (u:Value),ks.length=rs.length→k < rs.length→j < 7→
 (∀r kv,Ap (f r) kv=(Ap r kv).set j u)→Aa (rs.modify k f) ks=(Aa rs ks).set (k*7+j) u
 |r0::rs,k0::ks,0,j,f,u,h,hk,hj,hf=>by
   simp only[List.modify_zero_cons,Aa,hf];rw[List.set_append_left _ _ (by simp[Ap];omega)];simp
 |r0::rs,k0::ks,k+1,j,f,u,h,hk,hj,hf=>by
   have:=IK rs ks k j f u (by simpa using h) (by simpa using hk) hj hf;simp only[List.modify_succ_cons,Aa,this];rw[List.set_append_right _ _ (by simp[Ap];omega)]
   congr 2
   simp[Ap];omega
 |[],_,k,j,f,u,h,hk,hj,hf=>by simp at hk
theorem KP:∀(rs:List Hg.Row) (ks:List Value) (k:Nat) (f:Hg.Row→Hg.Row),(∀r,(f r).node.kids=r.node.kids)→Bc (rs.modify k f) ks=Bc rs ks
 |[],_,k,f,hf=>by cases k <;>rfl
 |r0::rs,[],0,f,hf=>rfl
 |r0::rs,[],k+1,f,hf=>rfl
 |r0::rs,k0::ks,0,f,hf=>by simp[Bc,hf]
 |r0::rs,k0::ks,k+1,f,hf=>by simp[Bc,KP rs ks k f hf]
theorem GH:∀(rs:List Hg.Row) (ks:List Value) (k:Nat) (r:Hg.Row) (kv:Value),ks.length=rs.length→rs[k]? =some r→ks[k]? =some kv→
 ∃l1 l2,Bc rs ks=l1++⟨kv,37,1,r.node.kids.length,r.node.kids.map idV⟩::l2∧
   ∀(f:Hg.Row→Hg.Row) (v':Value),Bc (rs.modify k f) (ks.set k v')=l1++⟨v',37,1,(f r).node.kids.length,(f r).node.kids.map idV⟩::l2
 |r0::rs,k0::ks,0,r,kv,h,hr,hk=>by
   simp only[List.getElem?_cons_zero,Option.some.injEq] at hr hk;subst hr;subst hk;exact⟨[],Bc rs ks,rfl,fun f v'=>rfl⟩
 |r0::rs,k0::ks,k+1,r,kv,h,hr,hk=>by
   obtain⟨l1,l2,h1,h2⟩:=GH rs ks k r kv (by simpa using h) (by simpa using hr) (by simpa using hk);exact⟨⟨k0,37,1,r0.node.kids.length,r0.node.kids.map idV⟩::l1,l2,by simp[Bc,h1],fun f v'=>by simp[Bc,h2]⟩
 |[],_,k,r,kv,h,hr,hk=>by simp at hr
 |_::_,[],k,r,kv,h,hr,hk=>by simp at hk
theorem JN:∀(rs:List Hg.Row) (ks:List Value) (k:Nat) (f:Hg.Row→Hg.Row) (v':Value),ks.length=rs.length→k < rs.length→
 (∀r kv,Ap (f r) kv=Ap r kv)→Aa (rs.modify k f) (ks.set k v')=(Aa rs ks).set (k*7+6) v'
 |r0::rs,k0::ks,0,f,v',h,hk,hf=>by
   simp only[List.modify_zero_cons,List.set_cons_zero,Aa,hf];rw[List.set_append_left _ _ (by simp[Ap])];rfl
 |r0::rs,k0::ks,k+1,f,v',h,hk,hf=>by
   have:=JN rs ks k f v' (by simpa using h) (by simpa using hk) hf;simp only[List.modify_succ_cons,List.set_cons_succ,Aa,this];rw[List.set_append_right _ _ (by simp[Ap];omega)]
   congr 2
   simp[Ap];omega
 |[],_,k,f,v',h,hk,hf=>by simp at hk
theorem RdAt.forRow{w:World}{rb:Nat}{s:Hg.Rd}(h:RdAt w rb s):
 ∃a c xs,w.cell? ⟨rb,4,none⟩=some (.slice a s.rows.length c)∧w.ownsRow (rb+1) 46 7 (.slice a s.rows.length c) s.rows.length xs∧
   ∀(w0 w1:World) (v':Value) (r:Hg.Row),Below w.heap.size w w0→r.node.kids=[]→w1.ownsRow (rb+1) 46 7 v' (s.rows.length+1) (xs++Ap r (.slice none 0 0))→
     w0.grownBy w1 (Value.ownBlock (.slice a s.rows.length c))→(v'.ownBlock=Value.ownBlock (.slice a s.rows.length c)∨v'.ownBlock=some w0.heap.size)→
     RdAt (w1.setCell ⟨rb,4,none⟩ v') rb {s with rows:=s.rows++[r]}∧Below rb w (w1.setCell ⟨rb,4,none⟩ v'):=by
 have hlt:=h.lt;obtain⟨vL,vR,vM,vF,vI,vC,vW,vU,vS,ks,h1,h2,h3,h4⟩:=h;have hR:w.ownsRow (rb+1) 46 7 vR s.rows.length (Aa s.rows ks):=h4.1 ⟨vR,46,7,s.rows.length,Aa s.rows ks⟩ (by simp[BU]);obtain⟨a,c,rfl⟩:=(Sl.Ai hR).form;refine⟨a,c,Aa s.rows ks,AJ w rb 4 _ _ (0,0) h1,hR,fun w0 w1 v' r hb hk ho hg hat=> ?_⟩;have hbg:∀g,Value.ownBlock (.slice a s.rows.length c)=some g→rb+1≤g:=fun g hg'=>(hR.lt g hg').1;have hrow:∀b,b≤rb→w1.heap[b]? =w.heap[b]? :=fun b hbl=>
  (hg.block b (by have:=hb.size;omega) (fun e=>by have:=hbg b e.symm;omega)).trans (hb.block b (by omega))
 have h4':=h4.below hb AA;have h5:=BQ.turn (l1:=[]) (o:=⟨.slice a s.rows.length c,46,7,s.rows.length,Aa s.rows ks⟩)
  (o':=⟨v',46,7,s.rows.length+1,Aa s.rows ks++Ap r (.slice none 0 0)⟩) h4' ho hg (fun g hg'=>by
   rcases hat with e|e
   ·left;rw[←e];exact hg'
   ·right;rw[show v'.ownBlock=some g from hg'] at e;injection e with e;omega)
 have h6:=(h5.WI 37 1).setCell (p:=⟨rb,4,none⟩) (Nat.lt_succ_self _) v';refine⟨⟨vL,v',vM,vF,vI,vC,vW,vU,vS,ks++[.slice none 0 0], ?_, ?_,by simp[h3], ?_⟩, ?_⟩
 ·exact heap_setCell_same ((hrow rb AA).trans h1) v'
 ·refine Sl.setCell (p:=⟨rb,4,none⟩) (h2.keep fun p hp=>World.cell?_of_block (hrow p.block (by omega))) AA _
 ·have e1:=FY s.rows ks r (.slice none 0 0) h3
  have e2:=KQ s.rows ks r (.slice none 0 0) h3;simp only[BU,List.length_append,List.length_cons,List.length_nil,e1,e2,hk,List.map_nil];simpa[Own.nil] using h6
 ·refine Below.setCell (B:=rb) (p:=⟨rb,4,none⟩) ⟨hg.os.trans hb.os,hg.tape.trans hb.tape,hg.output.trans hb.output,AO hb.size hg.size,fun k hk=>hrow k (by omega)⟩ AA _
theorem RdAt.forKid{w:World}{rb:Nat}{s:Hg.Rd}(h:RdAt w rb s){k:Nat}{r:Hg.Row}(hr:s.rows[k]? =some r):
 ∃g c ka kc,w.cell? ⟨rb,4,none⟩=some (.slice (some ⟨g,0,none⟩) s.rows.length c)∧rb < g∧g < w.heap.size∧w.cell? ⟨g,k*7+6,none⟩=some (.slice ka r.node.kids.length kc)∧w.frozen? ⟨g,k*7+6,none⟩=false∧
   Value.ownBlock (.slice ka r.node.kids.length kc)≠some g∧Value.ownBlock (.slice ka r.node.kids.length kc)≠some rb∧
   w.ownsRow (rb+1) 37 1 (.slice ka r.node.kids.length kc) r.node.kids.length (r.node.kids.map idV)∧
   ∀(w0 w1:World) (v':Value) (id:Nat),Below w.heap.size w w0→w1.ownsRow (rb+1) 37 1 v' (r.node.kids.length+1) (r.node.kids.map idV++[idV id])→
     w0.grownBy w1 (Value.ownBlock (.slice ka r.node.kids.length kc))→(v'.ownBlock=Value.ownBlock (.slice ka r.node.kids.length kc)∨v'.ownBlock=some w0.heap.size)→
     RdAt (w1.setCell ⟨g,k*7+6,none⟩ v') rb {s with rows:=Hg.Rd.Ef s.rows k id}∧Below rb w (w1.setCell ⟨g,k*7+6,none⟩ v')∧
      w1.cell? ⟨rb,4,none⟩=some (.slice (some ⟨g,0,none⟩) s.rows.length c)∧(∃u,w1.cell? ⟨g,k*7+6,none⟩=some u)∧w1.frozen? ⟨g,k*7+6,none⟩=false:=by
 have hlt:=h.lt;obtain⟨vL,vR,vM,vF,vI,vC,vW,vU,vS,ks,h1,h2,h3,h4⟩:=h;have hk:k < s.rows.length:=(Af.1 hr).1;have hkv:ks[k]? =some (ks[k]'(by omega)):=AX (by omega);have hR:w.ownsRow (rb+1) 46 7 vR s.rows.length (Aa s.rows ks):=h4.1 ⟨vR,46,7,s.rows.length,Aa s.rows ks⟩ (by simp[BU]);obtain⟨l1,l2,hsp,hspf⟩:=GH s.rows ks k r _ h3 hr hkv;have hK:w.ownsRow (rb+1) 37 1 (ks[k]'(by omega)) r.node.kids.length (r.node.kids.map idV):=h4.1 ⟨ks[k]'(by omega),37,1,r.node.kids.length,r.node.kids.map idV⟩ (by simp[BU,hsp]);obtain⟨g,c,rfl⟩:=ownsRow_succ (k:=s.rows.length-1) (by rw[show s.rows.length-1+1=s.rows.length by omega];exact hR);rw[show s.rows.length-1+1=s.rows.length by omega] at*;obtain⟨ka,kc,hkf⟩:=(Sl.Ai hK).form;have hgl:=hR.lt g rfl;have hcell:w.cell? ⟨g,k*7+6,none⟩=some (ks[k]'(by omega)):=by
  have e:=Eh s.rows ks k 6 r _ hr hkv (by omega);have e2:=World.ownsRow.cellAt hR (k*7+6) (by omega);rw[e2,e];rfl
 have hdist:Value.ownBlock (ks[k]'(by omega))≠some g:=by
  have hp:=h4.2;simp only[BU,hsp,List.cons_append,List.nil_append,List.pairwise_cons] at hp;exact hp.1 ⟨ks[k]'(by omega),37,1,r.node.kids.length,r.node.kids.map idV⟩ (by simp) g rfl
 have hdist2:Value.ownBlock (ks[k]'(by omega))≠some rb:=fun e=>by have:=(hK.lt rb e).1;omega
 refine⟨g,c,ka,kc,AJ w rb 4 _ _ (0,0) h1,by omega,hgl.2,by rw[hcell,hkf],hR.frozenAt _,by rw[←hkf];exact hdist,by rw[←hkf];exact hdist2,by rw[←hkf];exact hK,fun w0 w1 v' id hb ho hg hat=> ?_⟩;rw[←hkf] at hg hat;have hbg:∀q,Value.ownBlock (ks[k]'(by omega))=some q→rb+1≤q:=fun q hq=>(hK.lt q hq).1;have hrow:∀b,b≤rb→w1.heap[b]? =w.heap[b]? :=fun b hbl=>
  (hg.block b (by have:=hb.size;omega) (fun e=>by have:=hbg b e.symm;omega)).trans (hb.block b (by omega))
 have hgg:w1.heap[g]? =w.heap[g]? :=(hg.block g (by have:=hb.size;omega) (fun e=>hdist e.symm)).trans (hb.block g hgl.2);have hc1:w1.cell? ⟨g,k*7+6,none⟩=some (ks[k]'(by omega)):=(World.cell?_of_block hgg).trans hcell;have hf1:w1.frozen? ⟨g,k*7+6,none⟩=false:=(World.frozen?_of_block hgg).trans (hR.frozenAt _);have hr4:w1.cell? ⟨rb,4,none⟩=some (.slice (some ⟨g,0,none⟩) s.rows.length c):=(World.cell?_of_block (hrow rb AA)).trans (AJ w rb 4 _ _ (0,0) h1);have h4':=h4.below hb AA;have hsplit:BU s (.slice (some ⟨g,0,none⟩) s.rows.length c) vM vF vI vC vW vU vS ks=(BU {s with rows:=s.rows} (.slice (some ⟨g,0,none⟩) s.rows.length c) vM vF vI vC vW vU vS ks).take 8++l1++⟨ks[k]'(by omega),37,1,r.node.kids.length,r.node.kids.map idV⟩::l2:=by
  simp[BU,hsp]
 rw[hsplit] at h4';have h5:=BQ.turn (o':=⟨v',37,1,r.node.kids.length+1,r.node.kids.map idV++[idV id]⟩) h4' ho hg (fun q hq=>by
  rcases hat with e|e
  ·left;rw[←e];exact hq
  ·right;rw[show v'.ownBlock=some q from hq] at e;injection e with e;omega)
 simp only[BU,List.cons_append,List.nil_append,List.take_succ_cons,List.take_zero] at h5;have hR1:w1.ownsRow (rb+1) 46 7 (.slice (some ⟨g,0,none⟩) s.rows.length c) s.rows.length (Aa s.rows ks):=h5.1 ⟨.slice (some ⟨g,0,none⟩) s.rows.length c,46,7,s.rows.length,Aa s.rows ks⟩ (by simp);obtain⟨hst1,hst2⟩:=hR1.stored (k*7+6) v';have h6:=BQ.turn (l1:=[]) (o':=⟨.slice (some ⟨g,0,none⟩) s.rows.length c,46,7,s.rows.length,(Aa s.rows ks).set (k*7+6) v'⟩) h5 hst1 hst2 (fun q hq=> .inl hq);refine⟨⟨vL,.slice (some ⟨g,0,none⟩) s.rows.length c,vM,vF,vI,vC,vW,vU,vS,ks.set k v', ?_, ?_,by simp[h3,Hg.Rd.Ef], ?_⟩, ?_,hr4,⟨_,hc1⟩,hf1⟩
 ·rw[Below.heap_setCell _ _ _ _ (show rb≠g by omega)]
  exact(hrow rb AA).trans h1
 ·refine Sl.setCell (p:=⟨g,k*7+6,none⟩) (h2.keep fun p hp=>World.cell?_of_block (hrow p.block (by omega))) (show rb≤g by omega) _
 ·have e1:=JN s.rows ks k (fun x=>{x with node:={x.node with kids:=x.node.kids++[id]}}) v' h3 hk (fun _ _=>rfl)
  have e2:=hspf (fun x=>{x with node:={x.node with kids:=x.node.kids++[id]}}) v';simp only[BU,Hg.Rd.Ef,List.length_modify,e1,e2];simpa using h6
 ·exact Below.setCell (p:=⟨g,k*7+6,none⟩) ⟨hg.os.trans hb.os,hg.tape.trans hb.tape,hg.output.trans hb.output,AO hb.size hg.size,fun k hk=>hrow k (by omega)⟩ (show rb≤g by omega) _
theorem RdAt.forCell{w:World}{rb:Nat}{s:Hg.Rd}(h:RdAt w rb s){k:Nat}{r:Hg.Row}(hr:s.rows[k]? =some r):
 ∃g c,w.cell? ⟨rb,4,none⟩=some (.slice (some ⟨g,0,none⟩) s.rows.length c)∧rb < g∧g < w.heap.size∧w.cell? ⟨g,k*7,none⟩=some (.int .u64 (r.id:Int))∧
   (∀j,j < 7→∃u,w.cell? ⟨g,k*7+j,none⟩=some u)∧(∀j,w.frozen? ⟨g,j,none⟩=false)∧
   ∀(j:Nat) (u:Value) (f:Hg.Row→Hg.Row),j < 7→(∀r kv,Ap (f r) kv=(Ap r kv).set j u)→(∀r,(f r).node.kids=r.node.kids)→
     RdAt (w.setCell ⟨g,k*7+j,none⟩ u) rb {s with rows:=s.rows.modify k f}∧Below rb w (w.setCell ⟨g,k*7+j,none⟩ u):=by
 have hlt:=h.lt;obtain⟨vL,vR,vM,vF,vI,vC,vW,vU,vS,ks,h1,h2,h3,h4⟩:=h;have hk:k < s.rows.length:=(Af.1 hr).1;have hkv:ks[k]? =some (ks[k]'(by omega)):=AX (by omega);have hR:w.ownsRow (rb+1) 46 7 vR s.rows.length (Aa s.rows ks):=h4.1 ⟨vR,46,7,s.rows.length,Aa s.rows ks⟩ (by simp[BU]);obtain⟨g,c,rfl⟩:=ownsRow_succ (k:=s.rows.length-1) (by rw[show s.rows.length-1+1=s.rows.length by omega];exact hR);rw[show s.rows.length-1+1=s.rows.length by omega] at*;have hgl:=hR.lt g rfl;have hcell:∀j,j < 7→w.cell? ⟨g,k*7+j,none⟩=(Ap r (ks[k]'(by omega)))[j]? :=fun j hj=>by
  have e:=Eh s.rows ks k j r _ hr hkv hj;have e2:=World.ownsRow.cellAt hR (k*7+j) (by omega);rw[e2,e]
 refine⟨g,c,AJ w rb 4 _ _ (0,0) h1,by omega,hgl.2,(hcell 0 (by omega)).trans rfl,fun j hj=> ?_,fun j=>hR.frozenAt _,fun j u f hj hf hf2=> ?_⟩
 ·rw[hcell j hj]
  exact⟨_,AX (by simp[Ap];omega)⟩
 ·obtain⟨hst1,hst2⟩:=hR.stored (k*7+j) u
  have h6:=BQ.turn (l1:=[]) (o:=⟨.slice (some ⟨g,0,none⟩) s.rows.length c,46,7,s.rows.length,Aa s.rows ks⟩)
   (o':=⟨.slice (some ⟨g,0,none⟩) s.rows.length c,46,7,s.rows.length,(Aa s.rows ks).set (k*7+j) u⟩) h4 hst1 hst2 (fun q hq=> .inl hq)
  refine⟨⟨vL,.slice (some ⟨g,0,none⟩) s.rows.length c,vM,vF,vI,vC,vW,vU,vS,ks, ?_, ?_,by simp[h3], ?_⟩, ?_⟩
  ·rw[Below.heap_setCell _ _ _ _ (show rb≠g by omega)]
   exact h1
  ·exact h2.setCell (p:=⟨g,k*7+j,none⟩) (show rb≤g by omega) _
  ·have e1:=IK s.rows ks k j f u h3 hk hj hf
   have e2:=KP s.rows ks k f hf2;simp only[BU,List.length_modify,e1,e2];simpa[BU] using h6
  ·exact(AP).setCell (p:=⟨g,k*7+j,none⟩) (show rb≤g by omega) _
theorem Ic{α:Type}(l:List α)(f:α→List Value)(x:α):(l++[x]).flatMap f=l.flatMap f++f x:=by simp
theorem Cj{w:World}{base:Nat}{e:TypeId}{size n:Nat}{gR nR cR:Nat}{xs:List Value}(h:w.ownsRow base e size (.slice (some ⟨gR,0,none⟩) nR cR) n xs):Value.ownBlock (.slice (some ⟨gR,0,none⟩) nR cR)=some gR:=rfl
theorem RdAt.OX{w:World}{rb:Nat}{s:Hg.Rd}(h:RdAt w rb s):
 ∃a c,w.cell? ⟨rb,6,none⟩=some (.slice a s.mods.length c)∧w.ownsRow (rb+1) 9 1 (.slice a s.mods.length c) s.mods.length (s.mods.map strV)∧
   (∀g,Value.ownBlock (.slice a s.mods.length c)=some g→rb < g)∧(∀gR nR cR,w.cell? ⟨rb,4,none⟩=some (.slice (some ⟨gR,0,none⟩) nR cR)→Value.ownBlock (.slice a s.mods.length c)≠some gR)∧
   ∀(w0 w1:World) (v':Value) (x:List UInt8),Below w.heap.size w w0→w1.ownsRow (rb+1) 9 1 v' (s.mods.length+1) (s.mods.map strV++[strV x])→
     w0.grownBy w1 (Value.ownBlock (.slice a s.mods.length c))→(v'.ownBlock=Value.ownBlock (.slice a s.mods.length c)∨v'.ownBlock=some w0.heap.size)→
     RdAt (w1.setCell ⟨rb,6,none⟩ v') rb {s with mods:=s.mods++[x]}∧Below rb w (w1.setCell ⟨rb,6,none⟩ v'):=by
 have hlt:=h.lt;obtain⟨vL,vR,vM,vF,vI,vC,vW,vU,vS,ks,h1,h2,h3,h4⟩:=h;have hO:w.ownsRow (rb+1) 9 1 vM s.mods.length (s.mods.map strV):=h4.1 ⟨vM,9,1,s.mods.length,s.mods.map strV⟩ (by simp[BU]);obtain⟨a,c,rfl⟩:=(Sl.Ai hO).form;have hbg:∀g,Value.ownBlock (.slice a s.mods.length c)=some g→rb+1≤g:=fun g hg'=>(hO.lt g hg').1;refine⟨a,c,AJ w rb 6 _ _ (0,0) h1,hO,hbg,fun gR nR cR hgR=> ?_,fun w0 w1 v' x hb ho hg hat=> ?_⟩
 ·rw[AJ w rb 4 _ _ (0,0) h1] at hgR
  have hv:vR= .slice (some ⟨gR,0,none⟩) nR cR:=by simpa[I7] using hgR
  have hp:=h4.2;simp only[BU,List.cons_append,List.pairwise_cons] at hp;have hq:=hp.1 ⟨(.slice a s.mods.length c),9,1,s.mods.length,s.mods.map strV⟩ (by simp) gR;subst hv;exact hq (by
   have hR:w.ownsRow (rb+1) 46 7 (.slice (some ⟨gR,0,none⟩) nR cR) s.rows.length (Aa s.rows ks):=h4.1 ⟨.slice (some ⟨gR,0,none⟩) nR cR,46,7,s.rows.length,Aa s.rows ks⟩ (by simp[BU]);exact Cj hR)
 have hrow:∀b,b≤rb→w1.heap[b]? =w.heap[b]? :=fun b hbl=>
  (hg.block b (by have:=hb.size;omega) (fun e=>by have:=hbg b e.symm;omega)).trans (hb.block b (by omega))
 have h4':=h4.below hb AA;have h5:=BQ.turn (l1:=[⟨vR,46,7,s.rows.length,Aa s.rows ks⟩]) (o:=⟨.slice a s.mods.length c,9,1,s.mods.length,s.mods.map strV⟩) (l2:=[⟨vF,9,1,s.funcs.length,s.funcs.map strV⟩,⟨vI,37,1,s.ids.length,s.ids.map idV⟩,⟨vC,37,1,s.calls.length,s.calls.map idV⟩,⟨vW,9,1,s.wants.length,s.wants.map strV⟩,⟨vU,9,1,s.used.length,s.used.map strV⟩,⟨vS,196,3,s.seen.length,s.seen.flatMap Ah⟩]++Bc s.rows ks)
  (o':=⟨v',9,1,s.mods.length+1,s.mods.map strV++[strV x]⟩) h4' ho hg (fun g hg'=>by
   rcases hat with e|e
   ·left;rw[←e];exact hg'
   ·right;rw[show v'.ownBlock=some g from hg'] at e;injection e with e;omega)
 have h6:=h5.setCell (p:=⟨rb,6,none⟩) (Nat.lt_succ_self _) v';refine⟨⟨vL,vR,v',vF,vI,vC,vW,vU,vS,ks, ?_, ?_,h3, ?_⟩, ?_⟩
 ·exact heap_setCell_same ((hrow rb AA).trans h1) v'
 ·refine Sl.setCell (p:=⟨rb,6,none⟩) (h2.keep fun p hp=>World.cell?_of_block (hrow p.block (by omega))) AA _
 ·simp only[BU,List.length_append,List.length_cons,List.length_nil,List.map_append,List.map_cons,List.map_nil,Ic]
  simpa using h6
 ·refine Below.setCell (B:=rb) (p:=⟨rb,6,none⟩) ⟨hg.os.trans hb.os,hg.tape.trans hb.tape,hg.output.trans hb.output,AO hb.size hg.size,fun k hk=>hrow k (by omega)⟩ AA _
theorem RdAt.Kz{w:World}{rb:Nat}{s:Hg.Rd}(h:RdAt w rb s):
 ∃a c,w.cell? ⟨rb,11,none⟩=some (.slice a s.used.length c)∧w.ownsRow (rb+1) 9 1 (.slice a s.used.length c) s.used.length (s.used.map strV)∧
   (∀g,Value.ownBlock (.slice a s.used.length c)=some g→rb < g)∧(∀gR nR cR,w.cell? ⟨rb,4,none⟩=some (.slice (some ⟨gR,0,none⟩) nR cR)→Value.ownBlock (.slice a s.used.length c)≠some gR)∧
   ∀(w0 w1:World) (v':Value) (x:List UInt8),Below w.heap.size w w0→w1.ownsRow (rb+1) 9 1 v' (s.used.length+1) (s.used.map strV++[strV x])→
     w0.grownBy w1 (Value.ownBlock (.slice a s.used.length c))→(v'.ownBlock=Value.ownBlock (.slice a s.used.length c)∨v'.ownBlock=some w0.heap.size)→
     RdAt (w1.setCell ⟨rb,11,none⟩ v') rb {s with used:=s.used++[x]}∧Below rb w (w1.setCell ⟨rb,11,none⟩ v'):=by
 have hlt:=h.lt;obtain⟨vL,vR,vM,vF,vI,vC,vW,vU,vS,ks,h1,h2,h3,h4⟩:=h;have hO:w.ownsRow (rb+1) 9 1 vU s.used.length (s.used.map strV):=h4.1 ⟨vU,9,1,s.used.length,s.used.map strV⟩ (by simp[BU]);obtain⟨a,c,rfl⟩:=(Sl.Ai hO).form;have hbg:∀g,Value.ownBlock (.slice a s.used.length c)=some g→rb+1≤g:=fun g hg'=>(hO.lt g hg').1;refine⟨a,c,AJ w rb 11 _ _ (0,0) h1,hO,hbg,fun gR nR cR hgR=> ?_,fun w0 w1 v' x hb ho hg hat=> ?_⟩
 ·rw[AJ w rb 4 _ _ (0,0) h1] at hgR
  have hv:vR= .slice (some ⟨gR,0,none⟩) nR cR:=by simpa[I7] using hgR
  have hp:=h4.2;simp only[BU,List.cons_append,List.pairwise_cons] at hp;have hq:=hp.1 ⟨(.slice a s.used.length c),9,1,s.used.length,s.used.map strV⟩ (by simp) gR;subst hv;exact hq (by
   have hR:w.ownsRow (rb+1) 46 7 (.slice (some ⟨gR,0,none⟩) nR cR) s.rows.length (Aa s.rows ks):=h4.1 ⟨.slice (some ⟨gR,0,none⟩) nR cR,46,7,s.rows.length,Aa s.rows ks⟩ (by simp[BU]);exact Cj hR)
 have hrow:∀b,b≤rb→w1.heap[b]? =w.heap[b]? :=fun b hbl=>
  (hg.block b (by have:=hb.size;omega) (fun e=>by have:=hbg b e.symm;omega)).trans (hb.block b (by omega))
 have h4':=h4.below hb AA;have h5:=BQ.turn (l1:=[⟨vR,46,7,s.rows.length,Aa s.rows ks⟩,⟨vM,9,1,s.mods.length,s.mods.map strV⟩,⟨vF,9,1,s.funcs.length,s.funcs.map strV⟩,⟨vI,37,1,s.ids.length,s.ids.map idV⟩,⟨vC,37,1,s.calls.length,s.calls.map idV⟩,⟨vW,9,1,s.wants.length,s.wants.map strV⟩]) (o:=⟨.slice a s.used.length c,9,1,s.used.length,s.used.map strV⟩) (l2:=[⟨vS,196,3,s.seen.length,s.seen.flatMap Ah⟩]++Bc s.rows ks)
  (o':=⟨v',9,1,s.used.length+1,s.used.map strV++[strV x]⟩) h4' ho hg (fun g hg'=>by
   rcases hat with e|e
   ·left;rw[←e];exact hg'
   ·right;rw[show v'.ownBlock=some g from hg'] at e;injection e with e;omega)
 have h6:=h5.setCell (p:=⟨rb,11,none⟩) (Nat.lt_succ_self _) v';refine⟨⟨vL,vR,vM,vF,vI,vC,vW,v',vS,ks, ?_, ?_,h3, ?_⟩, ?_⟩
 ·exact heap_setCell_same ((hrow rb AA).trans h1) v'
 ·refine Sl.setCell (p:=⟨rb,11,none⟩) (h2.keep fun p hp=>World.cell?_of_block (hrow p.block (by omega))) AA _
 ·simp only[BU,List.length_append,List.length_cons,List.length_nil,List.map_append,List.map_cons,List.map_nil,Ic]
  simpa using h6
 ·refine Below.setCell (B:=rb) (p:=⟨rb,11,none⟩) ⟨hg.os.trans hb.os,hg.tape.trans hb.tape,hg.output.trans hb.output,AO hb.size hg.size,fun k hk=>hrow k (by omega)⟩ AA _
theorem RdAt.U7{w:World}{rb:Nat}{s:Hg.Rd}(h:RdAt w rb s):
 ∃a c,w.cell? ⟨rb,12,none⟩=some (.slice a s.seen.length c)∧w.ownsRow (rb+1) 196 3 (.slice a s.seen.length c) s.seen.length (s.seen.flatMap Ah)∧
   (∀g,Value.ownBlock (.slice a s.seen.length c)=some g→rb < g)∧(∀gR nR cR,w.cell? ⟨rb,4,none⟩=some (.slice (some ⟨gR,0,none⟩) nR cR)→Value.ownBlock (.slice a s.seen.length c)≠some gR)∧
   ∀(w0 w1:World) (v':Value) (x:Hg.GA),Below w.heap.size w w0→w1.ownsRow (rb+1) 196 3 v' (s.seen.length+1) (s.seen.flatMap Ah++Ah x)→
     w0.grownBy w1 (Value.ownBlock (.slice a s.seen.length c))→(v'.ownBlock=Value.ownBlock (.slice a s.seen.length c)∨v'.ownBlock=some w0.heap.size)→
     RdAt (w1.setCell ⟨rb,12,none⟩ v') rb {s with seen:=s.seen++[x]}∧Below rb w (w1.setCell ⟨rb,12,none⟩ v'):=by
 have hlt:=h.lt;obtain⟨vL,vR,vM,vF,vI,vC,vW,vU,vS,ks,h1,h2,h3,h4⟩:=h;have hO:w.ownsRow (rb+1) 196 3 vS s.seen.length (s.seen.flatMap Ah):=h4.1 ⟨vS,196,3,s.seen.length,s.seen.flatMap Ah⟩ (by simp[BU]);obtain⟨a,c,rfl⟩:=(Sl.Ai hO).form;have hbg:∀g,Value.ownBlock (.slice a s.seen.length c)=some g→rb+1≤g:=fun g hg'=>(hO.lt g hg').1;refine⟨a,c,AJ w rb 12 _ _ (0,0) h1,hO,hbg,fun gR nR cR hgR=> ?_,fun w0 w1 v' x hb ho hg hat=> ?_⟩
 ·rw[AJ w rb 4 _ _ (0,0) h1] at hgR
  have hv:vR= .slice (some ⟨gR,0,none⟩) nR cR:=by simpa[I7] using hgR
  have hp:=h4.2;simp only[BU,List.cons_append,List.pairwise_cons] at hp;have hq:=hp.1 ⟨(.slice a s.seen.length c),196,3,s.seen.length,s.seen.flatMap Ah⟩ (by simp) gR;subst hv;exact hq (by
   have hR:w.ownsRow (rb+1) 46 7 (.slice (some ⟨gR,0,none⟩) nR cR) s.rows.length (Aa s.rows ks):=h4.1 ⟨.slice (some ⟨gR,0,none⟩) nR cR,46,7,s.rows.length,Aa s.rows ks⟩ (by simp[BU]);exact Cj hR)
 have hrow:∀b,b≤rb→w1.heap[b]? =w.heap[b]? :=fun b hbl=>
  (hg.block b (by have:=hb.size;omega) (fun e=>by have:=hbg b e.symm;omega)).trans (hb.block b (by omega))
 have h4':=h4.below hb AA;have h5:=BQ.turn (l1:=[⟨vR,46,7,s.rows.length,Aa s.rows ks⟩,⟨vM,9,1,s.mods.length,s.mods.map strV⟩,⟨vF,9,1,s.funcs.length,s.funcs.map strV⟩,⟨vI,37,1,s.ids.length,s.ids.map idV⟩,⟨vC,37,1,s.calls.length,s.calls.map idV⟩,⟨vW,9,1,s.wants.length,s.wants.map strV⟩,⟨vU,9,1,s.used.length,s.used.map strV⟩]) (o:=⟨.slice a s.seen.length c,196,3,s.seen.length,s.seen.flatMap Ah⟩) (l2:=[]++Bc s.rows ks)
  (o':=⟨v',196,3,s.seen.length+1,s.seen.flatMap Ah++Ah x⟩) h4' ho hg (fun g hg'=>by
   rcases hat with e|e
   ·left;rw[←e];exact hg'
   ·right;rw[show v'.ownBlock=some g from hg'] at e;injection e with e;omega)
 have h6:=h5.setCell (p:=⟨rb,12,none⟩) (Nat.lt_succ_self _) v';refine⟨⟨vL,vR,vM,vF,vI,vC,vW,vU,v',ks, ?_, ?_,h3, ?_⟩, ?_⟩
 ·exact heap_setCell_same ((hrow rb AA).trans h1) v'
 ·refine Sl.setCell (p:=⟨rb,12,none⟩) (h2.keep fun p hp=>World.cell?_of_block (hrow p.block (by omega))) AA _
 ·simp only[BU,List.length_append,List.length_cons,List.length_nil,List.map_append,List.map_cons,List.map_nil,Ic]
  simpa using h6
 ·refine Below.setCell (B:=rb) (p:=⟨rb,12,none⟩) ⟨hg.os.trans hb.os,hg.tape.trans hb.tape,hg.output.trans hb.output,AO hb.size hg.size,fun k hk=>hrow k (by omega)⟩ AA _
theorem RdAt.ND{w:World}{rb:Nat}{s:Hg.Rd}(h:RdAt w rb s):
 ∃a1 c1 a2 c2,w.cell? ⟨rb,7,none⟩=some (.slice a1 s.funcs.length c1)∧w.cell? ⟨rb,8,none⟩=some (.slice a2 s.ids.length c2)∧
   w.ownsRow (rb+1) 9 1 (.slice a1 s.funcs.length c1) s.funcs.length (s.funcs.map strV)∧
   (∀g,Value.ownBlock (.slice a1 s.funcs.length c1)=some g→rb < g)∧(∀g,Value.ownBlock (.slice a2 s.ids.length c2)=some g→rb < g)∧
   (∀gR nR cR,w.cell? ⟨rb,4,none⟩=some (.slice (some ⟨gR,0,none⟩) nR cR)→Value.ownBlock (.slice a1 s.funcs.length c1)≠some gR∧Value.ownBlock (.slice a2 s.ids.length c2)≠some gR)∧
   ∀(w0 w1:World) (v1:Value) (x1:List UInt8),Below w.heap.size w w0→w1.ownsRow (rb+1) 9 1 v1 (s.funcs.length+1) (s.funcs.map strV++[strV x1])→
     w0.grownBy w1 (Value.ownBlock (.slice a1 s.funcs.length c1))→(v1.ownBlock=Value.ownBlock (.slice a1 s.funcs.length c1)∨v1.ownBlock=some w0.heap.size)→
     (∀w2,Below w1.heap.size w1 w2→w2.ownsRow (rb+1) 37 1 (.slice a2 s.ids.length c2) s.ids.length (s.ids.map idV))∧
     ∀(w2 w3:World) (v2:Value) (x2:Nat),Below w1.heap.size w1 w2→w3.ownsRow (rb+1) 37 1 v2 (s.ids.length+1) (s.ids.map idV++[idV x2])→
       w2.grownBy w3 (Value.ownBlock (.slice a2 s.ids.length c2))→(v2.ownBlock=Value.ownBlock (.slice a2 s.ids.length c2)∨v2.ownBlock=some w2.heap.size)→
       RdAt ((w3.setCell ⟨rb,7,none⟩ v1).setCell ⟨rb,8,none⟩ v2) rb {s with funcs:=s.funcs++[x1],ids:=s.ids++[x2]}∧Below rb w ((w3.setCell ⟨rb,7,none⟩ v1).setCell ⟨rb,8,none⟩ v2):=by
 have hlt:=h.lt;obtain⟨vL,vR,vM,vF,vI,vC,vW,vU,vS,ks,h1,h2,h3,h4⟩:=h;have hO1:w.ownsRow (rb+1) 9 1 vF s.funcs.length (s.funcs.map strV):=h4.1 ⟨vF,9,1,s.funcs.length,s.funcs.map strV⟩ (by simp[BU]);have hO2:w.ownsRow (rb+1) 37 1 vI s.ids.length (s.ids.map idV):=h4.1 ⟨vI,37,1,s.ids.length,s.ids.map idV⟩ (by simp[BU]);obtain⟨a1,c1,rfl⟩:=(Sl.Ai hO1).form;obtain⟨a2,c2,rfl⟩:=(Sl.Ai hO2).form;have hbg1:∀g,Value.ownBlock (.slice a1 s.funcs.length c1)=some g→rb+1≤g:=fun g hg'=>(hO1.lt g hg').1;have hbg2:∀g,Value.ownBlock (.slice a2 s.ids.length c2)=some g→rb+1≤g:=fun g hg'=>(hO2.lt g hg').1;refine⟨a1,c1,a2,c2,AJ w rb 7 _ _ (0,0) h1,AJ w rb 8 _ _ (0,0) h1,hO1,hbg1,hbg2,fun gR nR cR hgR=> ?_,fun w0 w1 v1 x1 hb0 ho1 hg1 hat1=> ?_⟩
 ·rw[AJ w rb 4 _ _ (0,0) h1] at hgR
  have hv:vR= .slice (some ⟨gR,0,none⟩) nR cR:=by simpa[I7] using hgR
  have hp:=h4.2;simp only[BU,List.cons_append,List.pairwise_cons] at hp;subst hv;have hR:w.ownsRow (rb+1) 46 7 (.slice (some ⟨gR,0,none⟩) nR cR) s.rows.length (Aa s.rows ks):=h4.1 ⟨.slice (some ⟨gR,0,none⟩) nR cR,46,7,s.rows.length,Aa s.rows ks⟩ (by simp[BU]);exact⟨hp.1 ⟨(.slice a1 s.funcs.length c1),9,1,s.funcs.length,s.funcs.map strV⟩ (by simp) gR (Cj hR),hp.1 ⟨(.slice a2 s.ids.length c2),37,1,s.ids.length,s.ids.map idV⟩ (by simp) gR (Cj hR)⟩
 have h4':=h4.below hb0 AA;have hrow1:∀b,b≤rb→w1.heap[b]? =w.heap[b]? :=fun b hbl=>
  (hg1.block b (by have:=hb0.size;omega) (fun e=>by have:=hbg1 b e.symm;omega)).trans (hb0.block b (by omega))
 have h5:=BQ.turn (l1:=[⟨vR,46,7,s.rows.length,Aa s.rows ks⟩,⟨vM,9,1,s.mods.length,s.mods.map strV⟩]) (o:=⟨.slice a1 s.funcs.length c1,9,1,s.funcs.length,s.funcs.map strV⟩) (l2:=⟨.slice a2 s.ids.length c2,37,1,s.ids.length,s.ids.map idV⟩::([⟨vC,37,1,s.calls.length,s.calls.map idV⟩,⟨vW,9,1,s.wants.length,s.wants.map strV⟩,⟨vU,9,1,s.used.length,s.used.map strV⟩,⟨vS,196,3,s.seen.length,s.seen.flatMap Ah⟩]++Bc s.rows ks))
  (o':=⟨v1,9,1,s.funcs.length+1,s.funcs.map strV++[strV x1]⟩) h4' ho1 hg1 (fun g hg'=>by
   rcases hat1 with e|e
   ·left;rw[←e];exact hg'
   ·right;rw[show v1.ownBlock=some g from hg'] at e;injection e with e;omega)
 refine⟨fun w2 hb2=>(h5.below hb2 AA).1 ⟨.slice a2 s.ids.length c2,37,1,s.ids.length,s.ids.map idV⟩ (by simp),fun w2 w3 v2 x2 hb2 ho2 hg2 hat2=> ?_⟩;have hs1:w.heap.size≤w1.heap.size:=AO hb0.size hg1.size;have hrow:∀b,b≤rb→w3.heap[b]? =w.heap[b]? :=fun b hbl=>
  (hg2.block b (by have:=hb2.size;omega) (fun e=>by have:=hbg2 b e.symm;omega)).trans ((hb2.block b (by omega)).trans (hrow1 b hbl))
 have h6:BQ w2 (rb+1) (([⟨vR,46,7,s.rows.length,Aa s.rows ks⟩,⟨vM,9,1,s.mods.length,s.mods.map strV⟩]++[⟨v1,9,1,s.funcs.length+1,s.funcs.map strV++[strV x1]⟩])++⟨.slice a2 s.ids.length c2,37,1,s.ids.length,s.ids.map idV⟩::([⟨vC,37,1,s.calls.length,s.calls.map idV⟩,⟨vW,9,1,s.wants.length,s.wants.map strV⟩,⟨vU,9,1,s.used.length,s.used.map strV⟩,⟨vS,196,3,s.seen.length,s.seen.flatMap Ah⟩]++Bc s.rows ks)):=h5.below hb2 AA;have h7:=BQ.turn (o':=⟨v2,37,1,s.ids.length+1,s.ids.map idV++[idV x2]⟩) h6 ho2 hg2 (fun g hg'=>by
  rcases hat2 with e|e
  ·left;rw[←e];exact hg'
  ·right;rw[show v2.ownBlock=some g from hg'] at e;injection e with e;omega)
 have h8:=(h7.setCell (p:=⟨rb,7,none⟩) (Nat.lt_succ_self _) v1).setCell (p:=⟨rb,8,none⟩) (Nat.lt_succ_self _) v2;refine⟨⟨vL,vR,vM,v1,v2,vC,vW,vU,vS,ks, ?_, ?_,h3, ?_⟩, ?_⟩
 ·exact heap_setCell_same (heap_setCell_same ((hrow rb AA).trans h1) v1) v2
 ·exact((h2.keep fun p hp=>World.cell?_of_block (hrow p.block (by omega))).setCell (p:=⟨rb,7,none⟩) AA _).setCell (p:=⟨rb,8,none⟩) AA _
 ·simp only[BU,List.length_append,List.length_cons,List.length_nil,List.map_append,List.map_cons,List.map_nil,Ic]
  simpa using h8
 ·refine((Below.setCell (B:=rb) (p:=⟨rb,7,none⟩) ⟨hg2.os.trans (hb2.os.trans (hg1.os.trans hb0.os)),hg2.tape.trans (hb2.tape.trans (hg1.tape.trans hb0.tape)),hg2.output.trans (hb2.output.trans (hg1.output.trans hb0.output)),AO hs1 (AO hb2.size hg2.size),fun k hk=>hrow k (by omega)⟩ AA v1).setCell (p:=⟨rb,8,none⟩) AA v2)
theorem RdAt.U8{w:World}{rb:Nat}{s:Hg.Rd}(h:RdAt w rb s):
 ∃a1 c1 a2 c2,w.cell? ⟨rb,9,none⟩=some (.slice a1 s.calls.length c1)∧w.cell? ⟨rb,10,none⟩=some (.slice a2 s.wants.length c2)∧
   w.ownsRow (rb+1) 37 1 (.slice a1 s.calls.length c1) s.calls.length (s.calls.map idV)∧
   (∀g,Value.ownBlock (.slice a1 s.calls.length c1)=some g→rb < g)∧(∀g,Value.ownBlock (.slice a2 s.wants.length c2)=some g→rb < g)∧
   (∀gR nR cR,w.cell? ⟨rb,4,none⟩=some (.slice (some ⟨gR,0,none⟩) nR cR)→Value.ownBlock (.slice a1 s.calls.length c1)≠some gR∧Value.ownBlock (.slice a2 s.wants.length c2)≠some gR)∧
   ∀(w0 w1:World) (v1:Value) (x1:Nat),Below w.heap.size w w0→w1.ownsRow (rb+1) 37 1 v1 (s.calls.length+1) (s.calls.map idV++[idV x1])→
     w0.grownBy w1 (Value.ownBlock (.slice a1 s.calls.length c1))→(v1.ownBlock=Value.ownBlock (.slice a1 s.calls.length c1)∨v1.ownBlock=some w0.heap.size)→
     (∀w2,Below w1.heap.size w1 w2→w2.ownsRow (rb+1) 9 1 (.slice a2 s.wants.length c2) s.wants.length (s.wants.map strV))∧
     ∀(w2 w3:World) (v2:Value) (x2:List UInt8),Below w1.heap.size w1 w2→w3.ownsRow (rb+1) 9 1 v2 (s.wants.length+1) (s.wants.map strV++[strV x2])→
       w2.grownBy w3 (Value.ownBlock (.slice a2 s.wants.length c2))→(v2.ownBlock=Value.ownBlock (.slice a2 s.wants.length c2)∨v2.ownBlock=some w2.heap.size)→
       RdAt ((w3.setCell ⟨rb,9,none⟩ v1).setCell ⟨rb,10,none⟩ v2) rb {s with calls:=s.calls++[x1],wants:=s.wants++[x2]}∧Below rb w ((w3.setCell ⟨rb,9,none⟩ v1).setCell ⟨rb,10,none⟩ v2):=by
 have hlt:=h.lt;obtain⟨vL,vR,vM,vF,vI,vC,vW,vU,vS,ks,h1,h2,h3,h4⟩:=h;have hO1:w.ownsRow (rb+1) 37 1 vC s.calls.length (s.calls.map idV):=h4.1 ⟨vC,37,1,s.calls.length,s.calls.map idV⟩ (by simp[BU]);have hO2:w.ownsRow (rb+1) 9 1 vW s.wants.length (s.wants.map strV):=h4.1 ⟨vW,9,1,s.wants.length,s.wants.map strV⟩ (by simp[BU]);obtain⟨a1,c1,rfl⟩:=(Sl.Ai hO1).form;obtain⟨a2,c2,rfl⟩:=(Sl.Ai hO2).form;have hbg1:∀g,Value.ownBlock (.slice a1 s.calls.length c1)=some g→rb+1≤g:=fun g hg'=>(hO1.lt g hg').1;have hbg2:∀g,Value.ownBlock (.slice a2 s.wants.length c2)=some g→rb+1≤g:=fun g hg'=>(hO2.lt g hg').1;refine⟨a1,c1,a2,c2,AJ w rb 9 _ _ (0,0) h1,AJ w rb 10 _ _ (0,0) h1,hO1,hbg1,hbg2,fun gR nR cR hgR=> ?_,fun w0 w1 v1 x1 hb0 ho1 hg1 hat1=> ?_⟩
 ·rw[AJ w rb 4 _ _ (0,0) h1] at hgR
  have hv:vR= .slice (some ⟨gR,0,none⟩) nR cR:=by simpa[I7] using hgR
  have hp:=h4.2;simp only[BU,List.cons_append,List.pairwise_cons] at hp;subst hv;have hR:w.ownsRow (rb+1) 46 7 (.slice (some ⟨gR,0,none⟩) nR cR) s.rows.length (Aa s.rows ks):=h4.1 ⟨.slice (some ⟨gR,0,none⟩) nR cR,46,7,s.rows.length,Aa s.rows ks⟩ (by simp[BU]);exact⟨hp.1 ⟨(.slice a1 s.calls.length c1),37,1,s.calls.length,s.calls.map idV⟩ (by simp) gR (Cj hR),hp.1 ⟨(.slice a2 s.wants.length c2),9,1,s.wants.length,s.wants.map strV⟩ (by simp) gR (Cj hR)⟩
 have h4':=h4.below hb0 AA;have hrow1:∀b,b≤rb→w1.heap[b]? =w.heap[b]? :=fun b hbl=>
  (hg1.block b (by have:=hb0.size;omega) (fun e=>by have:=hbg1 b e.symm;omega)).trans (hb0.block b (by omega))
 have h5:=BQ.turn (l1:=[⟨vR,46,7,s.rows.length,Aa s.rows ks⟩,⟨vM,9,1,s.mods.length,s.mods.map strV⟩,⟨vF,9,1,s.funcs.length,s.funcs.map strV⟩,⟨vI,37,1,s.ids.length,s.ids.map idV⟩]) (o:=⟨.slice a1 s.calls.length c1,37,1,s.calls.length,s.calls.map idV⟩) (l2:=⟨.slice a2 s.wants.length c2,9,1,s.wants.length,s.wants.map strV⟩::([⟨vU,9,1,s.used.length,s.used.map strV⟩,⟨vS,196,3,s.seen.length,s.seen.flatMap Ah⟩]++Bc s.rows ks))
  (o':=⟨v1,37,1,s.calls.length+1,s.calls.map idV++[idV x1]⟩) h4' ho1 hg1 (fun g hg'=>by
   rcases hat1 with e|e
   ·left;rw[←e];exact hg'
   ·right;rw[show v1.ownBlock=some g from hg'] at e;injection e with e;omega)
 refine⟨fun w2 hb2=>(h5.below hb2 AA).1 ⟨.slice a2 s.wants.length c2,9,1,s.wants.length,s.wants.map strV⟩ (by simp),fun w2 w3 v2 x2 hb2 ho2 hg2 hat2=> ?_⟩;have hs1:w.heap.size≤w1.heap.size:=AO hb0.size hg1.size;have hrow:∀b,b≤rb→w3.heap[b]? =w.heap[b]? :=fun b hbl=>
  (hg2.block b (by have:=hb2.size;omega) (fun e=>by have:=hbg2 b e.symm;omega)).trans ((hb2.block b (by omega)).trans (hrow1 b hbl))
 have h6:BQ w2 (rb+1) (([⟨vR,46,7,s.rows.length,Aa s.rows ks⟩,⟨vM,9,1,s.mods.length,s.mods.map strV⟩,⟨vF,9,1,s.funcs.length,s.funcs.map strV⟩,⟨vI,37,1,s.ids.length,s.ids.map idV⟩]++[⟨v1,37,1,s.calls.length+1,s.calls.map idV++[idV x1]⟩])++⟨.slice a2 s.wants.length c2,9,1,s.wants.length,s.wants.map strV⟩::([⟨vU,9,1,s.used.length,s.used.map strV⟩,⟨vS,196,3,s.seen.length,s.seen.flatMap Ah⟩]++Bc s.rows ks)):=h5.below hb2 AA;have h7:=BQ.turn (o':=⟨v2,9,1,s.wants.length+1,s.wants.map strV++[strV x2]⟩) h6 ho2 hg2 (fun g hg'=>by
  rcases hat2 with e|e
  ·left;rw[←e];exact hg'
  ·right;rw[show v2.ownBlock=some g from hg'] at e;injection e with e;omega)
 have h8:=(h7.setCell (p:=⟨rb,9,none⟩) (Nat.lt_succ_self _) v1).setCell (p:=⟨rb,10,none⟩) (Nat.lt_succ_self _) v2;refine⟨⟨vL,vR,vM,vF,vI,v1,v2,vU,vS,ks, ?_, ?_,h3, ?_⟩, ?_⟩
 ·exact heap_setCell_same (heap_setCell_same ((hrow rb AA).trans h1) v1) v2
 ·exact((h2.keep fun p hp=>World.cell?_of_block (hrow p.block (by omega))).setCell (p:=⟨rb,9,none⟩) AA _).setCell (p:=⟨rb,10,none⟩) AA _
 ·simp only[BU,List.length_append,List.length_cons,List.length_nil,List.map_append,List.map_cons,List.map_nil,Ic]
  simpa using h8
 ·refine((Below.setCell (B:=rb) (p:=⟨rb,9,none⟩) ⟨hg2.os.trans (hb2.os.trans (hg1.os.trans hb0.os)),hg2.tape.trans (hb2.tape.trans (hg1.tape.trans hb0.tape)),hg2.output.trans (hb2.output.trans (hg1.output.trans hb0.output)),AO hs1 (AO hb2.size hg2.size),fun k hk=>hrow k (by omega)⟩ AA v1).setCell (p:=⟨rb,10,none⟩) AA v2)
end Go.Proofs.YtijhlanclfajiaaGreatDoor
