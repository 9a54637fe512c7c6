/-
  A part of the proof.
-/
import Derived.Test.YtijhlanclfajiaaGreatDoorKiAE
import Derived.Maps.AppendAt
set_option linter.all false
namespace Go.Proofs.YtijhlanclfajiaaGreatDoor
open Go.RowKit
structure Own where
 v:Value
 e:TypeId
 sz:Nat
 n:Nat
 xs:List Value
def Own.at_(o:Own)(w:World)(base:Nat):Prop:=w.ownsRow base o.e o.sz o.v o.n o.xs
def BQ(w:World)(base:Nat)(os:List Own):Prop:=
 (∀o∈os,o.at_ w base)∧os.Pairwise (fun a b=>∀g,a.v.ownBlock=some g→b.v.ownBlock≠some g)
theorem BQ.keep{w w':World}{base:Nat}{os:List Own}(h:BQ w base os)(hk:∀g,base≤g→g < w.heap.size→w'.heap[g]? =w.heap[g]?):BQ w' base os:=by
 refine⟨fun o ho=> ?_,h.2⟩;have h1:=h.1 o ho;refine⟨h1.1, ?_⟩;rcases h1.2 with hn|⟨g,cap,cur,hv,hb,hg,rest⟩
 ·exact .inl hn
 ·exact .inr ⟨g,cap,cur,hv,hb,by rw[hk g hb (Ab.1 hg).1];exact hg,rest⟩
theorem BQ.below{w w':World}{base B:Nat}{os:List Own}(h:BQ w base os)(hb:Below B w w')(hB:w.heap.size≤B):BQ w' base os:=
 h.keep fun g _ hg=>hb.block g (by omega)
theorem BQ.alloc{w:World}{base:Nat}{os:List Own}(h:BQ w base os)(o:Obj):BQ (w.alloc o) base os:=
 h.keep fun g _ hg=>Below.heap_alloc w o g hg
theorem BQ.setCell{w:World}{base:Nat}{os:List Own}(h:BQ w base os){p:Addr}(hp:p.block < base)(u:Value):BQ (w.setCell p u) base os:=
 h.keep fun g hg _=>Below.heap_setCell w p u g (by omega)
theorem BQ.turn{w w':World}{base:Nat}{l1 l2:List Own}{o o':Own}(h:BQ w base (l1++o::l2))(ho:o'.at_ w' base)(hg:w.grownBy w' o.v.ownBlock)
 (hb:∀g,o'.v.ownBlock=some g→o.v.ownBlock=some g∨w.heap.size≤g):BQ w' base (l1++o'::l2):=by
 obtain⟨h1,h2⟩:=h;rw[List.pairwise_append,List.pairwise_cons] at h2;obtain⟨p1,⟨p2,p3⟩,p4⟩:=h2;have other:∀x:Own,x.at_ w base→(∀g,o.v.ownBlock=some g→x.v.ownBlock≠some g)→x.at_ w' base:=fun x hx hne=>
  World.ownsRow.kept hx hg (by
   cases hv:x.v.ownBlock with
   |none=>exact .inl rfl
   |some g=>
     right;intro he
     exact hne g he.symm hv)
 have fresh:∀x:Own,x.at_ w base→(∀g,o.v.ownBlock=some g→x.v.ownBlock≠some g)→∀g,o'.v.ownBlock=some g→x.v.ownBlock≠some g:=fun x hx hne g hg'=>by
  rcases hb g hg' with he|he
  ·exact hne g he
  ·intro hx'
   have:=(World.ownsRow.lt hx g hx').2;omega
 refine⟨fun x hx=> ?_, ?_⟩
 ·rcases List.mem_append.1 hx with hx1|hx1
  ·exact other x (h1 x (by simp[hx1])) fun g hg' hx'=>p4 x hx1 o (by simp) g hx' hg'
  ·rcases List.mem_cons.1 hx1 with rfl|hx2
   ·exact ho
   ·exact other x (h1 x (by simp[hx2])) fun g hg'=>p2 x hx2 g hg'
 ·rw[List.pairwise_append,List.pairwise_cons]
  refine⟨p1,⟨fun x hx g hg'=>fresh x (h1 x (by simp[hx])) (p2 x hx) g hg',p3⟩,fun x hx y hy=> ?_⟩;rcases List.mem_cons.1 hy with rfl|hy
  ·intro g hg1 hg2
   exact fresh x (h1 x (by simp[hx])) (fun g' hg' hx'=>p4 x hx o (by simp) g' hx' hg') g hg2 hg1
  ·exact p4 x hx y (by simp[hy])
def Own.nil(e:TypeId)(sz:Nat):Own:=⟨.slice none 0 0,e,sz,0,[]⟩
theorem BQ.WI{w:World}{base:Nat}{os:List Own}(h:BQ w base os)(e:TypeId)(sz:Nat):BQ w base (os++[Own.nil e sz]):=by
 refine⟨fun o ho=> ?_, ?_⟩
 ·rcases List.mem_append.1 ho with h1|h1
  ·exact h.1 o h1
  ·simp only[List.mem_singleton] at h1
   subst h1;exact World.ownsRow_nil _ _ _ _
 ·rw[List.pairwise_append]
  refine⟨h.2,by simp,fun a ha b hb=> ?_⟩;simp only[List.mem_singleton] at hb;subst hb;intro g _ h'
  simp[Own.nil,Value.ownBlock] at h'
def Bc:List Hg.Row→List Value→List Own
 |r::rs,k::ks=>⟨k,37,1,r.node.kids.length,r.node.kids.map idV⟩::Bc rs ks
 |_,_=>[]
def Ah(b:Hg.GA):List Value:=[strV b.name,.int .u64 (b.id:Int),.int .i64 (b.deep:Int)]
def BU(s:Hg.Rd)(vR vM vF vI vC vW vU vS:Value)(ks:List Value):List Own:=
 [⟨vR, 46, 7, s.rows.length, Aa s.rows ks⟩, ⟨vM, 9, 1, s.mods.length, s.mods.map strV⟩, ⟨vF, 9, 1, s.funcs.length, s.funcs.map strV⟩,
  ⟨vI,37,1,s.ids.length,s.ids.map idV⟩,⟨vC,37,1,s.calls.length,s.calls.map idV⟩,⟨vW,9,1,s.wants.length,s.wants.map strV⟩,
  ⟨vU,9,1,s.used.length,s.used.map strV⟩,⟨vS,196,3,s.seen.length,s.seen.flatMap Ah⟩]++Bc s.rows ks
def I7(s:Hg.Rd)(vL vR vM vF vI vC vW vU vS:Value):Array Value:=
 #[vL,.int .i64 (s.at_:Int),.int .i64 (s.deep:Int),.bool s.bad,vR,.int .i64 (s.names:Int),vM,vF,vI,vC,vW,vU,vS,.int .i64 (s.level:Int)]
def RdAt(w:World)(rb:Nat)(s:Hg.Rd):Prop:=
 ∃(vL vR vM vF vI vC vW vU vS:Value) (ks:List Value),w.heap[rb]? =some (.cells (I7 s vL vR vM vF vI vC vW vU vS) 90 (0,0))∧
   Sl w rb vL s.L.length (s.L.flatMap BH)∧ks.length=s.rows.length∧BQ w (rb+1) (BU s vR vM vF vI vC vW vU vS ks)
theorem RdAt.drewN{w:World}{rb:Nat}{s:Hg.Rd}(h:RdAt w rb s)(n:Nat):RdAt (w.drewN n) rb s:=h
theorem RdAt.drew{w:World}{rb:Nat}{s:Hg.Rd}(h:RdAt w rb s):RdAt w.drew rb s:=h
theorem RdAt.lt{w:World}{rb:Nat}{s:Hg.Rd}(h:RdAt w rb s):rb < w.heap.size:=by
 obtain⟨vL,vR,vM,vF,vI,vC,vW,vU,vS,ks,hb,_⟩:=h;exact(Ab.1 hb).1
theorem RdAt.below{w w':World}{rb B:Nat}{s:Hg.Rd}(h:RdAt w rb s)(hb:Below B w w')(hB:w.heap.size≤B):RdAt w' rb s:=by
 have hlt:=h.lt;obtain⟨vL,vR,vM,vF,vI,vC,vW,vU,vS,ks,h1,h2,h3,h4⟩:=h;exact⟨vL,vR,vM,vF,vI,vC,vW,vU,vS,ks,(hb.block rb (by omega)).trans h1,h2.below hb (by omega),h3,h4.below hb hB⟩
theorem RdAt.frozen{w:World}{rb:Nat}{s:Hg.Rd}(h:RdAt w rb s)(i:Nat):w.frozen? ⟨rb,i,none⟩=false:=by
 obtain⟨vL,vR,vM,vF,vI,vC,vW,vU,vS,ks,h1,_⟩:=h
 simp[World.frozen?,h1]
theorem RdAt.cell{w:World}{rb:Nat}{s:Hg.Rd}(h:RdAt w rb s):w.cell? ⟨rb,1,none⟩=some (.int .i64 (s.at_:Int))∧w.cell? ⟨rb,2,none⟩=some (.int .i64 (s.deep:Int))∧
 w.cell? ⟨rb,3,none⟩=some (.bool s.bad)∧w.cell? ⟨rb,5,none⟩=some (.int .i64 (s.names:Int))∧w.cell? ⟨rb,13,none⟩=some (.int .i64 (s.level:Int)):=by
 obtain⟨vL,vR,vM,vF,vI,vC,vW,vU,vS,ks,h1,_⟩:=h;have hc:=fun i=>AJ w rb i _ _ (0,0) h1;exact⟨hc 1,hc 2,hc 3,hc 5,hc 13⟩
structure Lite (rb:Nat) (w w':World):Prop where
 below:Below rb w w'
 c4:w'.cell? ⟨rb,4,none⟩=w.cell? ⟨rb,4,none⟩
 other:∀b,b≠rb→w'.heap[b]? =w.heap[b]?
theorem Lite.refl(rb:Nat)(w:World):Lite rb w w:=⟨AP,rfl,fun _ _=>rfl⟩
theorem Lite.trans{rb:Nat}{a b c:World}(h:Lite rb a b)(k:Lite rb b c):Lite rb a c:=⟨h.below.trans k.below,k.c4.trans h.c4,fun i hi=>(k.other i hi).trans (h.other i hi)⟩
theorem Lite.drewN(rb:Nat)(w:World)(n:Nat):Lite rb w (w.drewN n):=⟨below_drewN (AP) n,rfl,fun _ _=>rfl⟩
theorem Lite.setCell{rb:Nat}{a w:World}(h:Lite rb a w){i:Nat}(hi:i≠4)(u:Value):Lite rb a (w.setCell ⟨rb,i,none⟩ u):=by
 refine h.trans ⟨(AP).setCell (p:=⟨rb,i,none⟩) AA _, ?_,fun b hb=>Below.heap_setCell w ⟨rb,i,none⟩ u b hb⟩;exact World.cell?_setCell_other w ⟨rb,i,none⟩ ⟨rb,4,none⟩ u (by simp[hi])
theorem Lite.cell{rb:Nat}{w w':World}(h:Lite rb w w'){p:Addr}(hp:p.block≠rb):w'.cell? p=w.cell? p:=World.cell?_of_block (h.other _ hp)
theorem Lite.frozen{rb:Nat}{w w':World}(h:Lite rb w w'){p:Addr}(hp:p.block≠rb):w'.frozen? p=w.frozen? p:=World.frozen?_of_block (h.other _ hp)
theorem heap_setCell_same{w:World}{b i:Nat}{cs:Array Value}{t:TypeId}(h:w.heap[b]? =some (.cells cs t (0,0)))(u:Value):
 (w.setCell ⟨b,i,none⟩ u).heap[b]? =some (.cells (cs.setIfInBounds i u) t (0,0)):=by
 simp[World.setCell,Array.getElem?_modify,h]
theorem Sl.setCell{w:World}{B:Nat}{v:Value}{n:Nat}{xs:List Value}(h:Sl w B v n xs){p:Addr}(hp:B≤p.block)(u:Value):Sl (w.setCell p u) B v n xs:=
 h.keep fun q hq=>World.cell?_of_block (Below.heap_setCell w p u q.block (by omega))
section
variable {w:World} {rb:Nat} {s:Hg.Rd} (h:RdAt w rb s)
include h
theorem RdAt.setAt(n:Nat):RdAt (w.setCell ⟨rb,1,none⟩ (.int .i64 (n:Int))) rb {s with at_:=n}:=by
 obtain⟨vL,vR,vM,vF,vI,vC,vW,vU,vS,ks,h1,h2,h3,h4⟩:=h;exact⟨vL,vR,vM,vF,vI,vC,vW,vU,vS,ks,heap_setCell_same h1 _,h2.setCell AA _,h3,h4.setCell (Nat.lt_succ_self _) _⟩
theorem RdAt.setDeep(n:Nat):RdAt (w.setCell ⟨rb,2,none⟩ (.int .i64 (n:Int))) rb {s with deep:=n}:=by
 obtain⟨vL,vR,vM,vF,vI,vC,vW,vU,vS,ks,h1,h2,h3,h4⟩:=h;exact⟨vL,vR,vM,vF,vI,vC,vW,vU,vS,ks,heap_setCell_same h1 _,h2.setCell AA _,h3,h4.setCell (Nat.lt_succ_self _) _⟩
theorem RdAt.setBad:RdAt (w.setCell ⟨rb,3,none⟩ (.bool true)) rb s.setBad:=by
 obtain⟨vL,vR,vM,vF,vI,vC,vW,vU,vS,ks,h1,h2,h3,h4⟩:=h;exact⟨vL,vR,vM,vF,vI,vC,vW,vU,vS,ks,heap_setCell_same h1 _,h2.setCell AA _,h3,h4.setCell (Nat.lt_succ_self _) _⟩
theorem RdAt.setNames(n:Nat):RdAt (w.setCell ⟨rb,5,none⟩ (.int .i64 (n:Int))) rb {s with names:=n}:=by
 obtain⟨vL,vR,vM,vF,vI,vC,vW,vU,vS,ks,h1,h2,h3,h4⟩:=h;exact⟨vL,vR,vM,vF,vI,vC,vW,vU,vS,ks,heap_setCell_same h1 _,h2.setCell AA _,h3,h4.setCell (Nat.lt_succ_self _) _⟩
theorem RdAt.setLevel(n:Nat):RdAt (w.setCell ⟨rb,13,none⟩ (.int .i64 (n:Int))) rb {s with level:=n}:=by
 obtain⟨vL,vR,vM,vF,vI,vC,vW,vU,vS,ks,h1,h2,h3,h4⟩:=h;exact⟨vL,vR,vM,vF,vI,vC,vW,vU,vS,ks,heap_setCell_same h1 _,h2.setCell AA _,h3,h4.setCell (Nat.lt_succ_self _) _⟩
theorem RdAt.toks:∃a c,w.cell? ⟨rb,0,none⟩=some (.slice a s.L.length c)∧Sl w rb (.slice a s.L.length c) s.L.length (s.L.flatMap BH):=by
 obtain⟨vL,vR,vM,vF,vI,vC,vW,vU,vS,ks,h1,h2,h3,h4⟩:=h;have hc:=AJ w rb 0 _ _ (0,0) h1;obtain⟨a,c,rfl⟩:=h2.form;exact⟨a,c,hc,h2⟩
end
end Go.Proofs.YtijhlanclfajiaaGreatDoor
