/-
  A part of the proof.
-/
import Derived.Lib.Hide
import Derived.WalkSmall
import Derived.Test.YtijhlanclfajiaaGreatDoorKiAA
set_option linter.all false
namespace Go.Proofs.YtijhlanclfajiaaGreatDoor
theorem zz{p:Prop}(h:p):Go.RowKit.Hid p:=h
open Go.RowKit
theorem DJ{a b:Int}(h:a=b):Ending.returned (.int .i64 a)= .returned (.int .i64 b):=by rw[h]
theorem AQ{a b:Bool}(h:a=b):Ending.returned (.bool a)= .returned (.bool b):=by rw[h]
@[reducible] def strV(s:List UInt8):Value:= .string ⟨s.toArray⟩
@[reducible] def idV(n:Nat):Value:= .int .u64 (n:Int)
@[simp,go_sem] theorem ZN(l:List UInt8)(k:Nat)(h:k < (ByteArray.mk l.toArray).size):(ByteArray.mk l.toArray)[k]'h=l[k]'(by simpa[ByteArray.size] using h):=rfl
attribute [go_sem] ByteArray.extract_mk
def Sl(w:World)(B:Nat)(v:Value)(n:Nat)(xs:List Value):Prop:=
 ∃a c,v= .slice a n c∧(0 < xs.length→∃b o,a=some ⟨b,o,none⟩∧b < B∧∀j,(h:j < xs.length)→w.cell? ⟨b,o+j,none⟩=some xs[j])
theorem Sl.keep{w w':World}{B:Nat}{v:Value}{n:Nat}{xs:List Value}(h:Sl w B v n xs)(hk:∀p:Addr,p.block < B→w'.cell? p=w.cell? p):Sl w' B v n xs:=by
 obtain⟨a,c,hv,hc⟩:=h;refine⟨a,c,hv,fun hn=> ?_⟩;obtain⟨b,o,ha,hb,hx⟩:=hc hn;exact⟨b,o,ha,hb,fun j hj=>(hk _ hb).trans (hx j hj)⟩
theorem Sl.more{w:World}{B B':Nat}{v:Value}{n:Nat}{xs:List Value}(h:Sl w B v n xs)(hB:B≤B'):Sl w B' v n xs:=by
 obtain⟨a,c,hv,hc⟩:=h;refine⟨a,c,hv,fun hn=> ?_⟩;obtain⟨b,o,ha,hb,hx⟩:=hc hn;exact⟨b,o,ha,by omega,hx⟩
theorem Sl.below{w w':World}{B B':Nat}{v:Value}{n:Nat}{xs:List Value}(h:Sl w B v n xs)(hb:Below B' w w')(hB:B≤B'):Sl w' B v n xs:=
 h.keep fun p hp=>hb.cell (by omega)
theorem Sl.alloc{w:World}{B:Nat}{v:Value}{n:Nat}{xs:List Value}(h:Sl w B v n xs)(hB:B≤w.heap.size)(o:Obj):Sl (w.alloc o) B v n xs:=
 h.below ((Below.refl w.heap.size w).alloc AA o) hB
theorem Sl.nil(w:World)(B:Nat):Sl w B (.slice none 0 0) 0 []:=⟨none,0,rfl,fun h=>absurd h (by simp)⟩
theorem Sl.Ai{w:World}{base:Nat}{e:TypeId}{size:Nat}{v:Value}{n:Nat}{xs:List Value}(h:w.ownsRow base e size v n xs):Sl w w.heap.size v n xs:=by
 rcases h.2 with⟨hv,hn⟩|⟨g,cap,cur,hv,hb,hg,hnc,hm,hs,ht⟩
 ·subst hv;subst hn
  have:xs=[]:=List.eq_nil_of_length_eq_zero (by simpa using h.1);subst this;exact Sl.nil _ _
 ·subst hv
  refine⟨_,_,rfl,fun _=>⟨g,0,rfl,(Ab.1 hg).1,fun j hj=> ?_⟩⟩;have:=h.cells (g:=g) rfl j xs[j] (AX hj);have hadd:(⟨g,0,none⟩:Addr).add j=⟨g,0+j,none⟩:=by unfold Addr.add;split <;>simp_all
  rw[hadd] at this;exact this
theorem Ao(w:World)(cs:List Value)(t:TypeId):∀j u,cs[j]? =some u→(w.alloc (.cells cs.toArray t)).cell? ((⟨w.heap.size,0,none⟩:Addr).add j)=some u:=by
 intro j u hj;have hadd:(⟨w.heap.size,0,none⟩:Addr).add j=⟨w.heap.size,j,none⟩:=by unfold Addr.add;split <;>simp_all
 rw[hadd,cell_of_row (w.alloc (.cells cs.toArray t)) w.heap.size j cs.toArray t (0,0) (heap_alloc_new w _)];simpa using hj
def BH(t:Hg.Tok):List Value:=[.int .u8 (t.kind:Int),strV t.text,.int .i64 (t.pos:Int)]
theorem PG(l:List Hg.Tok):(l.flatMap BH).length=l.length*3:=by
 induction l with
 |nil=>rfl
 |cons t l ih=>rw[List.flatMap_cons,List.length_append,ih];simp[BH];omega
theorem J2:∀(l:List Hg.Tok) (k j:Nat) (t:Hg.Tok),l[k]? =some t→j < 3→(l.flatMap BH)[k*3+j]? =(BH t)[j]?
 |t0::l,0,j,t,h,hj=>by
   simp only[List.getElem?_cons_zero,Option.some.injEq] at h;subst h;rw[List.flatMap_cons,List.getElem?_append_left (by simp[BH];omega)];simp
 |t0::l,k+1,j,t,h,hj=>by
   simp only[List.getElem?_cons_succ] at h;rw[List.flatMap_cons,List.getElem?_append_right (by simp[BH];omega),←J2 l k j t h hj]
   congr 1
   simp[BH];omega
 |[],k,j,t,h,hj=>by simp at h
theorem Sl.tokAt{w:World}{B n c:Nat}{a:Option Addr}{l:List Hg.Tok}(h:Sl w B (.slice a n c) l.length (l.flatMap BH)){k:Nat}{t:Hg.Tok}(ht:l[k]? =some t):
 ∃b o,a=some ⟨b,o,none⟩∧b < B∧w.cell? ⟨b,o+k*3,none⟩=some (.int .u8 (t.kind:Int))∧w.cell? ⟨b,o+k*3+1,none⟩=some (strV t.text)∧w.cell? ⟨b,o+k*3+2,none⟩=some (.int .i64 (t.pos:Int)):=by
 obtain⟨a',c',hv,hc⟩:=h;injection hv with h1 h2 h3;subst h1;have hk:k < l.length:=(Af.1 ht).1;obtain⟨b,o,ha,hb,hx⟩:=hc (by rw[PG];omega);have cell:∀j u,j < 3→(BH t)[j]? =some u→w.cell? ⟨b,o+(k*3+j),none⟩=some u:=by
  intro j u hj hu;have h1:=J2 l k j t ht hj;rw[hu] at h1;obtain⟨hlt,he⟩:=Af.1 h1;rw[hx _ hlt,he]
 exact⟨b,o,ha,hb,cell 0 _ (by omega) rfl,cell 1 _ (by omega) rfl,cell 2 _ (by omega) rfl⟩
def Ap(r:Hg.Row)(kv:Value):List Value:=
 [.int .u64 (r.id:Int),.int .u8 (r.node.kind:Int),strV r.node.name,.int .i64 r.node.num,.int .u8 (r.node.type:Int),.int .u64 (r.node.ref:Int),kv]
def Aa:List Hg.Row→List Value→List Value
 |r::rs,k::ks=>Ap r k++Aa rs ks
 |_,_=>[]
theorem GR:∀(rs:List Hg.Row) (ks:List Value),ks.length=rs.length→(Aa rs ks).length=rs.length*7
 |[],[],_=>rfl
 |r::rs,k::ks,h=>by
   have:=GR rs ks (by simpa using h);simp only[Aa,List.length_append,this,List.length_cons];simp only[Ap,List.length_cons,List.length_nil];omega
theorem Eh:∀(rs:List Hg.Row) (ks:List Value) (k j:Nat) (r:Hg.Row) (kv:Value),rs[k]? =some r→ks[k]? =some kv→j < 7→
 (Aa rs ks)[k*7+j]? =(Ap r kv)[j]?
 |r0::rs,k0::ks,0,j,r,kv,hr,hk,hj=>by
   simp only[List.getElem?_cons_zero,Option.some.injEq] at hr hk;subst hr;subst hk;simp only[Aa,Nat.zero_mul,Nat.zero_add];rw[List.getElem?_append_left (by simp[Ap];omega)]
 |r0::rs,k0::ks,k+1,j,r,kv,hr,hk,hj=>by
   simp only[List.getElem?_cons_succ] at hr hk;have:=Eh rs ks k j r kv hr hk hj;simp only[Aa];rw[List.getElem?_append_right (by simp[Ap];omega)];rw[←this]
   congr 1
   simp[Ap];omega
 |[],_,k,j,r,kv,hr,hk,hj=>by simp at hr
 |_::_,[],k,j,r,kv,hr,hk,hj=>by simp at hk
def Aw(w:World)(B:Nat)(v:Value)(rows:List Hg.Row):Prop:=
 ∃ks:List Value,ks.length=rows.length∧Sl w B v rows.length (Aa rows ks)∧
   ∀(k:Nat) (r:Hg.Row) (kv:Value),rows[k]? =some r→ks[k]? =some kv→Sl w B kv r.node.kids.length (r.node.kids.map idV)
theorem Aw.keep{w w':World}{B:Nat}{v:Value}{rows:List Hg.Row}(h:Aw w B v rows)(hk:∀p:Addr,p.block < B→w'.cell? p=w.cell? p):Aw w' B v rows:=by
 obtain⟨ks,hl,hs,hkids⟩:=h;exact⟨ks,hl,hs.keep hk,fun k r kv hr hv=>(hkids k r kv hr hv).keep hk⟩
theorem Aw.more{w:World}{B B':Nat}{v:Value}{rows:List Hg.Row}(h:Aw w B v rows)(hB:B≤B'):Aw w B' v rows:=by
 obtain⟨ks,hl,hs,hkids⟩:=h;exact⟨ks,hl,hs.more hB,fun k r kv hr hv=>(hkids k r kv hr hv).more hB⟩
theorem Aw.below{w w':World}{B B':Nat}{v:Value}{rows:List Hg.Row}(h:Aw w B v rows)(hb:Below B' w w')(hB:B≤B'):Aw w' B v rows:=
 h.keep fun p hp=>hb.cell (by omega)
theorem Aw.open_{w:World}{B:Nat}{v:Value}{rows:List Hg.Row}(h:Aw w B v rows):
 ∃a c,v= .slice a rows.length c∧(0 < rows.length→∃b o,a=some ⟨b,o,none⟩∧b < B∧∀k r,rows[k]? =some r→
   ∃ka kc,Sl w B (.slice ka r.node.kids.length kc) r.node.kids.length (r.node.kids.map idV)∧
     w.cell? ⟨b,o+k*7,none⟩=some (.int .u64 (r.id:Int))∧w.cell? ⟨b,o+k*7+1,none⟩=some (.int .u8 (r.node.kind:Int))∧
     w.cell? ⟨b,o+k*7+2,none⟩=some (strV r.node.name)∧w.cell? ⟨b,o+k*7+3,none⟩=some (.int .i64 r.node.num)∧
     w.cell? ⟨b,o+k*7+4,none⟩=some (.int .u8 (r.node.type:Int))∧w.cell? ⟨b,o+k*7+5,none⟩=some (.int .u64 (r.node.ref:Int))∧
     w.cell? ⟨b,o+k*7+6,none⟩=some (.slice ka r.node.kids.length kc)):=by
 obtain⟨ks,hl,⟨a,c,hv,hc⟩,hkids⟩:=h;refine⟨a,c,hv,fun hn=> ?_⟩;have hlen:=GR rows ks hl;obtain⟨b,o,ha,hb,hx⟩:=hc (by omega);refine⟨b,o,ha,hb,fun k r hr=> ?_⟩;have hk:k < rows.length:=(Af.1 hr).1;have hkv:ks[k]? =some (ks[k]'(by omega)):=AX (by omega);have cell:∀j u,j < 7→(Ap r (ks[k]'(by omega)))[j]? =some u→w.cell? ⟨b,o+(k*7+j),none⟩=some u:=by
  intro j u hj hu;have h1:=Eh rows ks k j r _ hr hkv hj;rw[hu] at h1;obtain⟨hlt,he⟩:=Af.1 h1;rw[hx _ hlt,he]
 have hkid:=hkids k r _ hr hkv;obtain⟨ka,kc,hkv2,_⟩:=hkid;have hkid:=hkids k r _ hr hkv;rw[hkv2] at hkid;refine⟨ka,kc,hkid, ?_, ?_, ?_, ?_, ?_, ?_, ?_⟩
 ·exact cell 0 _ (by omega) rfl
 ·exact cell 1 _ (by omega) rfl
 ·exact cell 2 _ (by omega) rfl
 ·exact cell 3 _ (by omega) rfl
 ·exact cell 4 _ (by omega) rfl
 ·exact cell 5 _ (by omega) rfl
 ·exact cell 6 _ (by omega) (by rw[hkv2];rfl)
theorem Sl.ids{w:World}{B:Nat}{v:Value}{l:List Nat}(h:Sl w B v l.length (l.map idV)):
 ∃a c,v= .slice a l.length c∧(0 < l.length→∃b o,a=some ⟨b,o,none⟩∧b < B∧∀k,(h:k < l.length)→w.cell? ⟨b,o+k,none⟩=some (.int .u64 (l[k]:Int))):=by
 obtain⟨a,c,hv,hc⟩:=h;refine⟨a,c,hv,fun hn=> ?_⟩;obtain⟨b,o,ha,hb,hx⟩:=hc (by simpa using hn);exact⟨b,o,ha,hb,fun k hk=>by have:=hx k (by simpa using hk);simpa using this⟩
theorem Aw.form{w:World}{B:Nat}{v:Value}{l:List Hg.Row}(h:Aw w B v l):∃a c,v= .slice a l.length c:=by
 obtain⟨a,c,hv,_⟩:=h.open_;exact⟨a,c,hv⟩
theorem Aw.at_{w:World}{B n c:Nat}{a:Option Addr}{l:List Hg.Row}(h:Aw w B (.slice a n c) l){k:Nat}{r:Hg.Row}(hr:l[k]? =some r):
 ∃b o ka kc,a=some ⟨b,o,none⟩∧b < B∧Sl w B (.slice ka r.node.kids.length kc) r.node.kids.length (r.node.kids.map idV)∧
     w.cell? ⟨b,o+k*7,none⟩=some (.int .u64 (r.id:Int))∧w.cell? ⟨b,o+k*7+1,none⟩=some (.int .u8 (r.node.kind:Int))∧
     w.cell? ⟨b,o+k*7+2,none⟩=some (strV r.node.name)∧w.cell? ⟨b,o+k*7+3,none⟩=some (.int .i64 r.node.num)∧
     w.cell? ⟨b,o+k*7+4,none⟩=some (.int .u8 (r.node.type:Int))∧w.cell? ⟨b,o+k*7+5,none⟩=some (.int .u64 (r.node.ref:Int))∧
     w.cell? ⟨b,o+k*7+6,none⟩=some (.slice ka r.node.kids.length kc):=by
 obtain⟨a',c',hv,hc⟩:=h.open_;injection hv with h1 h2 h3;subst h1;have hk:k < l.length:=(Af.1 hr).1;obtain⟨b,o,ha,hb,hcell⟩:=hc (by omega);obtain⟨ka,kc,h⟩:=hcell k r hr;exact⟨b,o,ka,kc,ha,hb,h⟩
theorem Sl.idAt{w:World}{B n c:Nat}{a:Option Addr}{l:List Nat}(h:Sl w B (.slice a n c) l.length (l.map idV)){k:Nat}(hk:k < l.length):
 ∃b o,a=some ⟨b,o,none⟩∧b < B∧w.cell? ⟨b,o+k,none⟩=some (.int .u64 (l[k]:Int)):=by
 obtain⟨a',c',hv,hc⟩:=h.ids;injection hv with h1 h2 h3;subst h1;obtain⟨b,o,ha,hb,hcell⟩:=hc (by omega);exact⟨b,o,ha,hb,hcell k hk⟩
theorem Sl.len{w:World}{B n m c:Nat}{a:Option Addr}{xs:List Value}(h:Sl w B (.slice a n c) m xs):n=m:=by
 obtain⟨a',c',hv,_⟩:=h;injection hv
theorem Sl.form{w:World}{B n:Nat}{v:Value}{xs:List Value}(h:Sl w B v n xs):∃a c,v= .slice a n c:=by
 obtain⟨a',c',hv,_⟩:=h;exact⟨a',c',hv⟩
theorem Sl.strAt{w:World}{B n c:Nat}{a:Option Addr}{l:List (List UInt8)}(h:Sl w B (.slice a n c) l.length (l.map strV)){k:Nat}(hk:k < l.length):
 ∃b o,a=some ⟨b,o,none⟩∧b < B∧w.cell? ⟨b,o+k,none⟩=some (.string ⟨l[k].toArray⟩):=by
 obtain⟨a',c',hv,hc⟩:=h;injection hv with h1 h2 h3;subst h1;obtain⟨b,o,ha,hb,hx⟩:=hc (by simp;omega);exact⟨b,o,ha,hb,by have:=hx k (by simpa using hk);simpa using this⟩
theorem Sl.new(w:World)(t:TypeId)(n:Nat)(cs:Array Value):Sl (w.alloc (.cells cs t)) (w.heap.size+1) (.slice (some ⟨w.heap.size,0,none⟩) n n) n cs.toList:=by
 refine⟨_,_,rfl,fun _=>⟨w.heap.size,0,rfl,by omega,fun j hj=> ?_⟩⟩;have:=cell_of_row (w.alloc (.cells cs t)) w.heap.size j cs t (0,0) (heap_alloc_new w _);simp only[Nat.zero_add];rw[this];simp only[Array.length_toList] at hj
 simp[hj]
end Go.Proofs.YtijhlanclfajiaaGreatDoor
namespace Go.Proofs.YtijhlanclfajiaaGreatDoor
open Go.RowKit
theorem AP{n:Nat}{w:World}:Below n w w:=Below.refl n w
abbrev AJ:= @cell_of_row
abbrev AZ:= @heap_alloc_new
end Go.Proofs.YtijhlanclfajiaaGreatDoor
