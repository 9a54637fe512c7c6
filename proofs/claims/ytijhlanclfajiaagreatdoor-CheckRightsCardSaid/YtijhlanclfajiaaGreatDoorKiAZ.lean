/-
  A part of the proof.
-/
import Derived.Test.YtijhlanclfajiaaGreatDoorKiAT
import Derived.Test.YtijhlanclfajiaaGreatDoorKiAX
import Derived.Lib.AppendIntMem
set_option linter.all false
set_option maxHeartbeats 32000000
set_option maxRecDepth 100000
namespace Go.Proofs.YtijhlanclfajiaaGreatDoor
open Go.RowKit
def TabP(w:World):Prop:=Go.Lib.TabIs Tryz.prog w "internal/strconv.uint64pow10" .u64 Go.Lib.pow10Tab
theorem gPow:Tryz.prog.globalNamed "internal/strconv.uint64pow10"=some 3:=by kernel_rfl
theorem TabP.lt{w:World}(h:TabP w):3 < w.heap.size:=by
 unfold TabP Go.Lib.TabIs at h;cases hx:w.heap[3]? with
 |some o=>exact(Ab.1 hx).1
 |none=>
   exfalso;simp only[World.var?,gPow,Option.bind_eq_bind,Option.bind_some] at h;rw[hx] at h;simp at h
theorem TabP.block{w w':World}(h:TabP w)(hb:w'.heap[3]? =w.heap[3]?):TabP w':=by
 unfold TabP Go.Lib.TabIs at h⊢;rw[←h];simp only[World.var?,gPow,Option.bind_eq_bind,Option.bind_some];rw[hb]
theorem Jo(w:World)(o:Obj)(cs:List Value)(t:TypeId):∀j u,cs[j]? =some u→((w.alloc o).alloc (.cells cs.toArray t)).cell? ((⟨w.heap.size+1,0,none⟩:Addr).add j)=some u:=by
 have h:=Ao (w.alloc o) cs t;simpa using h
theorem Ky{W W':World}{o:Obj}(h:W.alloc o=W'):Below W.heap.size W W'∧W'.heap[W.heap.size]? =some o∧W'.heap.size=W.heap.size+1:=by
 subst h;exact⟨(AP).alloc AA _,AZ W o,by simp⟩
structure Fr (D:Nat→Prop) (w w':World):Prop where
 os:w'.os=w.os
 tape:w'.tape=w.tape
 output:w'.output=w.output
 size:w.heap.size≤w'.heap.size
 block:∀i,i < w.heap.size→¬D i→w'.heap[i]? =w.heap[i]?
namespace Fr
variable {D D':Nat→Prop} {w w1 w2 w':World}
theorem refl(D:Nat→Prop)(w:World):Fr D w w:=⟨rfl,rfl,rfl,AA,fun _ _ _=>rfl⟩
theorem trans(h:Fr D w w1)(h':Fr D w1 w2):Fr D w w2:=
 ⟨h'.os.trans h.os,h'.tape.trans h.tape,h'.output.trans h.output,AO h.size h'.size,fun i hi hd=>(h'.block i (Ae hi h.size) hd).trans (h.block i hi hd)⟩
theorem imp(h:Fr D w w')(hd:∀q,q < w.heap.size→D q→D' q):Fr D' w w':=⟨h.os,h.tape,h.output,h.size,fun i hi hn=>h.block i hi (fun e=>hn (hd i hi e))⟩
theorem EQ{row:Option Nat}(h:w.grownBy w' row)(hd:∀q,row=some q→D q):Fr D w w':=⟨h.os,h.tape,h.output,h.size,fun i hi hn=>h.block i hi (fun e=>hn (hd i e.symm))⟩
theorem of_below(h:Below w.heap.size w w'):Fr D w w':=⟨h.os,h.tape,h.output,h.size,fun i hi _=>h.block i hi⟩
theorem step(h:Fr D w w1){row:Option Nat}(h':w1.grownBy w2 row)(hd:∀q,row=some q→D q∨w.heap.size≤q):Fr D w w2:=
 ⟨h'.os.trans h.os, h'.tape.trans h.tape, h'.output.trans h.output, AO h.size h'.size, fun i hi hn => (h'.block i (Ae hi h.size) (fun e => by
  rcases hd i e.symm with h|h
  ·exact hn h
  ·omega)).trans (h.block i hi hn)⟩
theorem E8(h:Fr D w w1)(h':Fr D' w1 w2)(hd:∀q,q < w.heap.size→D' q→D q):Fr D w w2:=
 ⟨h'.os.trans h.os,h'.tape.trans h.tape,h'.output.trans h.output,AO h.size h'.size,fun i hi hn=>(h'.block i (Ae hi h.size) (fun e=>hn (hd i hi e))).trans (h.block i hi hn)⟩
theorem set(h:Fr D w w1){p:Addr}(hp:D p.block∨w.heap.size≤p.block)(u:Value):Fr D w (w1.setCell p u):=
 ⟨h.os, h.tape, h.output, by simpa using h.size, fun i hi hn => (Below.heap_setCell w1 p u i (fun e => by
  rcases hp with hp|hp
  ·exact hn (e ▸ hp)
  ·omega)).trans (h.block i hi hn)⟩
theorem alloc(h:Fr D w w1)(o:Obj):Fr D w (w1.alloc o):=h.E8 (D':=fun _=>False) (of_below ((AP).alloc AA o)) (fun _ _ h=>h.elim)
theorem drew(h:Fr D w w1):Fr D w w1.drew:=⟨h.os,h.tape,h.output,h.size,h.block⟩
theorem below(h:Fr D w w')(hd:∀q,q < w.heap.size→¬D q):Below w.heap.size w w':=⟨h.os,h.tape,h.output,h.size,fun i hi=>h.block i hi (hd i hi)⟩
theorem at_(h:Fr D w w'){i:Nat}{o:Obj}(hh:w.heap[i]? =some o)(hd:¬D i):w'.heap[i]? =some o:=(h.block i (Ab.1 hh).1 hd).trans hh
theorem cell(h:Fr D w w'){p:Addr}(hp:p.block < w.heap.size)(hd:¬D p.block):w'.cell? p=w.cell? p:=World.cell?_of_block (h.block _ hp hd)
end Fr
theorem Sl.fr{D:Nat→Prop}{w w':World}{B:Nat}{v:Value}{n:Nat}{xs:List Value}(h:Sl w B v n xs)(hB:B≤w.heap.size)(hf:Fr D w w')(hd:∀q,v.ownBlock=some q→¬D q):Sl w' B v n xs:=by
 obtain⟨a,c,hv,hc⟩:=h;refine⟨a,c,hv,fun hn=> ?_⟩;obtain⟨b,o,ha,hb,hx⟩:=hc hn;have hnd:¬D b:=hd b (by rw[hv,ha];rfl);exact⟨b,o,ha,hb,fun j hj=>(hf.cell (p:=⟨b,o+j,none⟩) (Ae hb hB) hnd).trans (hx j hj)⟩
theorem Sl.mapAt{α:Type}{f:α→Value}{w:World}{B n c:Nat}{a:Option Addr}{l:List α}(h:Sl w B (.slice a n c) l.length (l.map f)){k:Nat}(hk:k < l.length):
 ∃b o,a=some ⟨b,o,none⟩∧b < B∧w.cell? ⟨b,o+k,none⟩=some (f l[k]):=by
 obtain⟨a',c',hv,hc⟩:=h;injection hv with h1 h2 h3;subst h1;obtain⟨b,o,ha,hb,hx⟩:=hc (by simp;omega);refine⟨b,o,ha,hb, ?_⟩;have:=hx k (by simpa using hk);simpa using this
end Go.Proofs.YtijhlanclfajiaaGreatDoor
namespace Hg
def gl{α β:Type} [BEq α](M:List (α×β))(x:α):Option β:=(M.find? (·.1==x)).map (·.2)
theorem Cn{α β:Type} [BEq α](k:α)(v:β)(M:List (α×β))(x:α):gl ((k,v)::M) x=if k==x then some v else gl M x:=by
 unfold gl;rw[List.find?_cons];by_cases h:(k==x)=true
 ·simp[h]
 ·simp[h]
theorem ZE{α β γ:Type} [BEq α](f:β→γ)(M:List (α×β))(x:α):gl (M.map fun p=>(p.1,f p.2)) x=(gl M x).map f:=by
 induction M with
 |nil=>rfl
 |cons p M ih=>
   rw[List.map_cons,Cn,ih];obtain⟨k,v⟩:=p;rw[Cn];by_cases h:(k==x)=true
   ·simp[h]
   ·simp[h]
theorem W9{α β:Type} [BEq α] [LawfulBEq α](v:β)(K:List α)(x:α):gl (K.map fun k=>(k,v)) x=if x∈K then some v else none:=by
 induction K with
 |nil=>rfl
 |cons k K ih=>
   rw[List.map_cons,Cn,ih];by_cases h:k=x
   ·subst h;simp
   ·have h2:(k==x)=false:=by simpa using h
    rw[h2]
    simp[List.mem_cons,show x≠k from fun e=>h e.symm]
end Hg
namespace Go.Proofs.YtijhlanclfajiaaGreatDoor
open Go.RowKit
open Hg (gl)
def XMap{α:Type} [BEq α](k:TypeId)(enc:α→Value)(w:World)(b:Nat)(M:List (α×Value)):Prop:=
 ∃n D,n≤M.length∧w.ownsMap Tryz.prog k rawR b n D∧∀x l,keyOf Tryz.prog k (enc x)=some l→match gl M x with|none=>Maps.has D l=false|some v=>∀z,D.atKey l z= .held v
section
variable {α:Type} [BEq α] [LawfulBEq α] {k t e:TypeId} {enc:α→Value} {w w':World} {b:Nat} {M:List (α×Value)}
theorem XMap.made(k:TypeId)(enc:α→Value)(w:World):XMap k enc (w.alloc (.map #[] 0)) w.heap.size []:=
 ⟨0,_,AA,World.ownsMap_made w _ _ _,fun _ _ _=>rfl⟩
theorem XMap.lt(h:XMap k enc w b M):b < w.heap.size:=by
 obtain⟨_,D,_,ho,_⟩:=h;exact ho.lt
theorem XMap.keep(h:XMap k enc w b M)(hh:w'.heap[b]? =w.heap[b]?):XMap k enc w' b M:=by
 obtain⟨n,D,hn,ho,hs⟩:=h;obtain⟨es,clock,hb,F,hs',hD⟩:=ho;exact⟨n,D,hn,⟨es,clock,hh.trans hb,F,hs',hD⟩,hs⟩
theorem XMap.obj(h:XMap k enc w b M):∃es clock,w.heap[b]? =some (.map es clock):=by
 obtain⟨_,D,_,ho,_⟩:=h;exact M4 ho
theorem XMap.fr{D:Nat→Prop}(h:XMap k enc w b M)(hf:Fr D w w')(hd:¬D b):XMap k enc w' b M:=h.keep (hf.block b h.lt hd)
theorem XMap.look(h:XMap k enc w b M)(hk:Maps.Keyed Tryz.prog k)(ht:(Tryz.prog).underlying t=some (.map k e)){z:Value}(hz:(zeroValue e).run Tryz.prog w= .ok z w){x:α}(hl:∃l,keyOf Tryz.prog k (enc x)=some l):
 (Instr.lookup t (.map (some b)) (enc x) false).run Tryz.prog w= .ok ((gl M x).getD z) w:=by
 obtain⟨n,D,hn,ho,hs⟩:=h;obtain⟨l,hl⟩:=hl;obtain⟨v,ps,hrun,hv⟩:=ho.lookup hk ht hz (zd:= .held z) (zp:=[]) rfl hl;have hx:=hs x l hl;simp only[rawR,Option.some.injEq,Prod.mk.injEq] at hv;cases hg:gl M x with
 |none=>
   rw[hg] at hx;rw[Maps.atKey_of_not_has hx] at hv;have e:v=z:=by simpa using hv.1
   rw[hrun,e];rfl
 |some u=>
   rw[hg] at hx;rw[hx] at hv;have e:v=u:=by simpa using hv.1
   rw[hrun,e];rfl
theorem XMap.look_ok(h:XMap k enc w b M)(hk:Maps.Keyed Tryz.prog k)(ht:(Tryz.prog).underlying t=some (.map k e)){z:Value}(hz:(zeroValue e).run Tryz.prog w= .ok z w){x:α}(hl:∃l,keyOf Tryz.prog k (enc x)=some l):
 (Instr.lookup t (.map (some b)) (enc x) true).run Tryz.prog w= .ok (.tuple #[(gl M x).getD z,.bool (gl M x).isSome]) w:=by
 obtain⟨n,D,hn,ho,hs⟩:=h;obtain⟨l,hl⟩:=hl;obtain⟨v,ps,hrun,hv⟩:=ho.look_ok hk ht hz (zd:= .held z) (zp:=[]) rfl hl;have hx:=hs x l hl;simp only[rawR,Option.some.injEq,Prod.mk.injEq] at hv;cases hg:gl M x with
 |none=>
   rw[hg] at hx;have hx':Maps.has D l=false:=hx;rw[Maps.atKey_of_not_has hx'] at hv;have e:v=z:=by simpa using hv.1
   rw[hrun,hx',e];rfl
 |some u=>
   rw[hg] at hx;have hx':∀z,D.atKey l z= .held u:=hx;rw[hx'] at hv;have e:v=u:=by simpa using hv.1
   rw[hrun,Maps.has_true_of_atKey hx',e];rfl
theorem XMap.put(h:XMap k enc w b M)(hk:Maps.Keyed Tryz.prog k)(ht:(Tryz.prog).underlying t=some (.map k e))(hinj:∀x y,enc x=enc y→x=y)(hM:M.length≤1000000)(x:α)(hl:∃l,keyOf Tryz.prog k (enc x)=some l)(v:Value):
 ∃w',(Instr.mapUpdate t (.map (some b)) (enc x) v).run Tryz.prog w= .ok () w'∧XMap k enc w' b ((x,v)::M)∧w.grownBy w' (some b):=by
 obtain⟨n,D,hn,ho,hs⟩:=h;obtain⟨l,hl⟩:=hl;obtain⟨w',hrun,ho',hg⟩:=ho.update hk ht (by unfold maxLen;omega) hl (val:=v) (d:= .held v) (ps:=[]) rfl;have hkey:WideAt.IsKeyLit l:=hk.key hl;have htid:=ho.tidy hk;refine⟨w',hrun,⟨_,_, ?_,ho',fun y ly hly=> ?_⟩,hg⟩
 ·simp;omega
 ·rw[Hg.Cn]
  by_cases e:x=y
  ·subst e
   have:ly=l:=by rw[hly] at hl;exact Option.some.inj hl
   subst this;rw[if_pos (by simp)];exact fun z=>Maps.atKey_put_same htid.isMap hkey _ _
  ·rw[if_neg (by simpa using e)]
   have hne:ly≠l:=fun e2=>e (hinj _ _ (hk.inj (e2 ▸ hly) hl)).symm;have hx:=hs y ly hly;cases hg:gl M y with
   |none=>
     rw[hg] at hx;show Maps.has _ _=false;rw[Maps.has_put_other hne];exact hx
   |some u=>
     rw[hg] at hx;intro z;rw[Maps.atKey_put_other hne];exact hx z
end
open Hg (gl)
theorem Fx{w:World}{base n q size:Nat}{e:TypeId}{v:Value}{xs:List Value}(h:w.ownsRow base e size v n xs){es:Array MapEntry}{ck:Nat}(hh:w.heap[q]? =some (.map es ck)):v.ownBlock=none∨v.ownBlock≠some q:=by
 obtain⟨_,h2⟩:=h;rcases h2 with⟨h0,_⟩|⟨g,cap,cur,hv,hg,hh',_⟩
 ·exact .inl (by rw[h0];rfl)
 ·refine .inr (fun e=> ?_)
  rw[hv] at e;injection e with e;have e:g=q:=e;subst e;rw[hh] at hh';cases hh'
open Hg (gl)
theorem Aq{S:Nat→Prop}{w w':World}{base:Nat}{e:TypeId}{size:Nat}{v:Value}{n:Nat}{xs:List Value}(h:w.ownsRow base e size v n xs)(hf:Fr S w w')(hb:∀q,v.ownBlock=some q→¬S q):w'.ownsRow base e size v n xs:=by
 obtain⟨h1,h2⟩:=h;refine⟨h1, ?_⟩;rcases h2 with h2|⟨g,cap,cur,hv,hg,hh,h3⟩
 ·exact .inl h2
 ·exact .inr ⟨g,cap,cur,hv,hg,hf.at_ hh (hb g (by rw[hv];rfl)),h3⟩
end Go.Proofs.YtijhlanclfajiaaGreatDoor
namespace Hg
def rowM(rows:List Row):Nat→Option Node:=fun id=>(rows.find? (fun r=>r.id==id)).map Row.node
theorem Q4:∀(rows:List Row),(rows.map Row.id).Nodup→∀r∈rows,rows.find? (fun x=>x.id==r.id)=some r
 |[],_,r,h=>by simp at h
 |x::rows,hn,r,h=>by
   rw[List.map_cons,List.nodup_cons] at hn;rw[List.find?_cons];rcases List.mem_cons.1 h with h|h
   ·subst h;simp
   ·have:(x.id==r.id)=false:=by
     simp only[beq_eq_false_iff_ne,ne_eq];intro e;exact hn.1 (by rw[e];exact List.mem_map.2 ⟨r,h,rfl⟩)
    rw[this];exact Q4 rows hn.2 r h
end Hg
namespace Go.Proofs.YtijhlanclfajiaaGreatDoor
open Go.RowKit
open Hg (GT gl)
theorem Cv{w:World}{base base':Nat}{e:TypeId}{size:Nat}{v:Value}{n:Nat}{xs:List Value}(h:w.ownsRow base e size v n xs)(hb:base'≤base):w.ownsRow base' e size v n xs:=by
 obtain⟨h1,h2⟩:=h;refine⟨h1, ?_⟩;rcases h2 with h2|⟨g,cap,cur,hv,hg,h3⟩
 ·exact .inl h2
 ·exact .inr ⟨g,cap,cur,hv,AO hb hg,h3⟩
def Vj(w:World)(ids:List Nat)(e:Ending)(w':World):Prop:=
 ∃v,e= .returned v∧w'.ownsRow w.heap.size 37 1 v ids.length (ids.map idV)∧Below w.heap.size w w'
theorem Sr(B:Nat)(v:Value)(ids:List Nat)(w:World)(hB:B≤w.heap.size)(hs:Sl w B v ids.length (ids.map idV))(hl:ids.length≤1000000):
 Calls Tryz.prog 96 #[v] w (Vj w ids):=by
 obtain⟨j0,hj,hj0,hj1,hj2⟩:=info_parts Gc;obtain⟨a,c,rfl⟩:=hs.form;have HS:=zz hs;clear hs;cases a with
 |none=>
   have h0:ids=[]:=by
    obtain⟨a',c',hv,hc⟩:=HS.out;injection hv with h1 h2 h3;cases ids with
    |nil=>rfl
    |cons x xs=>obtain⟨b,o,ha,_⟩:=hc (by simp);rw[←h1] at ha;cases ha
   subst h0;have hnil:=Go.Lib.run_eql_slice_nil (P:=Tryz.prog) w 42 37 none 0 c 0 0 Tryz.underlying42;go_enter Tryz.func96,Tryz.ntmps96;go_wp2_with fail;go_ret;exact⟨.slice none 0 0,rfl,⟨rfl,.inl ⟨rfl,rfl⟩⟩,AP⟩
 |some a=>
   have hnil:=Go.Lib.run_eql_slice_nil (P:=Tryz.prog) w 42 37 (some a) ids.length c 0 0 Tryz.underlying42;go_enter Tryz.func96,Tryz.ntmps96
   go_wp2_with (at_builtin;refine Bb _ rfl (.tmp 5) (.tmp 6) _ rfl w.heap.size 37 j0 _ 8 Tryz.underlying42 hj hj0 hj1 hj2 rfl _ _ _ rfl (Di _ _ _ ?_) B _ _ _ rfl (HS.out.alloc ?_ _) ?_ (Ej _) ?_ ?_ ?_ ?_)
   ·omega
   ·omega
   ·simp
   ·unfold maxLen;omega
   ·omega
   ·simp
   intro v3 W3 own3 g3 at3
   try simp only[Nat.zero_add,List.nil_append] at own3
   have hb3:Below w.heap.size w W3:=((Below.refl w.heap.size w).alloc AA _).grown g3 (by simp) (fun k hk=>by simp[Value.ownBlock] at hk;omega);have HO3:=zz own3;have hs3:Sl W3 W3.heap.size v3 ids.length (ids.map idV):=Sl.Ai own3;obtain⟨a3,c3,rfl⟩:=hs3.form;clear hs3 own3 at3 g3;go_wp2;go_ret;exact⟨_,rfl,HO3.out,hb3⟩
def Vh(w:World)(n:Hg.Node)(e:Ending)(w':World):Prop:=
 ∃ka kc,e= .returned (ndV n ka kc)∧w'.ownsRow (w.heap.size+2) 37 1 (.slice ka n.kids.length kc) n.kids.length (n.kids.map idV)∧Below w.heap.size w w'
theorem CP{w:World}{base:Nat}{e:TypeId}{size:Nat}{v:Value}{n:Nat}{xs:List Value}(h:w.ownsRow base e size v n xs){p:Addr}(hp:p.block < base)(u:Value):(w.setCell p u).ownsRow base e size v n xs:=
 Aq h ((Fr.refl (fun q=>q=p.block) w).set (p:=p) (.inl rfl) u) (fun q e e'=>by have:=(h.lt q e).1;omega)
theorem V5{w1:World}{base g g' j:Nat}{e:TypeId}{v:Value}{n:Nat}{xs:List Value}(h:w1.ownsRow base e 1 v n xs)(hg:g < base)(hg':g' < base)(u u0 u1 u2 u3 u4 u5:Value):
 (((((((w1.setCell ⟨g',j,none⟩ u).setCell ⟨g,0,none⟩ u0).setCell ⟨g,1,none⟩ u1).setCell ⟨g,2,none⟩ u2).setCell ⟨g,3,none⟩ u3).setCell ⟨g,4,none⟩ u4).setCell ⟨g,5,none⟩ u5).ownsRow base e 1 v n xs:=
 CP (CP (CP (CP (CP (CP (CP h hg' _) hg _) hg _) hg _) hg _) hg _) hg _
theorem V6{w1:World}{base g:Nat}{e:TypeId}{v:Value}{n:Nat}{xs:List Value}(h:w1.ownsRow base e 1 v n xs)(hg:g < base)(u0 u1 u2 u3 u4 u5:Value):
 ((((((w1.setCell ⟨g,0,none⟩ u0).setCell ⟨g,1,none⟩ u1).setCell ⟨g,2,none⟩ u2).setCell ⟨g,3,none⟩ u3).setCell ⟨g,4,none⟩ u4).setCell ⟨g,5,none⟩ u5).ownsRow base e 1 v n xs:=
 CP (CP (CP (CP (CP (CP h hg _) hg _) hg _) hg _) hg _) hg _
theorem Ri(B:Nat)(n:Hg.Node)(ka:Option Addr)(kc:Nat)(w:World)(hB:B≤w.heap.size)(hs:Sl w B (.slice ka n.kids.length kc) n.kids.length (n.kids.map idV))(hl:n.kids.length≤1000000):
 Calls Tryz.prog 41 #[ndV n ka kc] w (Vh w n):=by
 have HS:=zz hs;clear hs;go_enter Tryz.func41,Tryz.ntmps41;go_wp2_with fail;refine(Sr B _ n.kids _ (by simp;omega) ((HS.out.alloc hB _).alloc (by simp;omega) _) hl).mono ?_;rintro e w1 ⟨v,rfl,ho1,hb1⟩;obtain⟨ka1,kc1,rfl⟩:=(Sl.Ai ho1).form;obtain⟨hh1,hh2,hsz,hbb⟩:=Gr hb1;have HO1:=zz (show w1.ownsRow (w.heap.size+2) 37 1 (.slice ka1 n.kids.length kc1) n.kids.length (n.kids.map idV) from by simpa using ho1);have c1:=fun i=>AJ w1 w.heap.size i _ _ (0,0) hh1;have k0:=c1 0;have k1:=c1 1;have k2:=c1 2;have k3:=c1 3;have k4:=c1 4;have k5:=c1 5;simp at k0 k1 k2 k3 k4 k5;have c2:=fun i=>AJ w1 (w.heap.size+1) i _ _ (0,0) hh2;have z0:=c2 0;have z1:=c2 1;have z2:=c2 2;have z3:=c2 3;have z4:=c2 4;have z5:=c2 5;simp at z0 z1 z2 z3 z4 z5;have f1:∀i,w1.frozen? ⟨w.heap.size,i,none⟩=false:=fun i=>by simp[World.frozen?,hh1]
 have f2:∀i,w1.frozen? ⟨w.heap.size+1,i,none⟩=false:=fun i=>by simp[World.frozen?,hh2]
 clear ho1 hb1 hh1 hh2 c1 c2;go_wp2;exact bodyPost_ret (v:=ndV n ka1 kc1) (by simp[results,Tryz.results41,go_sem,k0,k1,k2,k3,k4,k5,z0,z1,z2,z3,z4,z5,f1,f2]) rfl
  ⟨ka1,kc1,rfl,V5 HO1.out (by omega) (by omega) _ _ _ _ _ _ _,CO (hbb.setCell (p:=⟨w.heap.size,5,none⟩) AA _) (by omega) _ _ _ _ _ _⟩
def Hu(w:World)(o:Option Hg.Node)(e:Ending)(w':World):Prop:=
 ∃ka kc,e= .returned (.tuple #[ndV (o.getD Hg.Node.zero) ka kc,.bool o.isSome])∧w'.ownsRow w.heap.size 37 1 (.slice ka (o.getD Hg.Node.zero).kids.length kc) (o.getD Hg.Node.zero).kids.length ((o.getD Hg.Node.zero).kids.map idV)∧Below w.heap.size w w'
def Xl(w:World)(nd:Hg.Node)(s:Bool)(e:Ending)(w':World):Prop:=
 ∃ka kc,e= .returned (.tuple #[ndV nd ka kc,.bool s])∧w'.ownsRow w.heap.size 37 1 (.slice ka nd.kids.length kc) nd.kids.length (nd.kids.map idV)∧Below w.heap.size w w'
theorem NU(ab mb c:Nat)(M:Nat→Option Hg.Node)(id:Nat)(w:World)(hA:ArAt w ab mb c M)(hid:id < Aj):
 Calls Tryz.prog 34 #[.pointer (some ⟨ab,0,none⟩),.int .u64 (id:Int)] w (Hu w (M id)):=by
 obtain⟨c0,f0⟩:=hA.read;have hlt:=hA.lt;have hb0:∀z,Below w.heap.size w (w.alloc (.cells z 44)):=fun z=>(AP).alloc AA _;have hlen:=hA.map.len id;obtain⟨ka,kc,hlk,hks⟩:=(hA.below (hb0 #[.int .u8 0,.string ⟨#[]⟩,.int .i64 0,.int .u8 0,.int .u64 0,.slice none 0 0]) AA).map.Wh hid;refine Calls.mono (R:=Xl w ((M id).getD Hg.Node.zero) (M id).isSome) ?_ (fun e w' h=>h);generalize(M id).getD Hg.Node.zero=nd at hlk hks hlen⊢;generalize(M id).isSome=s at hlk⊢;have HS:=zz hks;clear hA hid hb0 hks;go_enter Tryz.func34,Tryz.ntmps34;go_wp2_with fail;refine(Ri _ nd ka kc _ (by simp) (HS.out.alloc AA _) hlen).mono ?_;rintro e w1 ⟨ka1,kc1,rfl,ho1,hb1⟩;obtain⟨hh1,hh2,hsz,hbb⟩:=Gr hb1;have HO1:=zz (show w1.ownsRow (w.heap.size+1) 37 1 (.slice ka1 nd.kids.length kc1) nd.kids.length (nd.kids.map idV) from Cv ho1 (by simp));have c2:=fun i=>AJ w1 w.heap.size i _ _ (0,0) hh1;have z0:=c2 0;have z1:=c2 1;have z2:=c2 2;have z3:=c2 3;have z4:=c2 4;have z5:=c2 5;simp at z0 z1 z2 z3 z4 z5;have f2:∀i,w1.frozen? ⟨w.heap.size,i,none⟩=false:=fun i=>by simp[World.frozen?,hh1]
 clear ho1 hb1 hh1 hh2 c2 hlk;go_wp2;exact bodyPost_ret (v:= .tuple #[ndV nd ka1 kc1,.bool s]) (by simp[results,Tryz.results34,go_sem,z0,z1,z2,z3,z4,z5,f2]) rfl
  ⟨ka1,kc1,rfl,Cv (V6 HO1.out (by omega) _ _ _ _ _ _) (by omega),CO hbb AA _ _ _ _ _ _⟩
end Go.Proofs.YtijhlanclfajiaaGreatDoor
namespace Go.Proofs.YtijhlanclfajiaaGreatDoor.Ev
open Go Go.RowKit
open Hg (Row rowM)
def sumP:SumF:=fun g=>
 if g=153 then some fun l h n=>match l with
  |[.v (.string b)]=>if b.size < 1000∧(b.data.toList.all fun c=>decide (c.toNat < 128))=true then FZ h n (.cells ((Go.Lib.fields b.data.toList).map fun l=> .v (.string ⟨l.toArray⟩)) 9 true) (.slc n 0 (Go.Lib.fields b.data.toList).length (Go.Lib.fields b.data.toList).length) [] else none
  |_=>none
 else if g=124 then some fun l h n=>match l with
  |[.v (.string b),.v (.int .i64 10),.v (.int .i64 64)]=>if b.size < 1000 then match Go.Lib.parseIntB 64 b.data.toList with
    | .ok v=>some (.tup [.v (.int .i64 v),.v .nilIface],h,n,[])
    |_=>none
    else none
  |_=>none
 else none
theorem WR.after{P:Program}{w0:World}{E:En}{n:Nat}{h:T AB}{w w':World}(H:WR P w0 E n h w)(hb:Below w.heap.size w w'):WR P w0 E n h w':=
 ⟨fun b ab hbb=>⟨(H.mem b ab hbb).1,by rw[hb.block _ (H.lt hbb)];exact(H.mem b ab hbb).2⟩,H.new,H.inj,H.bel.trans (hb.mono H.bel.size)⟩
theorem Te{w0:World}(hT:DX w0):Xh Tryz.prog w0 sumP:=by
 intro g f hf;unfold sumP at hf
 split at hf
 ·rename_i hg
  subst hg;cases hf;intro q args h n a h' n' ws e;dsimp only at e
  split at e
  ·rename_i hq
   subst hq
   split at e
   ·rename_i b
    split at e
    ·rename_i hc
     refine⟨⟨_,Tryz.func153,rfl,by kernel_rfl⟩,fun E w xs W hv=> ?_⟩;cases hv with|cons h1 h2=>
     cases h1;cases h2;refine(Tryz.strings_Fields b w (by omega) (We hc.2) (hT.below W.bel hT.lt)).mono ?_;rintro e w' ⟨rfl,rfl⟩;obtain⟨rfl,rfl,rfl,hW,hK,hL⟩:=GU W e (w':=w.alloc (.cells ((Lib.fields b.data.toList).map fun l=>Value.string ⟨l.toArray⟩).toArray 9)) rfl ⟨rfl,rfl,rfl⟩ (d:=0) (BR.row (xs:=(Lib.fields b.data.toList).map fun l=>Value.string ⟨l.toArray⟩) (by
      have:=VRs.vs (E:=E) (n:=n) ((Lib.fields b.data.toList).map fun l=>Value.string ⟨l.toArray⟩);rw[List.map_map] at this;exact this) 9)
     refine⟨_,_,rfl, ?_,hL,hW,hK⟩;have:=VR.slc (E:=E.put n w.heap.size 0) (n:=n+1) (b:=n) (o:=0) (l:=(Lib.fields b.data.toList).length) (c:=(Lib.fields b.data.toList).length) (Nat.lt_succ_self n);rw[show(E.put n w.heap.size 0).r n=w.heap.size from if_pos rfl,show(E.put n w.heap.size 0).d n=0 from if_pos rfl] at this;exact this
    ·cases e
   ·cases e
  ·cases e
 ·split at hf
  ·rename_i hg
   subst hg;cases hf;intro q args h n a h' n' ws e;dsimp only at e
   split at e
   ·rename_i hq
    subst hq
    split at e
    ·rename_i b
     split at e
     ·rename_i hc
      split at e
      ·rename_i v hp
       cases e;refine⟨⟨_,Tryz.func124,rfl,by kernel_rfl⟩,fun E w xs W hv=> ?_⟩;cases hv with|cons h1 h2=>
       cases h1;cases h2 with|cons h1 h2=>
       cases h1;cases h2 with|cons h1 h2=>
       cases h1;cases h2;refine(Tryz.strconv_ParseInt_10_at64_ok b (by omega) v hp w).mono ?_;rintro e w' ⟨rfl,hw⟩;have hb:Below w.heap.size w w':=by
        rcases hw with rfl|⟨t,rfl⟩
        ·exact AP
        ·exact Go.Lib.bytesWorld_below _ _ _
       exact⟨E,_,rfl,.tup (.cons (.v _) (.cons (.v _) .nil)),Le.refl _ _,W.after hb,Kp.refl _ _ _⟩
      ·cases e
     ·cases e
    ·cases e
   ·cases e
  ·cases hf
def exIs:List AV→Option (List Nat)
 |[]=>some []
 | .v (.int .u64 (.ofNat k))::l=>(exIs l).map (k:: ·)
 |_=>none
def Sb(h:T AB):AV→Option (List Nat)
 | .v (.slice none 0 _)=>some []
 | .slc b o l _=>match h.get b with
   |some (.cells cs _ _)=>if ((cs.drop o).take l).length=l then exIs ((cs.drop o).take l) else none
   |_=>none
 |_=>none
def XF(h:T AB):Value×AV→Option Row
 |(.int .u64 (.ofNat i),.agg [.v (.int .u8 (.ofNat k)),.v (.string nm),.v (.int .i64 num),.v (.int .u8 (.ofNat ty)),.v (.int .u64 (.ofNat rf)),kd])=>match Sb h kd with
   |some ks=>if i < Aj∧ks.length≤1000000 then some ⟨i,⟨k,nm.data.toList,num,ty,rf,ks⟩⟩ else none
   |none=>none
 |_=>none
def NZ(h:T AB):List (Value×AV)→Option (List Row)
 |[]=>some []
 |e::es=>match XF h e,NZ h es with
   |some r,some l=>some (r::l)
   |_,_=>none
def Ms(a b:List Row):Bool:=(a.all fun r=>b.find? (fun x=>x.id==r.id)==some r) && b.all fun r=>a.find? (fun x=>x.id==r.id)==some r
def nodupB:List Nat→Bool
 |[]=>true
 |x::l=> !l.contains x && nodupB l
noncomputable def M0(s:List UInt8)(rows:List Row):Bool:=match UG Tryz.prog sumP (evC Tryz.prog sumP 150) 11 [.v (.string ⟨s.toArray⟩)] .lf 0 with
 |some (.tup [.ptr ab 0,.v (.int .i64 0)],h,_,_)=>match h.get ab with
   |some (.cells [.map mb] ty true)=>match h.get mb with
     |some (.map es)=>match NZ h es with
       |some r=>ty==52 && nodupB (r.map Row.id) && decide (es.length≤1000000) && Ms r rows
       |none=>false
     |_=>false
   |_=>false
 |_=>false
section
variable {E:En} {n:Nat} {h:T AB} {w:World}
theorem UF:∀{l:List AV} {xs:List Value} {ks:List Nat},VRs E n l xs→exIs l=some ks→xs=ks.map idV
 |[],_,_,.nil,e=>by cases e;rfl
 | .v (.int .u64 (.ofNat k))::l,_,ks,.cons h1 t,e=>by
   unfold exIs at e;cases h1;cases hl:exIs l with
   |none=>rw[hl] at e;cases e
   |some q=>rw[hl] at e;cases e;rw[UF t hl];rfl
theorem VK(hM:Mem Tryz.prog E n h w){a:AV}{y:Value}{ks:List Nat}(hv:VR E n a y)(e:Sb h a=some ks):∃ka kc,y= .slice ka ks.length kc∧Sl w w.heap.size (.slice ka ks.length kc) ks.length (ks.map idV):=by
 unfold Sb at e
 split at e
 ·cases e
  cases hv;exact⟨none,_,rfl,none,_,rfl,fun h=>absurd h (by simp)⟩
 ·rename_i b o l c
  split at e
  ·rename_i cs ty q hb
   split at e
   ·rename_i hlen
    obtain⟨hbn,xs,rest,hw,hx,-⟩:=hM b _ hb;have hx2:=(hx.drop o).take l;have hks:=UF hx2 e;have hl:ks.length=l:=by
     have h1:=hx2.length;rw[hks,hlen] at h1;simpa using h1.symm
    cases hv;rw[←hl];refine⟨_,_,rfl,_,_,rfl,fun _=>⟨E.r b,o,rfl,(Ab.1 hw).1,fun j hj=> ?_⟩⟩;have hj2:(ks.map idV)[j]? =some (ks.map idV)[j]:=AX hj;generalize(ks.map idV)[j]=u at hj2;rw[←hks,List.getElem?_take] at hj2
    split at hj2
    ·rw[List.getElem?_drop] at hj2
     have hlt:o+j < xs.length:=(Af.1 hj2).1;simp only[World.cell?,hw]
     simp[List.getElem?_append_left hlt,hj2]
    ·cases hj2
   ·cases e
  ·cases e
 ·cases e
def NdAt(w:World)(nd:Hg.Node)(v:Value):Prop:=∃ka kc,v=ndV nd ka kc∧Sl w w.heap.size (.slice ka nd.kids.length kc) nd.kids.length (nd.kids.map idV)
theorem XE(hM:Mem Tryz.prog E n h w){e:Value×AV}{r:Row}{y:Value}(hv:VR E n e.2 y)(he:XF h e=some r):e.1=idV r.id∧r.id < Aj∧r.node.kids.length≤1000000∧NdAt w r.node y:=by
 unfold XF at he
 split at he
 ·rename_i i k nm num ty rf kd
  split at he
  ·rename_i ks hk
   split at he
   ·rename_i hb
    cases he;cases hv with|agg h1=>
    cases h1 with|cons a1 h1=>
    cases a1;cases h1 with|cons a1 h1=>
    cases a1;cases h1 with|cons a1 h1=>
    cases a1;cases h1 with|cons a1 h1=>
    cases a1;cases h1 with|cons a1 h1=>
    cases a1;cases h1 with|cons a1 h1=>
    cases h1;obtain⟨ka,kc,rfl,hs⟩:=VK hM a1 hk;exact⟨rfl,hb.1,hb.2,ka,kc,rfl,hs⟩
   ·cases he
  ·cases he
 ·cases he
theorem Oq(hM:Mem Tryz.prog E n h w):∀{j:Nat} {es:List (Value×AV)} {fs:List MapEntry} {rs:List Row},MR E n j es fs→NZ h es=some rs→fs.map (·.key)=rs.map (fun r=>idV r.id)∧(∀f∈fs,j≤f.born)∧(∀f∈fs,f.born < j+fs.length)∧(fs.map (·.born)).Nodup∧
 (∀r∈rs,r.id < Aj∧r.node.kids.length≤1000000∧∃f∈fs,f.key=idV r.id∧NdAt w r.node f.val)∧∀f∈fs,∃r∈rs,f.key=idV r.id
 |_,_,_,rs,.nil,e=>by cases e;simp
 |j,_,_,rs,.cons (a:=a) (key:=key) (x:=x) (es:=es) (fs:=fs) hv t,e=>by
   unfold NZ at e
   split at e
   ·rename_i r l hr hl
    cases e;obtain⟨h1,h2,h3,h4⟩:=XE hM hv hr;obtain⟨g1,g2,g3,g4,g5,g6⟩:=Oq hM t hl;have h1:key=idV r.id:=h1;subst h1;refine⟨by simp[g1],fun f hf=> ?_,fun f hf=> ?_, ?_,fun r' hr'=> ?_,fun f hf=> ?_⟩
    ·rcases List.mem_cons.1 hf with rfl|hf
     ·exact AA
     ·have:=g2 f hf;omega
    ·rcases List.mem_cons.1 hf with rfl|hf
     ·simp
     ·have:=g3 f hf;simp;omega
    ·rw[List.map_cons,List.nodup_cons]
     refine⟨fun hm=> ?_,g4⟩;obtain⟨f,hf,hfe⟩:=List.mem_map.1 hm;have:=g2 f hf;dsimp only at hfe;omega
    ·rcases List.mem_cons.1 hr' with rfl|hr'
     ·exact⟨h2,h3,_,List.mem_cons_self,rfl,h4⟩
     ·obtain⟨q1,q2,f,hf,q3⟩:=g5 r' hr'
      exact⟨q1,q2,f,List.mem_cons_of_mem _ hf,q3⟩
    ·rcases List.mem_cons.1 hf with rfl|hf
     ·exact⟨r,List.mem_cons_self,rfl⟩
     ·obtain⟨r',hr',e⟩:=g6 f hf
      exact⟨r',List.mem_cons_of_mem _ hr',e⟩
   ·cases e
theorem OQ:∀{l:List Nat},nodupB l=true→l.Nodup
 |[],_=>List.nodup_nil
 |x::l,e=>by
   unfold nodupB at e;rw[Bool.and_eq_true] at e;exact List.nodup_cons.2 ⟨by simpa using e.1,OQ e.2⟩
theorem QP{a b:List Row}(h:Ms a b=true):rowM a=rowM b:=by
 unfold Ms at h;rw[Bool.and_eq_true] at h;have h1:=fun r hr=>by simpa using List.all_eq_true.1 h.1 r hr
 have h2:=fun r hr=>by simpa using List.all_eq_true.1 h.2 r hr
 funext id
 unfold rowM;cases ha:a.find? (fun r=>r.id==id) with
 |some r=>
   have hr:=List.find?_some ha;have:=h1 r (List.mem_of_find?_eq_some ha);have hid:r.id=id:=by simpa using hr
   rw[hid] at this;rw[this]
 |none=>
   cases hb:b.find? (fun r=>r.id==id) with
   |none=>rfl
   |some r=>
     exfalso;have hr:=List.find?_some hb;have:=h2 r (List.mem_of_find?_eq_some hb);have hid:r.id=id:=by simpa using hr
     rw[hid,ha] at this;cases this
theorem XY(hM:Mem Tryz.prog E n h w){mb:Nat}{es:List (Value×AV)}{rs:List Row}(hb:h.get mb=some (.map es))(hr:NZ h es=some rs)(hn:(rs.map Row.id).Nodup)(hl:es.length≤1000000):Cc (fun _=>True) w (E.r mb) es.length (rowM rs):=by
 obtain⟨-,fs,hw,hm⟩:=hM mb _ hb;obtain⟨g1,g2,g3,g4,g5,g6⟩:=Oq hM hm hr;have hfl:=hm.length;have hrd:∀f∈fs,∃r∈rs,f.key=idV r.id∧WideElems.rd Tryz.prog 37 rawR f=some (idL r.id,.held f.val):=fun f hf=>by
  obtain⟨r,hr,e⟩:=g6 f hf;refine⟨r,hr,e, ?_⟩;unfold WideElems.rd;rw[e,BZ (g5 r hr).1];rfl
 have hown:w.ownsMap Tryz.prog 37 rawR (E.r mb) es.length (.map ((fs.map (WideElems.rg Tryz.prog 37 rawR)).foldr DataW.insert [])):=by
  refine⟨fs.toArray,es.length,hw,⟨by simp;unfold maxLen;omega,⟨fun f hf=> ?_,g4, ?_⟩,fun f hf=> ?_⟩,by simp[hfl],rfl⟩
  ·have:=g3 f hf;omega
  ·show(fs.map (·.key)).Nodup
   rw[g1];have:(rs.map fun r=>idV r.id)=(rs.map Row.id).map idV:=by simp
   rw[this];exact List.Pairwise.map _ (fun a b hab e=>hab (by injection e with _ e;exact Int.ofNat.inj e)) hn
  ·obtain⟨r,-,-,e⟩:=hrd f hf
   exact⟨_,e⟩
 obtain⟨es',hD,hpw,hkl⟩:=hown.entries BM;injection hD with hD;refine⟨⟨_,hown, ?_,fun id hid=> ?_⟩,fun id nd hnd=> ?_⟩
 ·show((fs.map (WideElems.rg Tryz.prog 37 rawR)).foldr DataW.insert []).length=es.length
  rw[length_sorted,List.length_map,hfl]
 ·have hmem:∀p,p∈(fs.map (WideElems.rg Tryz.prog 37 rawR)).foldr DataW.insert []↔∃f∈fs,p=WideElems.rg Tryz.prog 37 rawR f:=fun p=>by
   rw[mem_sorted,List.mem_map];exact⟨fun⟨f,hf,e⟩=>⟨f,hf,e.symm⟩,fun⟨f,hf,e⟩=>⟨f,hf,e.symm⟩⟩
  have hrg:∀f∈fs,∃r∈rs,f.key=idV r.id∧WideElems.rg Tryz.prog 37 rawR f=(idL r.id,.held f.val):=fun f hf=>by
   obtain⟨r,hr,e1,e2⟩:=hrd f hf;exact⟨r,hr,e1,by unfold WideElems.rg;rw[e2];rfl⟩
  unfold rowM;cases hf:rs.find? (fun r=>r.id==id) with
  |none=>
    simp only[Option.map_none,Px];refine Maps.has_false_of_atKey fun z=>WideAt.atKey_none z fun p hp e=> ?_;obtain⟨f,hff,rfl⟩:=(hmem p).1 hp;obtain⟨r,hr,-,e2⟩:=hrg f hff;rw[e2] at e;have:=List.find?_eq_none.1 hf r hr;have e:r.id=id:=by injection e with _ e;exact Int.ofNat.inj e
    simp[e] at this
  |some r=>
    have hr:=List.mem_of_find?_eq_some hf;have hrid:r.id=id:=by simpa using List.find?_some hf
    obtain⟨_,_,f,hff,hk,ka,kc,hv,hs⟩:=g5 r hr;simp only[Option.map_some,Px];refine⟨ka,kc,fun z=> ?_,hs,fun _ _=>trivial⟩;obtain⟨r',hr',hk',e2⟩:=hrg f hff;have hrr:r'.id=id:=by
     rw[hk] at hk';injection hk' with _ e;have:r.id=r'.id:=Int.ofNat.inj e;omega
    have:(idL id,(.held f.val:DataW Value))∈(fs.map (WideElems.rg Tryz.prog 37 rawR)).foldr DataW.insert []:=(hmem _).2 ⟨f,hff,by rw[e2,hrr]⟩;rw[hv] at this;exact WideAt.atKey_mem z (BM.key (BZ hid)) (hD ▸ hpw) this
 ·unfold rowM at hnd
  cases hf:rs.find? (fun r=>r.id==id) with
  |none=>rw[hf] at hnd;cases hnd
  |some r=>
    rw[hf] at hnd;cases hnd;exact(g5 r (List.mem_of_find?_eq_some hf)).2.1
end
theorem Ql:Ps Tryz.prog=true:=by decide+kernel
theorem Ur{s:List UInt8}{rows:List Row}(e:M0 s rows=true)(w:World)(hT:DX w):Calls Tryz.prog 11 #[.string ⟨s.toArray⟩] w fun e w'=>Below w.heap.size w w'∧∃ab mb c,e= .returned (.tuple #[.pointer (some ⟨ab,0,none⟩),.int .i64 0])∧ArAt w' ab mb c (rowM rows):=by
 unfold M0 at e
 split at e
 ·rename_i ab h n ws hr
  split at e
  ·rename_i mb ty hab
   split at e
   ·rename_i es hmb
    split at e
    ·rename_i r hrows
     simp only[Bool.and_eq_true,decide_eq_true_eq,beq_iff_eq] at e;obtain⟨⟨⟨rfl,hn⟩,hl⟩,hsm⟩:=e;obtain⟨-,hcall⟩:=RO Ql (Te hT) (Si (by kernel_rfl) Ql (Te hT) 150) _ _ _ _ _ _ _ _ hr;refine(hcall ⟨fun b=>b,fun _=>0⟩ w [.string ⟨s.toArray⟩] ⟨fun b ab hb=>(by cases hb),fun b ab hb=>(by cases hb),fun b b' ab ab' hb=>(by cases hb),AP⟩ (.cons (.v _) .nil)).mono ?_;rintro e w' ⟨E',y,rfl,hy,-,hW,-⟩;refine⟨hW.bel,E'.r ab,E'.r mb,es.length, ?_, ?_, ?_⟩
     ·cases hy with|tup h1=>
      cases h1 with|cons a1 h1=>
      cases a1;cases h1 with|cons a1 h1=>
      cases a1;cases h1;rfl
     ·obtain⟨-,xs,rest,hw,hv,hrest,hx⟩:=hW.mem ab _ hab
      cases hv with|cons a1 h1=>
      cases a1;cases h1;rw[hx rfl,Nat.zero_mul] at hrest;rw[hw,List.eq_nil_of_length_eq_zero hrest];rfl
     ·rw[←QP hsm]
      exact XY hW.mem hmb hrows (OQ hn) hl
    ·cases e
   ·cases e
  ·cases e
 ·cases e
end Go.Proofs.YtijhlanclfajiaaGreatDoor.Ev
