/-
  A part of the proof.
-/
import Derived.Test.YtijhlanclfajiaaGreatDoorKiAA
set_option linter.all false
namespace Hg
def kRel(p c:Nat):Prop:=(p=1∧c=2)∨(p=2∧c=3)∨(3≤p∧4≤c)
structure Tr (rows:List Row):Prop where
 rid:∀(k:Nat) (r:Row),rows[k]? =some r→r.id=k+1
 up:∀(k:Nat) (r:Row),rows[k]? =some r→∀c∈r.node.kids,k+1 < c∧c≤rows.length
 perm:(rows.flatMap (fun r=>r.node.kids)).Perm (List.range' 2 (rows.length-1))
 kind:∀(k:Nat) (r:Row),rows[k]? =some r→∀c∈r.node.kids,∀r',rows[c-1]? =some r'→kRel r.node.kind r'.node.kind
 root:∀r,rows[0]? =some r→r.node.kind=1
def Nk(M:Nat)(n:Node):Prop:=n.kind≤20∧n.num≤9223372036854775807∧n.name.length≤M
theorem QU(s:Str):CK s≤9223372036854775807:=by
 unfold CK;split
 ·decide
 ·split
  ·decide
  ·split
   ·split
    ·decide
    ·omega
   ·decide
namespace Rd
theorem Lr(id:Nat):∀(l:List Row) (u:Nat),u < l.length→((l.modify u fun x=>{x with node:={x.node with kids:=x.node.kids++[id]}}).flatMap (fun r=>r.node.kids)).Perm (id::l.flatMap (fun r=>r.node.kids))
 |[],u,h=>by simp at h
 |r::l,0,h=>by
   simp only[List.modify_zero_cons,List.flatMap_cons];rw[List.append_assoc];exact(List.perm_middle)
 |r::l,u+1,h=>by
   simp only[List.modify_succ_cons,List.flatMap_cons];have ih:=Lr id l u (by simpa using h);exact(List.Perm.append_left _ ih).trans List.perm_middle
theorem UX{rows:List Row}(h:Tr rows)(k:Nat)(f:Row→Row)(h1:∀r,(f r).id=r.id)(h2:∀r,(f r).node.kids=r.node.kids)(h3:∀r,(f r).node.kind=r.node.kind):Tr (rows.modify k f):=by
 have hin:∀{i:Nat} {r':Row},(rows.modify k f)[i]? =some r'→∃r,rows[i]? =some r∧r'.id=r.id∧r'.node.kids=r.node.kids∧r'.node.kind=r.node.kind:=by
  intro i r' hr;obtain⟨r,h0,he⟩:=EI hr;refine⟨r,h0, ?_⟩;subst he;split
  ·exact⟨h1 r,h2 r,h3 r⟩
  ·exact⟨rfl,rfl,rfl⟩
 have hfl:∀(l:List Row) (k:Nat),(l.modify k f).flatMap (fun r=>r.node.kids)=l.flatMap (fun r=>r.node.kids):=by
  intro l
  induction l with
  |nil=>intro k;cases k <;>rfl
  |cons r l ih=>
    intro k;cases k with
    |zero=>simp[h2]
    |succ k=>simp[ih]
 refine⟨fun i r hr=> ?_,fun i r hr c hc=> ?_, ?_,fun i r hr c hc r' hr'=> ?_,fun r hr=> ?_⟩
 ·obtain⟨r0,a,b,_,_⟩:=hin hr;rw[b];exact h.rid i r0 a
 ·obtain⟨r0,a,_,b,_⟩:=hin hr;rw[b] at hc;simpa using h.up i r0 a c hc
 ·rw[hfl];simpa using h.perm
 ·obtain⟨r0,a,_,b,d⟩:=hin hr
  obtain⟨r1,a1,_,_,d1⟩:=hin hr';rw[b] at hc;rw[d,d1];exact h.kind i r0 a c hc r1 a1
 ·obtain⟨r0,a,_,_,d⟩:=hin hr;rw[d];exact h.root r0 a
theorem P9(n:Node)(hn:n.kids=[])(hk:n.kind=1):Tr [⟨1,n⟩]:=by
 have hin:∀{i:Nat} {r:Row},([⟨1,n⟩]:List Row)[i]? =some r→i=0∧r=⟨1,n⟩:=by
  intro i r h;cases i with
  |zero=>simp at h;exact⟨rfl,h.symm⟩
  |succ i=>simp at h
 refine⟨fun i r hr=> ?_,fun i r hr c hc=> ?_,by simp[hn],fun i r hr c hc=> ?_,fun r hr=> ?_⟩
 ·obtain⟨rfl,rfl⟩:=hin hr;rfl
 ·obtain⟨rfl,rfl⟩:=hin hr;rw[hn] at hc;simp at hc
 ·obtain⟨rfl,rfl⟩:=hin hr;rw[hn] at hc;simp at hc
 ·obtain⟨_,rfl⟩:=hin hr;exact hk
theorem Xt{rows:List Row}(h:Tr rows){u:Nat}{ru:Row}(hu:rows[u]? =some ru)(n:Node)(hn:n.kids=[])(hk:kRel ru.node.kind n.kind):Tr (Ef (rows++[⟨rows.length+1,n⟩]) u (rows.length+1)):=by
 have hul:u < rows.length:=(Af.1 hu).1;have hin:∀{i:Nat} {r':Row},(Ef (rows++[⟨rows.length+1,n⟩]) u (rows.length+1))[i]? =some r'→
  (i=rows.length∧r'=⟨rows.length+1,n⟩)∨(∃r,rows[i]? =some r∧r'.id=r.id∧r'.node.kind=r.node.kind∧r'.node.kids=if i=u then r.node.kids++[rows.length+1] else r.node.kids):=by
  intro i r' hr;obtain⟨r,h0,he⟩:=EI hr;by_cases hi:i < rows.length
  ·rw[List.getElem?_append_left hi] at h0
   right;refine⟨r,h0, ?_⟩;subst he;by_cases hiu:u=i
   ·simp[hiu]
   ·simp[hiu,Ne.symm hiu]
  ·left
   rw[List.getElem?_append_right (by omega)] at h0;by_cases e:i-rows.length=0
   ·rw[e] at h0
    simp at h0;rw[if_neg (by omega)] at he;exact⟨by omega,by rw[he,←h0]⟩
   ·rw[List.getElem?_eq_none (by simp;omega)] at h0;cases h0
 have hlen:(Ef (rows++[⟨rows.length+1,n⟩]) u (rows.length+1)).length=rows.length+1:=by simp[Ef]
 have hkind:∀{i:Nat} {r':Row},(Ef (rows++[⟨rows.length+1,n⟩]) u (rows.length+1))[i]? =some r'→i < rows.length→∃r,rows[i]? =some r∧r'.node.kind=r.node.kind:=by
  intro i r' hr hi;rcases hin hr with⟨e,_⟩|⟨r,a,_,b,_⟩
  ·omega
  ·exact⟨r,a,b⟩
 refine⟨fun i r hr=> ?_,fun i r hr c hc=> ?_, ?_,fun i r hr c hc r' hr'=> ?_,fun r hr=> ?_⟩
 ·rcases hin hr with⟨e,rfl⟩|⟨r0,a,b,_,_⟩
  ·show rows.length+1=i+1;omega
  ·rw[b];exact h.rid i r0 a
 ·rw[hlen]
  rcases hin hr with⟨e,rfl⟩|⟨r0,a,_,_,b⟩
  ·rw[hn] at hc;simp at hc
  ·have hi:=(Af.1 a).1
   rw[b] at hc;by_cases e:i=u
   ·rw[if_pos e] at hc
    rcases List.mem_append.1 hc with hc|hc
    ·have:=h.up i r0 a c hc;omega
    ·simp at hc;omega
   ·rw[if_neg e] at hc
    have:=h.up i r0 a c hc;omega
 ·rw[hlen]
  refine(Lr (rows.length+1) (rows++[⟨rows.length+1,n⟩]) u (by simp;omega)).trans ?_;have e1:(rows++[(⟨rows.length+1,n⟩:Row)]).flatMap (fun r=>r.node.kids)=rows.flatMap (fun r=>r.node.kids):=by simp[hn]
  rw[e1,show rows.length+1-1=(rows.length-1)+1 by omega,List.range'_concat,show 2+1*(rows.length-1)=rows.length+1 by omega];exact(List.Perm.cons _ h.perm).trans (List.perm_append_singleton _ _).symm
 ·rcases hin hr with⟨e,rfl⟩|⟨r0,a,_,d,b⟩
  ·rw[hn] at hc;simp at hc
  ·have hi:=(Af.1 a).1
   rw[d];rw[b] at hc;have old:c∈r0.node.kids→kRel r0.node.kind r'.node.kind:=by
    intro hc;have:=h.up i r0 a c hc;obtain⟨r1,a1,d1⟩:=hkind hr' (by omega);rw[d1];exact h.kind i r0 a c hc r1 a1
   by_cases e:i=u
   ·rw[if_pos e] at hc
    rcases List.mem_append.1 hc with hc|hc
    ·exact old hc
    ·simp at hc
     subst hc;rcases hin hr' with⟨_,rfl⟩|⟨r1,a1,_⟩
     ·subst e
      rw[hu] at a;injection a with a;rw[←a];exact hk
     ·have:=(Af.1 a1).1;omega
   ·rw[if_neg e] at hc
    exact old hc
 ·rcases hin hr with⟨e,_⟩|⟨r0,a,_,d,_⟩
  ·omega
  ·rw[d];exact h.root r0 a
theorem YE(t:Str):opOf t≤13:=by
 unfold opOf;split
 ·rename_i i h
  obtain⟨h1,_⟩:=List.findIdx?_eq_some_iff_getElem.1 h;have:ops.length=13:=rfl;omega
 ·omega
def NBs(s:Rd):Prop:=∀M,(∀t∈s.L,t.text.length≤M)→∀r∈s.rows,Nk M r.node
def RBs(s:Rd):Prop:=∀R,s.rows.length≤R→(∀r∈s.rows,r.id≤R∧r.node.ref≤R)∧(∀b∈s.seen,b.id≤R)∧∀i∈s.ids,i≤R
def NdOk(s:Rd)(n:Node):Prop:=n.ref=0∧∀M,(∀t∈s.L,t.text.length≤M)→Nk M n
theorem Xv(s:Rd)(k M:Nat)(h:∀t∈s.L,t.text.length≤M):(s.text k).length≤M:=by
 unfold text;split
 ·simp
 ·split
  ·rename_i t ht
   split
   ·exact h t (List.mem_of_getElem? ht)
   ·simp
  ·simp
theorem GZ{s:Rd}{k:Nat}(h:k≤20):NdOk s (nd k):=⟨rfl,fun M _=>⟨h,by show(0:Int)≤_;decide,Nat.zero_le _⟩⟩
theorem PO{s:Rd}{k:Nat}{v:Int}(h:k≤20)(hv:v≤9223372036854775807):NdOk s (Lj k v):=⟨rfl,fun M _=>⟨h,hv,Nat.zero_le _⟩⟩
theorem KG{s a:Rd}{k i:Nat}(hL:s.L=a.L)(h:k≤20):NdOk s (Ac k (a.text i)):=⟨rfl,fun M hM=>⟨h,by show(0:Int)≤_;decide,by
 show(a.text i).length≤M;exact Xv a i M (by rw[←hL];exact hM)⟩⟩
structure NS (s s':Rd):Prop where
 L:s'.L=s.L
 nb:NBs s→NBs s'
 len:s.rows.length≤s'.rows.length
 rb:RBs s→RBs s'
theorem NS.refl(s:Rd):NS s s:=⟨rfl,id,AA,id⟩
theorem NS.trans{a b c:Rd}(h:NS a b)(k:NS b c):NS a c:=⟨k.L.trans h.L,fun x=>k.nb (h.nb x),AO h.len k.len,fun x=>k.rb (h.rb x)⟩
theorem PQ{s s':Rd}(hL:s'.L=s.L)(h:s'.rows=s.rows)(hs:∀R,s.rows.length≤R→RBs s→∀b∈s'.seen,b.id≤R)(hi:∀R,s.rows.length≤R→RBs s→∀i∈s'.ids,i≤R):NS s s':=
 ⟨hL, fun x M hM r hr => x M (by rw [← hL]; exact hM) r (by rw [← h]; exact hr), by rw [h]; exact AA, fun x R hR => by
  rw[h] at hR⊢;exact⟨(x R hR).1,hs R hR x,hi R hR x⟩⟩
theorem JA{s s':Rd}(hL:s'.L=s.L)(h:s'.rows=s.rows)(hs:∀b∈s'.seen,b∈s.seen:=by exact fun _ h=>h)(hi:s'.ids=s.ids:=by rfl):NS s s':=
 PQ hL h (fun R hR x b hb=>(x R hR).2.1 b (hs b hb)) (fun R hR x i hm=>(x R hR).2.2 i (hi ▸ hm))
theorem M9(s:Rd)(k:Nat)(f:Row→Row)(h1:∀r,(f r).node.kind=r.node.kind)(h2:∀r,(f r).node.name=r.node.name)(h3:∀r,r.node.num≤9223372036854775807→(f r).node.num≤9223372036854775807)(h4:∀r,(f r).id=r.id)(h5:∀R,s.rows.length≤R→RBs s→∀r∈s.rows,(f r).node.ref≤R):NS s {s with rows:=s.rows.modify k f}:=
 ⟨rfl, fun x M hM r' hr => by
  obtain⟨i,hi⟩:=List.mem_iff_getElem?.1 hr;obtain⟨r,h0,he⟩:=EI hi;have hx:=x M hM r (List.mem_of_getElem? h0);subst he;split
  ·exact⟨by rw[h1];exact hx.1,h3 r hx.2.1,by rw[h2];exact hx.2.2⟩
  ·exact hx,by simp,fun x R hR=>by
  have hR:s.rows.length≤R:=by simpa using hR
  refine⟨fun r' hr=> ?_,(x R hR).2⟩;obtain⟨i,hi⟩:=List.mem_iff_getElem?.1 hr;obtain⟨r,h0,he⟩:=EI hi;have hm:=List.mem_of_getElem? h0;subst he;split
  ·exact⟨by rw[h4];exact((x R hR).1 r hm).1,h5 R hR x r hm⟩
  ·exact(x R hR).1 r hm⟩
theorem Kv(s:Rd)(k:Nat)(f:Row→Row)(h1:∀r,(f r).node.kind=r.node.kind)(h2:∀r,(f r).node.name=r.node.name)(h3:∀r,r.node.num≤9223372036854775807→(f r).node.num≤9223372036854775807)(h4:∀r,(f r).id=r.id)(h5:∀r,(f r).node.ref=r.node.ref):NS s {s with rows:=s.rows.modify k f}:=
 M9 s k f h1 h2 h3 h4 fun R hR x r hr=>by rw[h5];exact((x R hR).1 r hr).2
theorem Tm(s:Rd)(u:Nat)(n:Node)(hn:NdOk s n):NS s (s.node u n):=by
 have hp:NS s {s with rows:=s.rows++[⟨s.rows.length+1,n⟩]}:=⟨rfl,fun x M hM r hr=>by
  rcases List.mem_append.1 hr with hr|hr
  ·exact x M hM r hr
  ·simp at hr;subst hr;exact hn.2 M hM,by simp,fun x R hR=>by
  have hR:s.rows.length+1≤R:=by simpa using hR
  have hx:=x R (by omega);refine⟨fun r hr=> ?_,hx.2⟩;rcases List.mem_append.1 hr with hr|hr
  ·exact hx.1 r hr
  ·simp at hr;subst hr;exact⟨hR,by show n.ref≤R;rw[hn.1];exact Nat.zero_le _⟩⟩
 unfold node;dsimp only;split
 ·exact hp.trans (Kv _ u (fun x=>{x with node:={x.node with kids:=x.node.kids++[s.rows.length+1]}}) (fun _=>rfl) (fun _=>rfl) (fun _ h=>h) (fun _=>rfl) (fun _=>rfl))
 ·exact hp
theorem PP(s:Rd):NS s s.step:=JA rfl rfl
theorem Ku(s:Rd):NS s s.setBad:=JA rfl rfl
theorem YK(s:Rd)(t:Str):NS s (s.need t):=by unfold need;split <;>first|exact PP s|exact Ku s
theorem YL(s:Rd):NS s s.name:=by unfold name;split <;>first|exact PP s|exact Ku s
theorem NA(s:Rd)(e:Nat):NS s (s.fault e):=by unfold fault;split <;>first|exact JA rfl rfl|exact NS.refl s
theorem YM(s:Rd)(t:Str):NS s (s.find t).2:=by unfold find;split <;>first|exact NS.refl s|exact NA s _
theorem Ya(s:Rd)(t:Str)(R:Nat)(hR:s.rows.length≤R)(x:RBs s):(s.find t).1≤R:=by
 unfold find;split
 ·rename_i i hi
  unfold Jl at hi;simp only[Option.map_eq_some_iff] at hi;obtain⟨b,hb,rfl⟩:=hi;exact(x R hR).2.1 b (by simpa using List.mem_of_find?_eq_some hb)
 ·exact Nat.zero_le _
theorem OP(s:Rd)(k t:Nat)(ht:∀R,s.rows.length≤R→RBs s→t≤R):NS s (s.DL k t):=M9 s k _ (fun _=>rfl) (fun _=>rfl) (fun _ h=>h) (fun _=>rfl) (fun R hR x _ _=>ht R hR x)
theorem R7(s:Rd)(t:Str)(k:Nat):NS s ((s.find t).2.DL k (s.find t).1):=by
 have hx:=YM s t;have hl:(s.find t).2.rows=s.rows∧(s.find t).2.seen=s.seen∧(s.find t).2.ids=s.ids:=by
  unfold find fault
  repeat' split
  all_goals exact⟨rfl,rfl,rfl⟩
 refine hx.trans (OP _ _ _ fun R hR x=>Ya s t R (by rw[←hl.1];exact hR) fun R' hR'=> ?_);have:=x R' (by rw[hl.1];exact hR');rw[hl.1,hl.2.1,hl.2.2] at this;exact this
theorem R6(s:Rd)(k t:Nat):NS s (s.BA k t):=Kv s k _ (fun _=>rfl) (fun _=>rfl) (fun _ h=>h) (fun _=>rfl) (fun _=>rfl)
theorem Uv(s:Rd)(k:Nat)(t:Str):NS s (s.CX k (opOf t:Nat)):=Kv s k _ (fun _=>rfl) (fun _=>rfl) (fun _ h=>by have:=YE t;show((opOf t:Nat):Int)≤_;omega) (fun _=>rfl) (fun _=>rfl)
theorem Tz(s:Rd)(k R:Nat)(hR:s.rows.length≤R)(x:RBs s):s.idAt k≤R:=by
 unfold idAt;cases hk:s.rows[k]? with
 |none=>exact Nat.zero_le _
 |some r=>exact((x R hR).1 r (List.mem_of_getElem? hk)).1
theorem R8(s:Rd)(t:Str)(k:Nat):NS s (s.declare t k):=by
 unfold declare;dsimp only;have h1:NS s (if inL s.used t=true then s.fault 10 else s):=by split <;>first|exact NA _ _|exact NS.refl _
 generalize(if inL s.used t=true then s.fault 10 else s)=a at h1⊢;refine h1.trans (PQ rfl rfl (fun R hR x b hb=> ?_) (fun R hR x i hi=>(x R hR).2.2 i hi));rcases List.mem_append.1 hb with hb|hb
 ·exact(x R hR).2.1 b hb
 ·simp at hb;subst hb;exact Tz a k R hR x
theorem WV(s:Rd)(t:Str)(k:Nat):NS s (s.Ff t k):=PQ rfl rfl (fun R hR x b hb=>by simp[Ff] at hb) (fun R hR x i hi=>by
 unfold Ff at hi;rcases List.mem_append.1 hi with hi|hi
 ·exact(x R hR).2.2 i hi
 ·simp at hi;subst hi;exact Tz s k R hR x)
theorem WW(s:Rd):NS s s.leave:=JA rfl rfl
theorem YJ(s:Rd):NS s s.shut:=JA rfl rfl (fun b h=>(List.mem_filter.1 h).1)
def At(s:Rd)(u:Nat)(p:Nat→Prop):Prop:=∃r,s.rows[u]? =some r∧p r.node.kind
structure KZ (s s':Rd):Prop where
 kinds:∀(k:Nat) (r:Row),s.rows[k]? =some r→∃r',s'.rows[k]? =some r'∧r'.node.kind=r.node.kind
 tr:Tr s.rows→Tr s'.rows
theorem KZ.refl(s:Rd):KZ s s:=⟨fun _ r h=>⟨r,h,rfl⟩,id⟩
theorem KZ.trans{a b c:Rd}(h:KZ a b)(k:KZ b c):KZ a c:=
 ⟨fun i r hr => by
  obtain⟨r1,h1,h2⟩:=h.kinds i r hr;obtain⟨r2,k1,k2⟩:=k.kinds i r1 h1;exact⟨r2,k1,k2.trans h2⟩,fun x=>k.tr (h.tr x)⟩
theorem PV{s s':Rd}(h:s'.rows=s.rows):KZ s s':=⟨fun k r hr=>⟨r,by rw[h];exact hr,rfl⟩,fun x=>by rw[h];exact x⟩
theorem JB(s:Rd)(k:Nat)(f:Row→Row)(h1:∀r,(f r).id=r.id)(h2:∀r,(f r).node.kids=r.node.kids)(h3:∀r,(f r).node.kind=r.node.kind):KZ s {s with rows:=s.rows.modify k f}:=
 ⟨fun i r hr=>⟨_,Fg hr,by split <;>first|exact h3 r|rfl⟩,fun x=>UX x k f h1 h2 h3⟩
theorem YS(s:Rd)(u:Nat)(n:Node)(hn:n.kids=[])(hu:At s u (fun p=>kRel p n.kind)):KZ s (s.node u n):=by
 obtain⟨r,h1,h2⟩:=hu;have hul:=(Af.1 h1).1;have e:(s.node u n).rows=Ef (s.rows++[⟨s.rows.length+1,n⟩]) u (s.rows.length+1):=by
  unfold node;dsimp only;rw[if_pos (by omega)]
 refine⟨fun k r' hr=> ?_,fun x=>by rw[e];exact Xt x h1 n hn h2⟩;rw[e];refine⟨_,Fg (by rw[List.getElem?_append_left (Af.1 hr).1];exact hr), ?_⟩
 split <;>rfl
structure KS (s s':Rd):Prop where
 z:KZ s s'
 n:NS s s'
theorem KS.refl(s:Rd):KS s s:=⟨KZ.refl s,NS.refl s⟩
theorem KS.trans{a b c:Rd}(h:KS a b)(k:KS b c):KS a c:=⟨h.z.trans k.z,h.n.trans k.n⟩
theorem Gz{s s':Rd}(h:s'.rows=s.rows)(n:NS s s'):KS s s':=⟨PV h,n⟩
theorem MM{s s':Rd}(hL:s'.L=s.L)(h:s'.rows=s.rows)(hs:∀b∈s'.seen,b∈s.seen:=by exact fun _ h=>h)(hi:s'.ids=s.ids:=by rfl):KS s s':=⟨PV h,JA hL h hs hi⟩
theorem ER(s:Rd)(u:Nat)(n:Node)(hn:n.kids=[])(hu:At s u (fun p=>kRel p n.kind))(hk:NdOk s n):KS s (s.node u n):=⟨YS s u n hn hu,Tm s u n hk⟩
theorem EG(s:Rd):KS s s.step:=Gz rfl (PP s)
theorem Ob(s:Rd):KS s s.setBad:=Gz rfl (Ku s)
theorem Bt(s:Rd)(t:Str):KS s (s.need t):=Gz (EL s t).2.2 (YK s t)
theorem FH(s:Rd):KS s s.name:=Gz (Ck s).2.2 (YL s)
theorem NK(s:Rd):KS s s.typed.2:=by unfold typed;split <;>first|exact EG s|exact Bt s _
theorem NM(s:Rd)(e:Nat):KS s (s.fault e):=Gz (Ec s e).1 (NA s e)
theorem OZ(s:Rd)(k t:Nat)(ht:∀R,s.rows.length≤R→RBs s→t≤R):KS s (s.DL k t):=⟨JB s k _ (fun _=>rfl) (fun _=>rfl) (fun _=>rfl),OP s k t ht⟩
theorem NL(s:Rd)(t:Str)(k:Nat):KS s ((s.find t).2.DL k (s.find t).1):=
 ⟨(show KZ s (s.find t).2 from by unfold find;split <;>first|exact KZ.refl s|exact PV (Ec s 9).1).trans (JB _ k _ (fun _=>rfl) (fun _=>rfl) (fun _=>rfl)),R7 s t k⟩
theorem Ji(s:Rd)(k t:Nat):KS s (s.BA k t):=⟨JB s k _ (fun _=>rfl) (fun _=>rfl) (fun _=>rfl),R6 s k t⟩
theorem Oa(s:Rd)(k:Nat)(t:Str):KS s (s.CX k (opOf t:Nat)):=⟨JB s k _ (fun _=>rfl) (fun _=>rfl) (fun _=>rfl),Uv s k t⟩
theorem NN(s:Rd)(t:Str)(k:Nat):KS s (s.declare t k):=Gz (Ho s t k).2.2.2.2.2 (R8 s t k)
theorem Dr(s:Rd):KS s s.enter:=by unfold enter;dsimp only;split <;>exact MM rfl rfl
theorem Eo(s:Rd):KS s s.leave:=Gz rfl (WW s)
theorem Tw(s:Rd):KS s s.shut:=Gz rfl (YJ s)
theorem At.keep{s s':Rd}{u:Nat}{p:Nat→Prop}(h:At s u p)(k:KS s s'):At s' u p:=by
 obtain⟨r,h1,h2⟩:=h;obtain⟨r',k1,k2⟩:=k.z.kinds u r h1;exact⟨r',k1,by rw[k2];exact h2⟩
theorem At.imp{s:Rd}{u:Nat}{p q:Nat→Prop}(h:At s u p)(k:∀n,p n→q n):At s u q:=by
 obtain⟨r,h1,h2⟩:=h;exact⟨r,h1,k _ h2⟩
theorem Pm(s:Rd)(u:Nat)(n:Node)(hu:u≠s.rows.length):At (s.node u n) s.rows.length (fun k=>k=n.kind):=by
 unfold At node;dsimp only;split
 ·refine⟨_,Fg (r:=⟨s.rows.length+1,n⟩) (by simp), ?_⟩
  split <;>rfl
 ·exact⟨⟨s.rows.length+1,n⟩,by simp,rfl⟩
theorem At.ne{s:Rd}{u:Nat}{p:Nat→Prop}(h:At s u p):u≠s.rows.length:=by
 obtain⟨r,h1,_⟩:=h;have:=(Af.1 h1).1;omega
theorem ge3{s:Rd}{u c:Nat}(hc:4≤c)(h:At s u (fun p=>3≤p)):At s u (fun p=>kRel p c):=h.imp fun _ hp=> .inr (.inr ⟨hp,hc⟩)
theorem new3{s:Rd}{u c:Nat}{n:Node}(h:At s u (fun p=>3≤p))(hc:c=n.kind)(h4:4≤c):At (s.node u n) s.rows.length (fun p=>3≤p):=
 (Pm s u n h.ne).imp fun k hk=>by omega
theorem UE(f:Nat):(∀s u s',expr f s u=some s'→At s u (fun p=>3≤p)→KS s s')∧(∀s u m s',call f s u m=some s'→At s u (fun p=>3≤p)→KS s s')∧(∀b s n s',args f b s n=some s'→At s n (fun p=>3≤p)→KS s s'):=by
 induction f with
 |zero=>exact⟨fun _ _ _ h=>by simp[expr] at h,fun _ _ _ _ h=>by simp[call] at h,fun _ _ _ _ h=>by simp[args] at h⟩
 |succ f ih=>
   obtain⟨ihe,ihc,iha⟩:=ih;refine⟨fun s u s' h hu=> ?_,fun s u m s' h hu=> ?_,fun b s n s' h hu=> ?_⟩
   ·rw[expr] at h
    have hus:=hu.keep (EG s);have nodeK:∀n:Node,n.kids=[]→4≤n.kind→NdOk s.step n→KS s (s.step.node u n):=fun n hn h4 hk=>(EG s).trans (ER s.step u n hn (ge3 h4 hus) hk);by_cases h2:s.text 2≠[]
    ·rw[if_pos h2] at h
     injection h with h;subst h;exact nodeK _ rfl (Nat.le_of_ble_eq_true rfl) (PO (by decide) (QU _))
    rw[if_neg h2] at h;by_cases h1:s.text 1≠[]
    ·rw[if_pos h1] at h
     dsimp only at h;by_cases hd:s.step.next [46]=true
     ·rw[if_pos hd] at h
      exact(EG s).trans (ihc _ _ _ _ h hus)
     ·rw[if_neg hd] at h
      injection h with h;subst h;exact(nodeK (nd 15) rfl (by decide) (GZ (by decide))).trans (NL _ _ _)
    rw[if_neg h1] at h;by_cases ht:s.next Ju=true
    ·rw[if_pos ht] at h
     injection h with h;subst h;exact nodeK _ rfl (by decide) (by first|exact GZ (by decide)|exact PO (by decide) (by decide))
    rw[if_neg ht] at h;by_cases hf:s.next Gq=true
    ·rw[if_pos hf] at h
     injection h with h;subst h;exact nodeK _ rfl (by decide) (by first|exact GZ (by decide)|exact PO (by decide) (by decide))
    rw[if_neg hf] at h;by_cases hr:s.next Jv=true
    ·rw[if_pos hr] at h
     injection h with h;subst h;exact nodeK _ rfl (by decide) (by first|exact GZ (by decide)|exact PO (by decide) (by decide))
    rw[if_neg hr] at h;by_cases hn:s.next [33]=true∨s.next [45]=true
    ·rw[if_pos hn] at h
     dsimp only at h;have hkind:(if s.next [33]=true then 16 else 17)=16∨(if s.next [33]=true then 16 else 17)=17:=by split <;>simp
     generalize hk:(if s.next [33]=true then 16 else 17)=kind at h hkind;have K1:=nodeK (nd kind) rfl (by show 4≤kind;omega) (GZ (by omega));have hnew:At (s.step.node u (nd kind)) s.step.rows.length (fun p=>3≤p):=new3 (c:=kind) hus rfl (by omega);by_cases hb:(s.step.node u (nd kind)).enter.bad=true
     ·rw[if_pos hb] at h
      injection h with h;subst h;exact K1.trans ((Dr _).trans (Eo _))
     ·rw[if_neg hb] at h
      cases he:expr f (s.step.node u (nd kind)).enter s.rows.length with
      |none=>rw[he] at h;simp at h
      |some s1=>
        rw[he] at h;injection h with h;subst h;exact K1.trans ((Dr _).trans ((ihe _ _ _ he (hnew.keep (Dr _))).trans (Eo _)))
    rw[if_neg hn] at h;by_cases hp:s.next [40]=true
    ·rw[if_pos hp] at h
     dsimp only at h;have K1:=nodeK (nd 18) rfl (by decide) (GZ (by decide));have hnew:At (s.step.node u (nd 18)) s.step.rows.length (fun p=>3≤p):=new3 (c:=18) hus rfl (by omega);by_cases hb:(s.step.node u (nd 18)).enter.bad=true
     ·rw[if_pos hb] at h
      injection h with h;subst h;exact K1.trans ((Dr _).trans (Eo _))
     ·rw[if_neg hb] at h
      cases he:expr f (s.step.node u (nd 18)).enter s.rows.length with
      |none=>rw[he] at h;simp at h
      |some s1=>
        rw[he] at h;dsimp only at h;have E1:=ihe _ _ _ he (hnew.keep (Dr _));have e1:KS s1 ((if opOf (s1.text 4)=0 then(s1.CX s.rows.length (opOf (s1.text 4):Nat)).setBad else s1.CX s.rows.length (opOf (s1.text 4):Nat)).step):=by
         refine KS.trans ?_ (EG _);split
         ·exact(Oa _ _ _).trans (Ob _)
         ·exact Oa _ _ _
        cases he2:expr f ((if opOf (s1.text 4)=0 then(s1.CX s.rows.length (opOf (s1.text 4):Nat)).setBad else s1.CX s.rows.length (opOf (s1.text 4):Nat)).step) s.rows.length with
        |none=>rw[he2] at h;simp at h
        |some s2=>
          rw[he2] at h;injection h with h;subst h;have E2:=ihe _ _ _ he2 ((hnew.keep (Dr _)).keep (E1.trans e1));exact K1.trans ((Dr _).trans ((E1.trans e1).trans ((E2.trans (Bt _ _)).trans (Eo _))))
    rw[if_neg hp] at h;injection h with h;subst h;exact Ob s
   ·rw[call] at h
    try dsimp only at h
    have K1:=ER s u (nd 19) rfl (ge3 (by decide) hu) (GZ (by decide));have hnew:At (s.node u (nd 19)) s.rows.length (fun p=>3≤p):=new3 (c:=19) hu rfl (by omega);have K2:=((Bt (s.node u (nd 19)) [46]).trans (FH _));generalize hbd:({((s.node u (nd 19)).need [46]).name with calls:=((s.node u (nd 19)).need [46]).name.calls++[((s.node u (nd 19)).need [46]).name.idAt s.rows.length],wants:=((s.node u (nd 19)).need [46]).name.wants++[m++[32]++((s.node u (nd 19)).need [46]).text 1]}:Rd)=b at h;have K3:KS ((s.node u (nd 19)).need [46]).name b:=by rw[←hbd];exact MM rfl rfl
    by_cases hb:b.enter.bad=true
    ·rw[if_pos hb] at h
     injection h with h;subst h;exact K1.trans ((K2.trans K3).trans ((Dr _).trans (Eo _)))
    ·rw[if_neg hb] at h
     cases he:args f true (b.enter.need [40]) s.rows.length with
     |none=>rw[he] at h;simp at h
     |some s1=>
       rw[he] at h;injection h with h;subst h;have K4:=(K2.trans K3).trans ((Dr b).trans (Bt _ [40]));exact K1.trans (K4.trans ((iha _ _ _ _ he (hnew.keep K4)).trans (Eo _)))
   ·rw[args] at h
    by_cases hb:s.bad=true
    ·rw[if_pos hb] at h
     injection h with h;subst h;exact KS.refl _
    rw[if_neg hb] at h;by_cases hn:s.next [41]=true
    ·rw[if_pos hn] at h
     injection h with h;subst h;exact EG _
    rw[if_neg hn] at h;have K1:KS s (if b=true then s else s.need [44]):=by split <;>first|exact KS.refl _|exact Bt _ _
    cases he:expr f (if b=true then s else s.need [44]) n with
    |none=>rw[he] at h;simp at h
    |some s1=>
      rw[he] at h;have K2:=K1.trans (ihe _ _ _ he (hu.keep K1));exact K2.trans (iha _ _ _ _ h (hu.keep K2))
theorem X3(f:Nat):(∀s u s',stmt f s u=some s'→At s u (fun p=>3≤p)→KS s s')∧(∀s u s',block f s u=some s'→At s u (fun p=>3≤p)→KS s s')∧(∀s n s',stmts f s n=some s'→At s n (fun p=>3≤p)→KS s s'):=by
 induction f with
 |zero=>exact⟨fun _ _ _ h=>by simp[stmt] at h,fun _ _ _ h=>by simp[block] at h,fun _ _ _ h=>by simp[stmts] at h⟩
 |succ f ih=>
   obtain⟨ihs,ihb,ihl⟩:=ih;have E:=UE f;refine⟨fun s u s' h hu=> ?_,fun s u s' h hu=> ?_,fun s n s' h hu=> ?_⟩
   ·rw[stmt] at h
    try dsimp only at h
    have hus:=hu.keep (EG s);have nodeK:∀n:Node,n.kids=[]→4≤n.kind→n.kind≤20→n=nd n.kind→KS s (s.step.node u n)∧At (s.step.node u n) s.rows.length (fun p=>3≤p):=fun n hn h4 h20 he=>
     ⟨(EG s).trans (ER s.step u n hn (ge3 h4 hus) (by rw[he];exact GZ h20)),new3 (s:=s.step) (c:=n.kind) hus rfl h4⟩
    by_cases h1:s.next wLet=true
    ·rw[if_pos h1] at h
     have K0:=(EG s).trans (FH s.step);have hu1:=hu.keep K0;have hl:s.step.name.rows.length=s.rows.length:=by rw[(Ck s.step).2.2];rfl
     have K1:=K0.trans (ER s.step.name u (Ac 6 (s.step.text 1)) rfl (ge3 (Nat.le_of_ble_eq_true rfl) hu1) (KG (LH s.step).L (by decide)));have hnew:At (s.step.name.node u (Ac 6 (s.step.text 1))) s.rows.length (fun p=>3≤p):=by rw[←hl];exact new3 (c:=6) hu1 rfl (by omega)
     have K2:=((NK (s.step.name.node u (Ac 6 (s.step.text 1)))).trans (Ji _ s.rows.length (s.step.name.node u (Ac 6 (s.step.text 1))).typed.1)).trans (Bt _ [61]);generalize((s.step.name.node u (Ac 6 (s.step.text 1))).typed.2.BA s.rows.length (s.step.name.node u (Ac 6 (s.step.text 1))).typed.1).need [61]=a at h K2;cases he:expr f a s.rows.length with
     |none=>rw[he] at h;simp at h
     |some b=>
       rw[he] at h;injection h with h;subst h;exact K1.trans (K2.trans ((E.1 _ _ _ he (hnew.keep K2)).trans ((NN _ _ _).trans (Bt _ _))))
    rw[if_neg h1] at h;by_cases h2:s.next wIf=true
    ·rw[if_pos h2] at h
     obtain⟨K1,hnew⟩:=nodeK (nd 8) rfl (by decide) (by decide) rfl;cases he:expr f (s.step.node u (nd 8)) s.rows.length with
     |none=>rw[he] at h;simp at h
     |some a=>
       rw[he] at h;dsimp only at h;have K2:=E.1 _ _ _ he hnew;cases hb:block f a s.rows.length with
       |none=>rw[hb] at h;simp at h
       |some b=>
         rw[hb] at h;have K3:=ihb _ _ _ hb (hnew.keep K2);have K4:=(K2.trans K3).trans (Bt b LV);exact K1.trans (K4.trans (ihb _ _ _ h (hnew.keep K4)))
    rw[if_neg h2] at h;by_cases h3:s.next IC=true
    ·rw[if_pos h3] at h
     obtain⟨K1,hnew⟩:=nodeK (nd 9) rfl (by decide) (by decide) rfl;cases he:expr f (s.step.node u (nd 9)) s.rows.length with
     |none=>rw[he] at h;simp at h
     |some a=>
       rw[he] at h;have K2:=E.1 _ _ _ he hnew;exact K1.trans (K2.trans (ihb _ _ _ h (hnew.keep K2)))
    rw[if_neg h3] at h;by_cases h4:s.next IE=true
    ·rw[if_pos h4] at h
     obtain⟨K1,hnew⟩:=nodeK (nd 11) rfl (by decide) (by decide) rfl;cases he:expr f (s.step.node u (nd 11)) s.rows.length with
     |none=>rw[he] at h;simp at h
     |some a=>
       rw[he] at h;injection h with h;subst h;exact K1.trans ((E.1 _ _ _ he hnew).trans (Bt _ _))
    rw[if_neg h4] at h;by_cases h5:s.next wDo=true
    ·rw[if_pos h5] at h
     obtain⟨K1,hnew⟩:=nodeK (nd 12) rfl (by decide) (by decide) rfl;generalize(s.step.node u (nd 12))=a at h K1 hnew;cases he:call f a.name s.rows.length (a.text 1) with
     |none=>rw[he] at h;simp at h
     |some b=>
       rw[he] at h;injection h with h;subst h;exact(K1.trans (FH a)).trans ((E.2.1 _ _ _ _ he (hnew.keep (FH a))).trans (Bt _ _))
    rw[if_neg h5] at h;have hu1:=hu.keep (FH s);have hl:s.name.rows.length=s.rows.length:=by rw[(Ck s).2.2]
    have K1:=(FH s).trans (ER s.name u (nd 7) rfl (ge3 (by decide) hu1) (GZ (by decide)));have hnew:At (s.name.node u (nd 7)) s.rows.length (fun p=>3≤p):=by rw[←hl];exact new3 (c:=7) hu1 rfl (by omega)
    generalize(s.name.node u (nd 7))=a at h K1 hnew;have K2:=(NL a (s.text 1) s.rows.length).trans (Bt _ [61]);cases he:expr f (((a.find (s.text 1)).2.DL s.rows.length (a.find (s.text 1)).1).need [61]) s.rows.length with
    |none=>rw[he] at h;simp at h
    |some b=>
      rw[he] at h;injection h with h;subst h;exact K1.trans (K2.trans ((E.1 _ _ _ he (hnew.keep K2)).trans (Bt _ _)))
   ·rw[block] at h
    try dsimp only at h
    have K1:=ER s u (nd 5) rfl (ge3 (by decide) hu) (GZ (by decide));have hnew:At (s.node u (nd 5)) s.rows.length (fun p=>3≤p):=new3 (c:=5) hu rfl (by omega);generalize hbd:({(s.node u (nd 5)) with level:=(s.node u (nd 5)).level+1}:Rd)=b at h;have K2:KS (s.node u (nd 5)) b:=by rw[←hbd];exact MM rfl rfl
    by_cases hb:b.enter.bad=true
    ·rw[if_pos hb] at h
     injection h with h;subst h;exact(K1.trans K2).trans ((Dr _).trans ((Eo _).trans (Tw _)))
    ·rw[if_neg hb] at h
     cases he:stmts f (b.enter.need [123]) s.rows.length with
     |none=>rw[he] at h;simp at h
     |some a=>
       rw[he] at h;injection h with h;subst h;have K3:=K2.trans ((Dr b).trans (Bt _ [123]));exact K1.trans (K3.trans ((ihl _ _ _ he (hnew.keep K3)).trans ((Eo _).trans (Tw _))))
   ·rw[stmts] at h
    by_cases hb:s.bad=true
    ·rw[if_pos hb] at h
     injection h with h;subst h;exact KS.refl _
    rw[if_neg hb] at h;by_cases hn:s.next [125]=true
    ·rw[if_pos hn] at h
     injection h with h;subst h;exact EG _
    rw[if_neg hn] at h;cases he:stmt f s n with
    |none=>rw[he] at h;simp at h
    |some a=>
      rw[he] at h;have K1:=ihs _ _ _ he hu;exact K1.trans (ihl _ _ _ h (hu.keep K1))
theorem Us:∀(f:Nat) (b:Bool) (s:Rd) (k:Nat) (s':Rd),params f b s k=some s'→At s k (fun p=>3≤p)→KS s s':=by
 intro f
 induction f with
 |zero=>intro b s k s' h;simp[params] at h
 |succ f ih=>
   intro b s k s' h hu;rw[params] at h;by_cases hb:s.bad=true
   ·rw[if_pos hb] at h;injection h with h;subst h;exact KS.refl _
   rw[if_neg hb] at h;by_cases hn:s.next [41]=true
   ·rw[if_pos hn] at h;injection h with h;subst h;exact EG _
   rw[if_neg hn] at h;dsimp only at h;have K0:KS s (if b=true then s else s.need [44]):=by split <;>first|exact KS.refl _|exact Bt _ _
   generalize(if b=true then s else s.need [44])=r at h K0;have K1:=K0.trans (FH r);have K2:=K1.trans (ER r.name k (Ac 4 (r.text 1)) rfl (ge3 (Nat.le_of_ble_eq_true rfl) (hu.keep K1)) (KG (LH r).L (by decide)));have K3:=K2.trans ((NK _).trans ((Ji _ r.rows.length (r.name.node k (Ac 4 (r.text 1))).typed.1).trans (NN _ (r.text 1) r.rows.length)));exact K3.trans (ih _ _ _ _ h (hu.keep K3))
theorem Yf:∀(f:Nat) (s:Rd) (n:Nat) (s':Rd),body f s n=some s'→At s n (fun p=>3≤p)→KS s s':=by
 intro f
 induction f with
 |zero=>intro s n s' h;simp[body] at h
 |succ f ih=>
   intro s n s' h hu;rw[body] at h;by_cases hb:s.bad=true∨s.next Br=true
   ·rw[if_pos hb] at h;injection h with h;subst h;exact KS.refl _
   rw[if_neg hb] at h;cases he:stmt f s n with
   |none=>rw[he] at h;simp at h
   |some a=>
     rw[he] at h;have K1:=(X3 f).1 _ _ _ he hu;exact K1.trans (ih _ _ _ h (hu.keep K1))
theorem YY(f:Nat)(s:Rd)(u:Nat)(m:Str)(s':Rd)(h:func f s u m=some s')(hu:At s u (fun p=>p=2)):KS s s':=by
 unfold func at h;dsimp only at h;have K1:=(Bt s Df).trans (FH _);have hT:∀x:Rd,x.L=s.L→NdOk x (Ac 3 ((s.need Df).text 1)):=fun x hx=>KG (hx.trans (Cg s Df).L.symm) (by decide);generalize(s.need Df).text 1=t at h hT;generalize(s.need Df).name=a at h K1;have K2:KS s (if inL a.funcs (m++[32]++t)=true then a.fault 10 else a):=K1.trans (by split <;>first|exact NM _ _|exact KS.refl _);generalize(if inL a.funcs (m++[32]++t)=true then a.fault 10 else a)=b at h K2;change (match params f true (((b.node u (Ac 3 t)).Ff (m++[32]++t) b.rows.length).need [40]) b.rows.length with
  |none=>none
  |some r=>_)=some s' at h
 have hub:=hu.keep K2;have K3:=K2.trans (ER b u (Ac 3 t) rfl (hub.imp fun _ hp=> .inr (.inl ⟨hp,rfl⟩)) (hT b K2.n.L));have hnew:At (b.node u (Ac 3 t)) b.rows.length (fun p=>3≤p):=(Pm b u (Ac 3 t) hub.ne).imp fun k hk=>by rw[hk];exact Nat.le_refl 3
 have K4:KS (b.node u (Ac 3 t)) ((b.node u (Ac 3 t)).Ff (m++[32]++t) b.rows.length):=Gz rfl (WV _ _ _);have hnew4:=hnew.keep K4;have K5:=K3.trans K4;generalize(b.node u (Ac 3 t)).Ff (m++[32]++t) b.rows.length=c at h K5 hnew4;cases hp:params f true (c.need [40]) b.rows.length with
 |none=>rw[hp] at h;simp at h
 |some p=>
   rw[hp] at h;dsimp only at h;have K6:=(Bt c [40]).trans (Us _ _ _ _ _ hp (hnew4.keep (Bt c [40])));have K7:=K6.trans ((NK p).trans (Ji _ b.rows.length p.typed.1));have hn7:=hnew4.keep K7;have K8:=K7.trans (ER _ b.rows.length (nd 5) rfl (ge3 (by decide) hn7) (GZ (by decide)));have hb8:At ((p.typed.2.BA b.rows.length p.typed.1).node b.rows.length (nd 5)) (p.typed.2.BA b.rows.length p.typed.1).rows.length (fun p=>3≤p):=new3 (c:=5) hn7 rfl (by omega);have K9:=K8.trans (Bt _ [123]);have hb9:=hb8.keep (Bt _ [123]);generalize((p.typed.2.BA b.rows.length p.typed.1).node b.rows.length (nd 5)).need [123]=q at h K9 hb9;cases hq:body f q (p.typed.2.BA b.rows.length p.typed.1).rows.length with
   |none=>rw[hq] at h;simp at h
   |some v=>
     rw[hq] at h;dsimp only at h;have K10:=Yf _ _ _ _ hq hb9;have K11:=K10.trans (Bt v Br);have hb11:=hb9.keep K11;have K12:=K11.trans (ER _ _ (nd 10) rfl (ge3 (by decide) hb11) (GZ (by decide)));have hn12:At ((v.need Br).node (p.typed.2.BA b.rows.length p.typed.1).rows.length (nd 10)) (v.need Br).rows.length (fun p=>3≤p):=new3 (c:=10) hb11 rfl (by omega);cases hx:expr f ((v.need Br).node (p.typed.2.BA b.rows.length p.typed.1).rows.length (nd 10)) (v.need Br).rows.length with
     |none=>rw[hx] at h;simp at h
     |some x=>
       rw[hx] at h;injection h with h;subst h;exact K5.trans (K9.trans (K12.trans (((UE f).1 _ _ _ hx hn12).trans ((Bt _ _).trans (Bt _ _)))))
theorem Pb(f:Nat):∀(g:Nat) (s:Rd) (m:Nat) (t:Str) (s':Rd),CB f g s m t=some s'→At s m (fun p=>p=2)→KS s s':=by
 intro g
 induction g with
 |zero=>intro s m t s' h;simp[CB] at h
 |succ g ih=>
   intro s m t s' h hu;rw[CB] at h;by_cases hb:s.bad=true
   ·rw[if_pos hb] at h;injection h with h;subst h;exact KS.refl _
   rw[if_neg hb] at h;by_cases hn:s.next [125]=true
   ·rw[if_pos hn] at h;injection h with h;subst h;exact EG _
   rw[if_neg hn] at h;cases he:func f s m t with
   |none=>rw[he] at h;simp at h
   |some a=>
     rw[he] at h;have K1:=YY _ _ _ _ _ he hu;exact K1.trans (ih _ _ _ _ h (hu.keep K1))
theorem Qp(f:Nat):∀(g:Nat) (s:Rd) (root:Nat) (s':Rd),CZ f g s root=some s'→At s root (fun p=>p=1)→KS s s':=by
 intro g
 induction g with
 |zero=>intro s r s' h;simp[CZ] at h
 |succ g ih=>
   intro s root s' h hu;rw[CZ] at h;by_cases hb:s.bad=true∨s.L.length≤s.at_
   ·rw[if_pos hb] at h;injection h with h;subst h;exact KS.refl _
   rw[if_neg hb] at h;dsimp only at h;have K1:=(Bt s DI).trans (FH _);have hT:∀x:Rd,x.L=s.L→NdOk x (Ac 2 ((s.need DI).text 1)):=fun x hx=>KG (hx.trans (Cg s DI).L.symm) (by decide);generalize(s.need DI).text 1=t at h hT;generalize(s.need DI).name=a at h K1;have K2:KS s (if inL a.mods t=true then a.fault 10 else a):=K1.trans (by split <;>first|exact NM _ _|exact KS.refl _);generalize(if inL a.mods t=true then a.fault 10 else a)=b at h K2;generalize hc:({b with mods:=b.mods++[t]}:Rd)=c at h;have hcr:c.rows=b.rows:=by rw[←hc]
   have K3:=K2.trans (show KS b c from by rw[←hc];exact MM rfl rfl);have huc:=hu.keep K3;have K4:=K3.trans (ER c root (Ac 2 t) rfl (huc.imp fun _ hp=> .inl ⟨hp,rfl⟩) (hT c K3.n.L));have hnew:At (c.node root (Ac 2 t)) b.rows.length (fun p=>p=2):=by rw[←hcr];exact Pm c root (Ac 2 t) huc.ne
   have K5:=Bt (c.node root (Ac 2 t)) [123];cases he:CB f f ((c.node root (Ac 2 t)).need [123]) b.rows.length t with
   |none=>rw[he] at h;simp at h
   |some d=>
     rw[he] at h;have K6:=K4.trans (K5.trans (Pb _ _ _ _ _ _ he (hnew.keep K5)));exact K6.trans (ih _ _ _ h (hu.keep K6))
theorem KJ:∀(fs:List Str) (is:List Nat) (t:Str) (z:Nat),DT fs is t z≠0→DT fs is t z=z∨DT fs is t z∈is
 |[],_,_,_,_=>by simp[DT]
 |_::_,[],_,_,_=>by simp[DT]
 |f::fs,i::is,t,z,h=>by
   unfold DT at h⊢;rcases KJ fs is t _ h with e|e
   ·split at e
    ·rename_i hc;rw[if_pos hc];rw[e];exact .inr (by simp)
    ·rename_i hc;rw[if_neg hc];exact .inl e
   ·exact .inr (List.mem_cons_of_mem _ e)
theorem YP:∀(is:List Nat) (ws:List Str) (s:Rd),KS s (link is ws s):=by
 intro is
 induction is with
 |nil=>intro ws s;cases ws <;>exact KS.refl _
 |cons i is ih=>
   intro ws s;cases ws with
   |nil=>exact KS.refl _
   |cons t ws=>
     rw[link];refine KS.trans ?_ (ih ws _);split
     ·rename_i h0
      rw[h0];exact(NM _ _).trans (OZ _ _ _ fun R _ _=>Nat.zero_le _)
     ·refine OZ _ _ _ fun R hR x=> ?_
      rename_i h0
      rcases KJ _ _ _ _ h0 with e|e
      ·exact absurd e h0
      ·exact(x R hR).2.2 _ e
theorem Fv(f:Nat)(l:List Tok)(s':Rd)(h:program f (Bd l)=some s'):Tr s'.rows∧(∀M,(∀t∈l,t.text.length≤M)→∀r∈s'.rows,Nk M r.node)∧(∀r∈s'.rows,r.node.ref≤s'.rows.length)∧0 < s'.rows.length:=by
 unfold program at h;dsimp only at h;have hr:((Bd l).node 0 (nd 1)).rows=[⟨1,nd 1⟩]:=rfl;have hat:At ((Bd l).node 0 (nd 1)) (Bd l).rows.length (fun p=>p=1):=⟨⟨1,nd 1⟩,by rw[hr];rfl,rfl⟩;cases e:CZ f f ((Bd l).node 0 (nd 1)) (Bd l).rows.length with
 |none=>rw[e] at h;simp at h
 |some a=>
   rw[e] at h;injection h with h;subst h;have K:=(Qp _ _ _ _ _ e hat).trans (YP a.calls a.wants a);have N:=(Tm (Bd l) 0 (nd 1) (GZ (by decide))).trans K.n;refine⟨K.z.tr (by rw[hr];exact P9 _ rfl rfl),fun M hM=>N.nb (fun M hM r hr=>by cases hr) M (by rw[N.L];exact hM),fun r hr=>((N.rb (fun R _=>⟨fun r hr=>(by cases hr),fun b hb=>(by cases hb),fun i hi=>(by cases hi)⟩) _ AA).1 r hr).2, ?_⟩;have:=K.n.len;rw[hr] at this;exact this
theorem Rw(f:Nat)(l:List Tok)(s':Rd)(h:program f (Bd l)=some s'):Tr s'.rows:=(Fv f l s' h).1
end Rd
end Hg
namespace Hg
theorem Yq{s:Str}{c:UInt8}{r:Str}(hs:s=c::r)(p:UInt8→Bool)(h:p c=true):1≤(s.takeWhile p).length:=by
 subst hs;rw[List.takeWhile_cons,if_pos h];simp
theorem ZP(s:Str)(p:UInt8→Bool):(s.takeWhile p).length≤s.length:=(List.takeWhile_sublist p).length_le
theorem Gx(M:Nat):∀(f i:Nat) (s:Str) (acc l:List Tok),BG f i s acc=some l→s.length≤M→(∀t∈acc,t.text.length≤M)→l.length≤acc.length+s.length∧∀t∈l,t.text.length≤M
 |0,i,s,acc,l,h,hM,ha=>by
   rw[BG] at h;injection h with h;subst h;exact⟨by omega,ha⟩
 |f+1,i,[],acc,l,h,hM,ha=>by
   rw[BG] at h;injection h with h;subst h;exact⟨by omega,ha⟩
 |f+1,i,c::r,acc,l,h,hM,ha=>by
   rw[BG] at h;simp only[List.length_cons] at hM;by_cases h3:cls c=3
   ·rw[if_pos h3] at h
    obtain⟨h1,h2⟩:=Gx M f _ r acc l h (by omega) ha;exact⟨by simp;omega,h2⟩
   rw[if_neg h3] at h;by_cases h35:c.toNat=35
   ·rw[if_pos h35] at h
    dsimp only at h;obtain⟨h1,h2⟩:=Gx M f _ _ acc l h (by simp;omega) ha;exact⟨by simp only[List.length_drop] at h1;simp only[List.length_cons] at*;omega,h2⟩
   rw[if_neg h35] at h;have hadd:∀(w:Str) (k:Nat) (tk:Tok),1≤w.length→w.length≤r.length+1→tk.text=w→BG f k ((c::r).drop w.length) (acc++[tk])=some l→l.length≤acc.length+(c::r).length∧∀t∈l,t.text.length≤M:=by
    intro w k tk hw1 hw2 ht h;obtain⟨h1,h2⟩:=Gx M f _ _ _ l h (by simp;omega) (fun t ht'=>by
     rcases List.mem_append.1 ht' with h'|h'
     ·exact ha t h'
     ·simp at h';subst h';rw[ht];omega)
    refine⟨?_,h2⟩;simp only[List.length_append,List.length_drop,List.length_cons,List.length_nil] at h1⊢;omega
   by_cases h0:0 < cls c
   ·rw[if_pos h0] at h
    dsimp only at h;have hp:Ba c=true:=by
     have h4:cls c≤3:=by
      unfold cls;repeat' split
      all_goals omega
     unfold Ba;have:cls c=1∨cls c=2:=by omega
     rcases this with e|e <;>simp[e]
    have hw1:=Yq rfl Ba hp (r:=r);have hw2:=ZP (c::r) Ba;simp only[List.length_cons] at hw2;generalize List.takeWhile Ba (c::r)=w at h hw1 hw2;by_cases a1:inL words w=true
    ·rw[if_pos a1] at h;exact hadd w _ _ hw1 hw2 rfl h
    rw[if_neg a1] at h;by_cases a2:Cb w=true
    ·rw[if_pos a2] at h;exact hadd w _ _ hw1 hw2 rfl h
    rw[if_neg a2] at h;by_cases a3:0≤CK w
    ·rw[if_pos a3] at h;exact hadd w _ _ hw1 hw2 rfl h
    rw[if_neg a3] at h;cases h
   ·rw[if_neg h0] at h
    dsimp only at h;have hw:∀w,w=(if inL signs ((c::r).take 2)=true∧2≤(c::r).length then(c::r).take 2 else(c::r).take 1)→1≤w.length∧w.length≤r.length+1:=by
     intro w hw;subst hw;split
     ·simp;omega
     ·simp
    generalize(if inL signs ((c::r).take 2)=true∧2≤(c::r).length then(c::r).take 2 else(c::r).take 1)=w at h hw;obtain⟨hw1,hw2⟩:=hw _ rfl;by_cases a1:inL signs w=true
    ·rw[if_pos a1] at h;exact hadd w _ _ hw1 hw2 rfl h
    ·rw[if_neg a1] at h;cases h
theorem Kt{s:Str}{l:List Tok}(h:Dk s=some l):l.length≤s.length∧∀t∈l,t.text.length≤s.length:=by
 have:=Gx s.length s.length 0 s [] l h AA (fun t ht=>by simp at ht);simpa using this
def CE(s:Str):List Row×Nat:=(PK (3*s.length+10) s).getD ([],0)
theorem Fe{s:Str}(h:Dk s=none):CE s=([],20):=by unfold CE PK;rw[h];rfl
theorem Fb{s:Str}{l:List Tok}(h:Dk s=some l):∃r,Rd.program (3*s.length+10) (Rd.Bd l)=some r∧r.rows.length≤3*s.length+4∧r.at_≤2*s.length+2∧Tr r.rows∧
 CE s=if r.bad=true then([],20) else if 20000 < r.rows.length then([],5) else if r.names≠0 then([],r.names) else(r.rows,0):=by
 obtain⟨h1,_⟩:=Kt h;obtain⟨r,hr,h2,h3⟩:=Rd.PM (3*s.length+10) l (by omega);refine⟨r,hr,by omega,by omega,Rd.Rw _ _ _ hr, ?_⟩;unfold CE PK;rw[h];dsimp only;rw[hr];dsimp only
 repeat' split
 all_goals rfl
theorem Mx(s:Str):((CE s).1=[]∨Tr (CE s).1)∧(CE s).1.length≤20000:=by
 cases h:Dk s with
 |none=>rw[Fe h];exact⟨.inl rfl,by simp⟩
 |some l=>
   obtain⟨r,_,_,_,ht,e⟩:=Fb h;rw[e];split
   ·exact⟨.inl rfl,by simp⟩
   ·split
    ·exact⟨.inl rfl,by simp⟩
    ·split
     ·exact⟨.inl rfl,by simp⟩
     ·exact⟨.inr ht,by simp;omega⟩
def tkAt(L:List Tok)(k:Nat):Tok:=L.getD k ⟨0,[],0⟩
def tkIs(L:List Tok)(k:Nat)(s:List UInt8):Bool:=(tkAt L k).text==s && (decide ((tkAt L k).kind=3)||decide ((tkAt L k).kind=4))
def tkB(L:List Tok)(k:Nat)(s:List UInt8):Bool:=decide (k < L.length) && tkIs L k s
inductive GT where
 |mk (b:Nat) (nd:Node) (md tt:Str) (ks:List GT)
namespace GT
def b:GT→Nat| .mk b _ _ _ _=>b
def nd:GT→Node| .mk _ n _ _ _=>n
def md:GT→Str| .mk _ _ m _ _=>m
def tt:GT→Str| .mk _ _ _ t _=>t
def ks:GT→List GT| .mk _ _ _ _ k=>k
mutual
def map(f:Nat→Nat):GT→GT| .mk b nd md tt ks=> .mk (f b) nd md tt (mapL f ks)
def mapL(f:Nat→Nat):List GT→List GT|[]=>[]|t::ts=>map f t::mapL f ts
end
end GT
def ndK(kind:Nat):Node:=⟨kind,[],0,0,0,[]⟩
def gmk(kind:Nat)(num:Int)(tt:Str)(ks:List GT):GT:= .mk 0 ⟨kind,[],num,0,0,[]⟩ [] tt ks
def digit(s:Str):Option Nat:=(List.range 256).find? fun n=>numT n==s
def X4:List Str:=[[43],[45],[42],[47],[37],[60],[60,61],[62],[62,61],[61,61],[33,61],[38,38],[124,124]]
def V3(s:Str):Nat:=match X4.findIdx? (· ==s) with|some k=>k+1|none=>0
def Yk(L:List Tok)(item:Nat→Option (GT×Nat)):Nat→Nat→Option (List GT×Nat)
 |0,_=>none
 |n+1,k=>match item k with
   |none=>none
   |some (a,k1)=>
     if tkB L k1 [41] then some ([a],k1+1)
     else if tkB L k1 [44] then match Yk L item n (k1+1) with
      |none=>none
      |some (l,k2)=>some (a::l,k2)
     else none
def ZU(L:List Tok)(item:Nat→Option (GT×Nat))(k:Nat):Option (List GT×Nat):=
 if tkB L k [41] then some ([],k+1) else Yk L item L.length k
def gC(L:List Tok)(item:Nat→Option (GT×Nat))(d:Nat)(mod:Str)(k:Nat):Option (GT×Nat):=
 if tkB L k [46] && (decide (k+1 < L.length) && (decide ((tkAt L (k+1)).kind=1) && (decide (d < 60) && tkB L (k+2) [40]))) then
  match ZU L item (k+3) with
  |none=>none
  |some (l,k2)=>some (.mk 0 (ndK 19) mod (tkAt L (k+1)).text l,k2)
 else none
def gE(L:List Tok):Nat→Nat→Nat→Option (GT×Nat)
 |0,_,_=>none
 |f+1,d,k=>
   if L.length≤k then none
   else if (tkAt L k).kind=2 then match digit (tkAt L k).text with
    |some n=>some (gmk 13 n [] [],k+1)
    |none=>none
   else if (tkAt L k).kind=1 then
    if L.length≤k+1 then none
    else if tkIs L (k+1) [46] then gC L (gE L f (d+1)) d (tkAt L k).text (k+1)
    else some (gmk 15 0 (tkAt L k).text [],k+1)
   else if tkIs L k Ju then some (gmk 14 1 [] [],k+1)
   else if tkIs L k Gq then some (gmk 14 0 [] [],k+1)
   else if tkIs L k Jv then none
   else if tkIs L k [33] then none
   else if tkIs L k [45] then none
   else if tkIs L k [40] then
    if d < 60 then match gE L f (d+1) (k+1) with
     |none=>none
     |some (a,k1)=>
       if L.length≤k1 then none
       else if V3 (tkAt L k1).text=0 then none
       else match gE L f (d+1) (k1+1) with
        |none=>none
        |some (b,k2)=>if tkB L k2 [41] then some (gmk 18 (V3 (tkAt L k1).text) [] [a,b],k2+1) else none
    else none
   else none
def Ga(L:List Tok)(k:Nat):Bool:=decide (k < L.length) && decide ((tkAt L k).kind=1)
mutual
def num(n:Nat):GT→GT×Nat| .mk _ nd md tt ks=>let r:=numL (n+1) ks;(.mk n nd md tt r.1,r.2)
def numL(n:Nat):List GT→List GT×Nat
 |[]=>([],n)
 |t::ts=>let r:=num n t;let q:=numL r.2 ts;(r.1::q.1,q.2)
end
structure NmSt where
 used:List Str
 scope:List (List (Str×Nat))
 refs:List (Nat×Nat)
 calls:List GT
def NmSt.declare(σ:NmSt)(t:GT):Except Nat NmSt:=
 if t.nd.name∈σ.used then .error 1
 else match σ.scope with
 |[]=> .error 0
 |l::ls=> .ok {σ with used:=t.nd.name::σ.used,scope:=((t.nd.name,t.b)::l)::ls}
end Hg
namespace Hg
theorem NI:∀{l:List Row} {r:Row},r∈l→r.node.kids.length≤BF l
 |[],r,h=>by simp at h
 |x::l,r,h=>by
   rw[DZ];rcases List.mem_cons.1 h with h|h
   ·subst h;omega
   ·have:=NI h;omega
theorem Tr.sum{l:List Row}(h:Tr l):BF l=l.length-1:=by
 have:=h.perm.length_eq;rw[List.length_flatMap] at this;simpa[BF] using this
theorem Tr.kids{l:List Row}(h:Tr l)(r:Row)(hr:r∈l):r.node.kids.length≤l.length:=by
 have h1:=h.sum;have h2:r.node.kids.length≤BF l:=by
  exact NI hr
 omega
theorem Tr.kid0{l:List Row}(h:Tr l)(x:Nat):∀k∈(AL l x).kids,k≠0:=by
 intro k hk;cases hi:atI l x with
 |none=>rw[Cw l x hi] at hk;simp[Node.zero] at hk
 |some i=>
   rw[DR l x i hi] at hk;have hl:i < l.length:=by
    unfold atI at hi;exact(List.findIdx?_eq_some_iff_getElem.1 hi).1
   have e:rowAt l i=l[i]:=by simp[rowAt,hl]
   rw[e] at hk;have:=h.up i l[i] (AX hl) k hk;omega
theorem QX(s:Str):∀r∈(CE s).1,Nk s.length r.node:=by
 cases h:Dk s with
 |none=>rw[Fe h];intro r hr;simp at hr
 |some l=>
   obtain⟨r,hp,_,_,ht,e⟩:=Fb h;obtain⟨_,h2⟩:=Kt h;rw[e];split
   ·intro r hr;simp at hr
   ·split
    ·intro r hr;simp at hr
    ·split
     ·intro r hr;simp at hr
     ·exact(Rd.Fv _ _ _ hp).2.1 _ h2
theorem WL(s:Str):∀r∈(CE s).1,r.node.ref≤(CE s).1.length:=by
 cases h:Dk s with
 |none=>rw[Fe h];intro r hr;simp at hr
 |some l=>
   obtain⟨r,hp,_,_,ht,e⟩:=Fb h;rw[e];split
   ·intro r hr;simp at hr
   ·split
    ·intro r hr;simp at hr
    ·split
     ·intro r hr;simp at hr
     ·exact(Rd.Fv _ _ _ hp).2.2.1
theorem Uq(s:Str)(h0:(CE s).2=0):0 < (CE s).1.length:=by
 cases h:Dk s with
 |none=>rw[Fe h] at h0;cases h0
 |some l=>
   obtain⟨r,hp,_,_,ht,e⟩:=Fb h;rw[e] at h0⊢
   split at h0
   ·cases h0
   ·rename_i c1
    rw[if_neg c1]
    split at h0
    ·cases h0
    ·rename_i c2
     rw[if_neg c2]
     split at h0
     ·rename_i c3;exact absurd h0 c3
     ·rename_i c3;rw[if_neg c3];exact(Rd.Fv _ _ _ hp).2.2.2
def FI(s:Str):List Row:=if (CE (s.take 900)).2≠0 then[⟨1,⟨1,[],0,0,0,[]⟩⟩] else(CE (s.take 900)).1
def IM(s:Str)(bs:List Bend):List Row:=bent 0 bs (FI s)
theorem Sz:Dy 1 [⟨1,⟨1,[],0,0,0,[]⟩⟩]:=by
 refine⟨rfl, ?_,by decide, ?_, ?_, ?_, ?_⟩
 ·intro k r h
  cases k with
  |zero=>injection h with h;subst h;rfl
  |succ k=>cases h
 all_goals (intro r hr;rw[List.mem_singleton] at hr;subst hr)
 ·intro c hc;cases hc
 ·decide
 ·decide
 ·decide
theorem Pk(s:Str)(hs:s.length≤1000000):Dy (CE s).1.length (CE s).1:=by
 obtain⟨h1,h2⟩:=Mx s;have hnb:=QX s;rcases h1 with h1|h1
 ·rw[h1]
  refine⟨rfl,fun k r h=>(by cases h),by simp[BF], ?_, ?_, ?_, ?_⟩ <;>(intro r hr;cases hr)
 ·refine⟨rfl,fun k r h=>(by rw[h1.rid k r h];omega),by rw[h1.sum];omega,fun r hr c hc=> ?_,fun r hr=>(hnb r hr).1,fun r hr=>(by have:=(hnb r hr).2.2;omega),fun r hr=>(hnb r hr).2.1⟩
  obtain⟨k,hk⟩:=List.mem_iff_getElem?.1 hr;exact(h1.up k r hk c hc).2
theorem SS(s:Str):∃N,N≤20000∧Dy N (FI s):=by
 unfold FI;split
 ·exact⟨1,by decide,Sz⟩
 ·exact⟨_,(Mx _).2,Pk _ (by rw[List.length_take];omega)⟩
def sc1(l:List Row)(r:Row):Bool:=decide (r.node.kind < 1∨20 < r.node.kind∨decide (r.node.kind=1)≠decide (r.id=1)∨fits r.node.kind (classes l r.node.kids) (decide (kindOf l (parentOf l r.id).1=3))=false)
def sc2(r:Row):Bool:=decide (isNamed r.node.kind≠(r.node.name !=[])∨isNamed r.node.kind=true∧(Cb r.node.name=false∨inL words r.node.name=true))
def CL(k:Nat):Bool:=isNamed k && decide (k≠2)
def sc3(r:Row):Bool:=decide (CL r.node.kind≠(decide (r.node.type=1)||decide (r.node.type=2))∨CL r.node.kind=false∧r.node.type≠0)
def sc4(l:List Row)(r:Row):Bool:=
 if r.node.kind=7∨r.node.kind=15 then decide (kindOf l r.node.ref≠4∧kindOf l r.node.ref≠6)
 else if r.node.kind=19 then decide (kindOf l r.node.ref≠3) else decide (r.node.ref≠0)
def E9(k:Nat):Int:=if k=18 then 1 else 0
def EJ(k:Nat):Int:=if k=13 then 9223372036854775807 else if k=14 then 1 else if k=18 then 13 else 0
def sc5(r:Row):Bool:=decide (r.node.num < E9 r.node.kind∨EJ r.node.kind < r.node.num)
theorem PT(k:Nat):(k=13→E9 k=0∧EJ k=9223372036854775807)∧(k=14→E9 k=0∧EJ k=1)∧(k=18→E9 k=1∧EJ k=13)∧(k≠13∧k≠14∧k≠18→E9 k=0∧EJ k=0):=by
 unfold E9 EJ;refine⟨fun h=> ?_,fun h=> ?_,fun h=> ?_,fun h=> ?_⟩
 ·subst h;exact⟨rfl,rfl⟩
 ·subst h;exact⟨rfl,rfl⟩
 ·subst h;exact⟨rfl,rfl⟩
 ·rw[if_neg h.2.2,if_neg h.1,if_neg h.2.1,if_neg h.2.2];exact⟨rfl,rfl⟩
theorem Gv(l:List Row)(r:Row)(hn:r.node.num≤9223372036854775807):Bo l r=(!sc1 l r && !sc2 r && !sc3 r && !sc4 l r && !sc5 r):=by
 unfold Bo;dsimp only;rw[show(isNamed r.node.kind && decide (r.node.kind≠2))=CL r.node.kind from rfl];by_cases h1:sc1 l r=true
 ·rw[if_pos (of_decide_eq_true h1)];simp[h1]
 rw[if_neg (fun h=>h1 (decide_eq_true h))];have e1:sc1 l r=false:=by simpa using h1
 by_cases h2:sc2 r=true
 ·rw[if_pos (of_decide_eq_true h2)];simp[h2]
 rw[if_neg (fun h=>h2 (decide_eq_true h))];have e2:sc2 r=false:=by simpa using h2
 by_cases h3:sc3 r=true
 ·rw[if_pos (of_decide_eq_true h3)];simp[h3]
 rw[if_neg (fun h=>h3 (decide_eq_true h))];have e3:sc3 r=false:=by simpa using h3
 rw[e1,e2,e3];simp only[Bool.not_false,Bool.true_and];obtain⟨l13,l14,l18,lo⟩:=PT r.node.kind;unfold sc4 sc5;by_cases k7:r.node.kind=7∨r.node.kind=15
 ·obtain⟨a1,a2⟩:=lo (by omega)
  rw[if_pos k7,if_pos k7,a1,a2];by_cases hk:kindOf l r.node.ref≠4∧kindOf l r.node.ref≠6
  ·rw[if_pos hk,decide_eq_true hk];rfl
  ·rw[if_neg hk,decide_eq_false hk]
   rw[Bool.eq_iff_iff];simp;omega
 rw[if_neg k7,if_neg k7];by_cases k19:r.node.kind=19
 ·obtain⟨a1,a2⟩:=lo (by omega)
  rw[if_pos k19,if_pos k19,a1,a2];by_cases hk:kindOf l r.node.ref≠3
  ·rw[if_pos hk,decide_eq_true hk];rfl
  ·rw[if_neg hk,decide_eq_false hk]
   rw[Bool.eq_iff_iff];simp;omega
 rw[if_neg k19,if_neg k19];by_cases hr:r.node.ref≠0
 ·rw[if_pos hr,decide_eq_true hr];rfl
 rw[if_neg hr,decide_eq_false hr];by_cases k13:r.node.kind=13
 ·obtain⟨a1,a2⟩:=l13 k13
  rw[if_pos k13,a1,a2];rw[Bool.eq_iff_iff];simp;omega
 rw[if_neg k13];by_cases k14:r.node.kind=14
 ·obtain⟨a1,a2⟩:=l14 k14
  rw[if_pos k14,a1,a2];rw[Bool.eq_iff_iff];simp
 rw[if_neg k14];by_cases k18:r.node.kind=18
 ·obtain⟨a1,a2⟩:=l18 k18
  rw[if_pos k18,a1,a2];rw[Bool.eq_iff_iff];simp <;>omega
 rw[if_neg k18];obtain⟨a1,a2⟩:=lo ⟨k13,k14,k18⟩;rw[a1,a2];rw[Bool.eq_iff_iff];simp;omega
end Hg
