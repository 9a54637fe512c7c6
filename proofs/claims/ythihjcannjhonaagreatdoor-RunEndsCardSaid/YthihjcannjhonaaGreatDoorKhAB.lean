/-
  A part of the proof.
-/
import Derived.Test.YthihjcannjhonaaGreatDoorKhAA
set_option linter.all false
namespace Hg
def tkAt(L:List Tok)(k:Nat):Tok:=L.getD k ⟨0,[],0⟩
def tkIs(L:List Tok)(k:Nat)(s:List UInt8):Bool:=(tkAt L k).text==s && (decide ((tkAt L k).kind=3)||decide ((tkAt L k).kind=4))
def tkB(L:List Tok)(k:Nat)(s:List UInt8):Bool:=decide (k < L.length) && tkIs L k s
inductive GT where
 |mk (b:Nat) (nd:Node) (md tt:Str) (ks:List GT)
namespace GT
def b:GT→Nat| .mk b _ _ _ _=>b
def nd:GT→Node| .mk _ n _ _ _=>n
def md:GT→Str| .mk _ _ m _ _=>m
def tt:GT→Str| .mk _ _ _ t _=>t
def ks:GT→List GT| .mk _ _ _ _ k=>k
mutual
def map(f:Nat→Nat):GT→GT| .mk b nd md tt ks=> .mk (f b) nd md tt (mapL f ks)
def mapL(f:Nat→Nat):List GT→List GT|[]=>[]|t::ts=>map f t::mapL f ts
end
end GT
def ndK(kind:Nat):Node:=⟨kind,[],0,0,0,[]⟩
def gmk(kind:Nat)(num:Int)(tt:Str)(ks:List GT):GT:= .mk 0 ⟨kind,[],num,0,0,[]⟩ [] tt ks
def digit(s:Str):Option Nat:=(List.range 256).find? fun n=>numT n==s
def X5:List Str:=[[43],[45],[42],[47],[37],[60],[60,61],[62],[62,61],[61,61],[33,61],[38,38],[124,124]]
def V4(s:Str):Nat:=match X5.findIdx? (· ==s) with|some k=>k+1|none=>0
def Yk(L:List Tok)(item:Nat→Option (GT×Nat)):Nat→Nat→Option (List GT×Nat)
 |0,_=>none
 |n+1,k=>match item k with
   |none=>none
   |some (a,k1)=>
     if tkB L k1 [41] then some ([a],k1+1)
     else if tkB L k1 [44] then match Yk L item n (k1+1) with
      |none=>none
      |some (l,k2)=>some (a::l,k2)
     else none
def ZY(L:List Tok)(item:Nat→Option (GT×Nat))(k:Nat):Option (List GT×Nat):=
 if tkB L k [41] then some ([],k+1) else Yk L item L.length k
def gC(L:List Tok)(item:Nat→Option (GT×Nat))(d:Nat)(mod:Str)(k:Nat):Option (GT×Nat):=
 if tkB L k [46] && (decide (k+1 < L.length) && (decide ((tkAt L (k+1)).kind=1) && (decide (d < 60) && tkB L (k+2) [40]))) then
  match ZY L item (k+3) with
  |none=>none
  |some (l,k2)=>some (.mk 0 (ndK 19) mod (tkAt L (k+1)).text l,k2)
 else none
def gE(L:List Tok):Nat→Nat→Nat→Option (GT×Nat)
 |0,_,_=>none
 |f+1,d,k=>
   if L.length≤k then none
   else if (tkAt L k).kind=2 then match digit (tkAt L k).text with
    |some n=>some (gmk 13 n [] [],k+1)
    |none=>none
   else if (tkAt L k).kind=1 then
    if L.length≤k+1 then none
    else if tkIs L (k+1) [46] then gC L (gE L f (d+1)) d (tkAt L k).text (k+1)
    else some (gmk 15 0 (tkAt L k).text [],k+1)
   else if tkIs L k JP then some (gmk 14 1 [] [],k+1)
   else if tkIs L k GK then some (gmk 14 0 [] [],k+1)
   else if tkIs L k JQ then none
   else if tkIs L k [33] then none
   else if tkIs L k [45] then none
   else if tkIs L k [40] then
    if d < 60 then match gE L f (d+1) (k+1) with
     |none=>none
     |some (a,k1)=>
       if L.length≤k1 then none
       else if V4 (tkAt L k1).text=0 then none
       else match gE L f (d+1) (k1+1) with
        |none=>none
        |some (b,k2)=>if tkB L k2 [41] then some (gmk 18 (V4 (tkAt L k1).text) [] [a,b],k2+1) else none
    else none
   else none
def Gg(L:List Tok)(k:Nat):Bool:=decide (k < L.length) && decide ((tkAt L k).kind=1)
mutual
def num(n:Nat):GT→GT×Nat| .mk _ nd md tt ks=>let r:=numL (n+1) ks;(.mk n nd md tt r.1,r.2)
def numL(n:Nat):List GT→List GT×Nat
 |[]=>([],n)
 |t::ts=>let r:=num n t;let q:=numL r.2 ts;(r.1::q.1,q.2)
end
structure NmSt where
 used:List Str
 scope:List (List (Str×Nat))
 refs:List (Nat×Nat)
 calls:List GT
def NmSt.declare(σ:NmSt)(t:GT):Except Nat NmSt:=
 if t.nd.name∈σ.used then .error 1
 else match σ.scope with
 |[]=> .error 0
 |l::ls=> .ok {σ with used:=t.nd.name::σ.used,scope:=((t.nd.name,t.b)::l)::ls}
end Hg
namespace Hg
structure RS where
 e:Nat
 used:Nat
 trace:List Int
 nc:Nat
structure RV where
 v:Nat→Int
 c:Nat
def RV.set(V:RV)(id:Nat)(x:Int):RV:=⟨fun i=>if i=id then x else V.v i,V.c+1⟩
structure RC where
 M:Nat→Option Node
 fuel:Nat
def RC.nd(C:RC)(id:Nat):Node:=(C.M id).getD Node.zero
def RS.ask(s:RS):RS:={s with nc:=s.nc+1}
def Mx(x:Int):Int:=(x+9223372036854775808) % 18446744073709551616-9223372036854775808
def RC.burn(C:RC)(s:RS):Bool×RS:=
 if s.e=0 then(if C.fuel≤s.used then(false,{s with e:=2}) else(true,{s with used:=s.used+1})) else(false,s)
def rOne(b:Bool):Int:=if b then 1 else 0
def ZW(op x y:Int):Int:=if op=1 then Mx (x+y) else rOne (decide (x < y))
def RC.expr(C:RC)(V:RV):Nat→Nat→RS→Option (Int×RS)
 |0,_,_=>none
 |d+1,id,s=>
   if s.e≠0∨18446744073709551616≤id∨1000000≤s.nc then none
   else if (C.nd id).kind=13 then some ((C.nd id).num,s.ask)
   else if (C.nd id).kind=15 then some (V.v (C.nd id).ref,s.ask)
   else if (C.nd id).kind=18∧((C.nd id).num=1∨(C.nd id).num=6)∧(C.nd id).kids.length=2 then
    (C.expr V d ((C.nd id).kids.getD 0 0) s.ask).bind fun(x,s)=>(C.expr V d ((C.nd id).kids.getD 1 0) s).bind fun(y,s)=>some (ZW (C.nd id).num x y,s)
   else none
mutual
def RC.block(C:RC):Nat→Nat→RV→RS→Option (Int×RV×RS)
 |0,_,_,_=>none
 |d+1,id,V,s=>if 18446744073709551616≤id∨1000000≤s.nc then none else C.stmts d (C.nd id).kids 0 V s.ask
def RC.stmts(C:RC):Nat→List Nat→Int→RV→RS→Option (Int×RV×RS)
 |0,_,_,_,_=>none
 |_+1,[],out,V,s=>some (out,V,s)
 |d+1,i::l,_,V,s=>if s.e≠0 then some (0,V,s) else(C.stmt d i V s).bind fun(o,V,s)=>C.stmts d l o V s
def RC.stmt(C:RC):Nat→Nat→RV→RS→Option (Int×RV×RS)
 |0,_,_,_=>none
 |d+1,id,V,s=>
   if 18446744073709551616≤id∨1000000≤s.nc∨s.e≠0∨1000000≤V.c then none
   else if (C.nd id).kind=9 then(if (C.nd id).kids.length=2 then C.loop d ((C.nd id).kids.getD 0 0) ((C.nd id).kids.getD 1 0) V s.ask else none)
   else if (C.burn s.ask).1=false then some (0,V,(C.burn s.ask).2)
   else if (C.nd id).kids.length=1 then
    (C.expr V d ((C.nd id).kids.getD 0 0) (C.burn s.ask).2).bind fun(x,s)=>
     if (C.nd id).kind=6 then some (0,V.set id x,s)
     else if (C.nd id).kind=7 then some (0,V.set (C.nd id).ref x,s)
     else if (C.nd id).kind=11∧s.trace.length < 1000000 then some (0,V,{s with trace:=s.trace++[x]})
     else if (C.nd id).kind=10 then some (x,V,s)
     else none
   else none
def RC.loop(C:RC):Nat→Nat→Nat→RV→RS→Option (Int×RV×RS)
 |0,_,_,_,_=>none
 |d+1,c,b,V,s=>
   if (C.burn s).1=false then some (0,V,(C.burn s).2)
   else(C.expr V d c (C.burn s).2).bind fun(x,s)=>
    if x=0 then some (0,V,s) else(C.block d b V s).bind fun(_,V,s)=>C.loop d c b V s
end
def RC.call(C:RC)(d f:Nat)(s:RS):Option (Int×RS):=
 if (C.burn s).1=false then some (0,(C.burn s).2)
 else if 18446744073709551616≤f∨1000000≤(C.burn s).2.nc∨(C.nd f).kids=[] then none
 else(C.block d ((C.nd f).kids.getD ((C.nd f).kids.length-1) 0) ⟨fun _=>0,0⟩ (C.burn s).2.ask).map fun(x,_,s)=>(x,s)
structure Fz where
 e:Nat
 used:Nat
 trace:List Int
 rd:Nat
abbrev FV:=Nat→Int
def fv0:FV:=fun _=>0
def FV.set(V:FV)(id:Nat)(x:Int):FV:=fun i=>if i=id then x else V i
def XW:List Nat→List Int→FV→FV
 |k::ks,x::xs,V=>XW ks xs (FV.set V k x)
 |_,_,V=>V
def Ou(op x y:Int):Option Int:=
 if op=1 then some (Mx (x+y)) else if op=2 then some (Mx (x-y)) else if op=3 then some (Mx (x*y))
 else if op=4∨op=5 then(if y=0 then none else if op=4 then some (Mx (x.tdiv y)) else some (x.tmod y))
 else if op=6 then some (rOne (decide (x < y))) else if op=7 then some (rOne (decide (x≤y))) else if op=8 then some (rOne (decide (y < x)))
 else if op=9 then some (rOne (decide (y≤x))) else if op=10 then some (rOne (decide (x=y))) else if op=11 then some (rOne (decide (x≠y)))
 else if op=12 then some (rOne (decide (x=1) && decide (y=1))) else some (rOne (decide (x=1)||decide (y=1)))
def isB(x:Int):Prop:=x=0∨x=1
instance (x:Int):Decidable (isB x):=by unfold isB;infer_instance
def Rz(op x:Int):Prop:=(op=12∧x=0)∨(op=13∧x≠0)
instance (op x:Int):Decidable (Rz op x):=by unfold Rz;infer_instance
inductive FT where
 |expr (V:FV) (id:Nat)
 |call (f:Nat) (args:List Int)
 |block (id:Nat) (V:FV)
 |stmt (id:Nat) (V:FV)
 |loop (c b:Nat) (V:FV)
structure FO where
 x:Int
 V:FV
def Node.k(n:Node)(i:Nat):Nat:=n.kids.getD i 0
inductive IT (α:Type) where
 |ret (a:α)
 |burn (t:IT α)
 |tell (x:Int) (t:IT α)
 |read (k:Int→IT α)
 |trap
 |bot
def IT.bind{α β:Type}:IT α→(α→IT β)→IT β
 | .ret a,f=>f a
 | .burn t,f=> .burn (t.bind f)
 | .tell x t,f=> .tell x (t.bind f)
 | .read k,f=> .read fun x=>(k x).bind f
 | .trap,_=> .trap
 | .bot,_=> .bot
def IT.run{α:Type}(F:Nat)(inp:List Int):IT α→Fz→Option (Option α×Fz)
 | .ret a,s=>some (some a,s)
 | .burn t,s=>if F≤s.used then some (none,{s with e:=2}) else t.run F inp {s with used:=s.used+1}
 | .tell x t,s=>t.run F inp {s with trace:=s.trace++[x]}
 | .read k,s=>(k (inp.getD s.rd 0)).run F inp {s with rd:=s.rd+1}
 | .trap,s=>some (none,{s with e:=1})
 | .bot,_=>none
def seqT(f:Nat→IT FO):List Nat→IT (List Int)
 |[]=> .ret []
 |k::l=>(f k).bind fun o=>(seqT f l).bind fun xs=> .ret (o.x::xs)
def seqU(f:Nat→FV→IT FO):List Nat→Int→FV→IT FO
 |[],out,V=> .ret ⟨out,V⟩
 |i::l,_,V=>(f i V).bind fun o=>seqU f l o.x o.V
def pairT(n:Node)(V:FV)(x y:Int):IT FO:=
 if (n.num=12∨n.num=13)∧¬(isB x∧isB y) then .bot
 else match Ou n.num x y with
  |some v=> .ret ⟨v,V⟩
  |none=> .trap
def ZZ(n:Node)(id:Nat)(V:FV)(x:Int)(blk:Nat→IT FO):IT FO:=
 if n.kind=6 then .ret ⟨0,V.set id x⟩
 else if n.kind=7 then .ret ⟨0,V.set n.ref x⟩
 else if n.kind=11 then .tell x (.ret ⟨0,V⟩)
 else if n.kind=8 then(if n.kids.length=3∧isB x then(blk (if x=1 then n.k 1 else n.k 2)).bind fun p=> .ret ⟨0,p.V⟩ else .bot)
 else if n.kind=10 then .ret ⟨x,V⟩
 else .ret ⟨0,V⟩
def Y5(nd:Nat→Node)(rec:FT→IT FO):FT→IT FO
 | .expr V id=>
   if (nd id).kind=13∨(nd id).kind=14 then .ret ⟨(nd id).num,V⟩
   else if (nd id).kind=15 then .ret ⟨V (nd id).ref,V⟩
   else if (nd id).kind=20 then .read fun x=> .ret ⟨x,V⟩
   else if (nd id).kind=16 then(if (nd id).kids.length=1 then(rec (.expr V ((nd id).k 0))).bind fun p=> .ret ⟨Mx (1-p.x),V⟩ else .bot)
   else if (nd id).kind=17 then(if (nd id).kids.length=1 then(rec (.expr V ((nd id).k 0))).bind fun p=> .ret ⟨Mx (-p.x),V⟩ else .bot)
   else if (nd id).kind=19 then(seqT (fun k=>rec (.expr V k)) (nd id).kids).bind fun l=>(rec (.call (nd id).ref l)).bind fun q=> .ret ⟨q.x,V⟩
   else if (nd id).kind=18∧(nd id).kids.length=2 then
    (rec (.expr V ((nd id).k 0))).bind fun p=>if Rz (nd id).num p.x then .ret ⟨p.x,V⟩ else
     (rec (.expr V ((nd id).k 1))).bind fun q=>pairT (nd id) V p.x q.x
   else .bot
 | .call f args=> .burn (if args.length+1=(nd f).kids.length then(rec (.block ((nd f).k args.length) (XW (nd f).kids args fv0))).bind fun p=> .ret ⟨p.x,fv0⟩ else .bot)
 | .block id V=>seqU (fun i V=>rec (.stmt i V)) (nd id).kids 0 V
 | .stmt id V=>
   if (nd id).kind=9 then(if (nd id).kids.length=2 then rec (.loop ((nd id).k 0) ((nd id).k 1) V) else .bot)
   else .burn (if (nd id).kids=[] then .bot else(rec (.expr V ((nd id).k 0))).bind fun p=>ZZ (nd id) id V p.x (fun b=>rec (.block b V)))
 | .loop c b V=> .burn ((rec (.expr V c)).bind fun p=>if p.x=0 then .ret ⟨0,V⟩ else(rec (.block b V)).bind fun q=>rec (.loop c b q.V))
def WF(nd:Nat→Node):Nat→FT→IT FO
 |0,_=> .bot
 |d+1,t=>Y5 nd (WF nd d) t
theorem IT.run_bind{α β:Type}(F:Nat)(inp:List Int)(f:α→IT β):∀(t:IT α) (s:Fz),(t.bind f).run F inp s=(match t.run F inp s with
 |none=>none
 |some (none,s1)=>some (none,s1)
 |some (some a,s1)=>(f a).run F inp s1)
 | .ret a,s=>rfl
 | .burn t,s=>by
   rw[show(IT.burn t).bind f= .burn (t.bind f) from rfl,IT.run.eq_2,IT.run.eq_2];by_cases h:F≤s.used
   ·rw[if_pos h,if_pos h]
   ·rw[if_neg h,if_neg h]
    exact IT.run_bind F inp f t _
 | .tell x t,s=>IT.run_bind F inp f t _
 | .read k,s=>IT.run_bind F inp f (k _) _
 | .trap,s=>rfl
 | .bot,s=>rfl
theorem IT.grow{α:Type}(F:Nat)(inp:List Int):∀(t:IT α) (s:Fz) (r:Option α×Fz),s.e=0→t.run F inp s=some r→
 s.used≤r.2.used∧(s.used≤F→r.2.used≤F)∧s.trace <+:r.2.trace∧s.rd≤r.2.rd∧(r.2.e=0↔r.1.isSome=true)∧r.2.e≤2
 | .ret a,s,r,he,h=>by
   injection h with h;subst h;exact⟨AA,id,List.prefix_refl _,AA,by simp[he],by simp[he]⟩
 | .burn t,s,r,he,h=>by
   unfold IT.run at h;by_cases hf:F≤s.used
   ·rw[if_pos hf] at h
    injection h with h;subst h;exact⟨AA,id,List.prefix_refl _,AA,by simp,by simp⟩
   ·rw[if_neg hf] at h
    obtain⟨h1,h2,h3,h4,h5,h6⟩:=IT.grow F inp t {s with used:=s.used+1} r he h;exact⟨Nat.le_of_succ_le h1,fun _=>h2 (by show s.used+1≤F;omega),h3,h4,h5,h6⟩
 | .tell x t,s,r,he,h=>by
   obtain⟨h1,h2,h3,h4,h5,h6⟩:=IT.grow F inp t {s with trace:=s.trace++[x]} r he h;exact⟨h1,h2,(List.prefix_append _ _).trans h3,h4,h5,h6⟩
 | .read k,s,r,he,h=>by
   obtain⟨h1,h2,h3,h4,h5,h6⟩:=IT.grow F inp (k (inp.getD s.rd 0)) {s with rd:=s.rd+1} r he h;exact⟨h1,h2,h3,Nat.le_of_succ_le h4,h5,h6⟩
 | .trap,s,r,he,h=>by
   injection h with h;subst h;exact⟨AA,id,List.prefix_refl _,AA,by simp,by simp⟩
 | .bot,s,r,he,h=>by cases h
theorem IT.more{α:Type}{F G:Nat}(hFG:F≤G)(inp:List Int):∀(t:IT α) (s:Fz) (r:Option α×Fz),s.e=0→s.used≤F→t.run F inp s=some r→
 (r.2.e≠2→t.run G inp s=some r)∧(r.2.e=2→r.2.used=F∧∀r',t.run G inp s=some r'→r.2.trace <+:r'.2.trace∧(F < G→F < r'.2.used))
 | .ret a,s,r,he,hu,h=>by
   injection h with h;subst h;exact⟨fun _=>rfl,fun h2=>by rw[show((some a,s):Option α×Fz).2.e=s.e from rfl,he] at h2;cases h2⟩
 | .burn t,s,r,he,hu,h=>by
   unfold IT.run at h;by_cases hf:F≤s.used
   ·rw[if_pos hf] at h
    injection h with h;subst h;refine⟨fun h2=>absurd rfl h2,fun _=>⟨Nat.le_antisymm hu hf,fun r' hr'=> ?_⟩⟩;unfold IT.run at hr';by_cases hg:G≤s.used
    ·rw[if_pos hg] at hr'
     injection hr' with hr';subst hr';exact⟨List.prefix_refl _,fun h=>by omega⟩
    ·rw[if_neg hg] at hr'
     obtain⟨h1,_,h3,_⟩:=IT.grow G inp t {s with used:=s.used+1} r' he hr';exact⟨h3,fun _=>by have:s.used+1≤r'.2.used:=h1;omega⟩
   ·rw[if_neg hf] at h
    obtain⟨h1,h2⟩:=IT.more hFG inp t {s with used:=s.used+1} r he (by show s.used+1≤F;omega) h;refine⟨fun h0=> ?_,fun h0=>⟨(h2 h0).1,fun r' hr'=> ?_⟩⟩
    ·unfold IT.run
     rw[if_neg (by omega)];exact h1 h0
    ·unfold IT.run at hr'
     rw[if_neg (by omega)] at hr';exact(h2 h0).2 r' hr'
 | .tell x t,s,r,he,hu,h=>IT.more hFG inp t {s with trace:=s.trace++[x]} r he hu h
 | .read k,s,r,he,hu,h=>IT.more hFG inp (k (inp.getD s.rd 0)) {s with rd:=s.rd+1} r he hu h
 | .trap,s,r,he,hu,h=>by
   injection h with h;subst h;exact⟨fun _=>rfl,fun h2=>by cases h2⟩
 | .bot,s,r,he,hu,h=>by cases h
theorem IT.other{α:Type}(F:Nat){inp inq:List Int}:∀(t:IT α) (s:Fz) (r:Option α×Fz),s.e=0→t.run F inp s=some r→
 (∀i,i < r.2.rd→inq.getD i 0=inp.getD i 0)→t.run F inq s=some r
 | .ret a,s,r,he,h,hi=>h
 | .burn t,s,r,he,h,hi=>by
   unfold IT.run at h⊢;by_cases hf:F≤s.used
   ·rw[if_pos hf] at h⊢;exact h
   ·rw[if_neg hf] at h⊢;exact IT.other F t {s with used:=s.used+1} r he h hi
 | .tell x t,s,r,he,h,hi=>IT.other F t {s with trace:=s.trace++[x]} r he h hi
 | .read k,s,r,he,h,hi=>by
   have hr:s.rd+1≤r.2.rd:=(IT.grow F inp (k (inp.getD s.rd 0)) {s with rd:=s.rd+1} r he h).2.2.2.1;show(k (inq.getD s.rd 0)).run F inq {s with rd:=s.rd+1}=some r;rw[hi s.rd (by omega)];exact IT.other F (k (inp.getD s.rd 0)) {s with rd:=s.rd+1} r he h hi
 | .trap,s,r,he,h,hi=>h
 | .bot,s,r,he,h,hi=>by cases h
def Net{α:Type}(k:Nat)(t:IT α):Prop:=∀F inp s r,t.run F inp s=some r→r.2.trace.length+s.used≤r.2.used+s.trace.length+k
theorem Net.ret{α:Type}{k:Nat}{a:α}:Net k (.ret a):=fun F inp s r h=>by
 injection h with h;subst h;show s.trace.length+s.used≤s.used+s.trace.length+k;omega
theorem Net.bot{α:Type}{k:Nat}:Net k (.bot:IT α):=fun F inp s r h=>by cases h
theorem Net.trap{α:Type}{k:Nat}:Net k (.trap:IT α):=fun F inp s r h=>by
 injection h with h;subst h;show s.trace.length+s.used≤s.used+s.trace.length+k;omega
theorem Net.burn{α:Type}{k:Nat}{t:IT α}(h:Net (k+1) t):Net k (.burn t):=fun F inp s r hr=>by
 unfold IT.run at hr;by_cases hf:F≤s.used
 ·rw[if_pos hf] at hr;injection hr with hr;subst hr;show s.trace.length+s.used≤s.used+s.trace.length+k;omega
 ·rw[if_neg hf] at hr
  have:r.2.trace.length+(s.used+1)≤r.2.used+s.trace.length+(k+1):=h F inp _ r hr;omega
theorem Net.tell{α:Type}{k:Nat}{x:Int}{t:IT α}(h:Net k t):Net (k+1) (.tell x t):=fun F inp s r hr=>by
 have:r.2.trace.length+s.used≤r.2.used+(s.trace++[x]).length+k:=h F inp _ r hr;simp at this;omega
theorem Net.read{α:Type}{k:Nat}{f:Int→IT α}(h:∀x,Net k (f x)):Net k (.read f):=fun F inp s r hr=>h (inp.getD s.rd 0) F inp {s with rd:=s.rd+1} r hr
theorem Net.bind{α β:Type}{j k:Nat}{t:IT α}{f:α→IT β}(h:Net j t)(hf:∀a,Net k (f a)):Net (j+k) (t.bind f):=fun F inp s r hr=>by
 rw[IT.run_bind] at hr;cases ht:t.run F inp s with
 |none=>rw[ht] at hr;cases hr
 |some p=>
   obtain⟨o,s1⟩:=p;rw[ht] at hr;have h1:s1.trace.length+s.used≤s1.used+s.trace.length+j:=h F inp s _ ht;cases o with
   |none=>injection hr with hr;subst hr;show s1.trace.length+s.used≤s1.used+s.trace.length+(j+k);omega
   |some a=>
     have h2:=hf a F inp s1 r hr;omega
theorem Net.seqT{f:Nat→IT FO}(h:∀k,Net 0 (f k)):∀l,Net 0 (seqT f l)
 |[]=>Net.ret
 |k::l=>Net.bind (j:=0) (k:=0) (h k) fun _=>Net.bind (j:=0) (k:=0) (Net.seqT h l) fun _=>Net.ret
theorem Net.seqU{f:Nat→FV→IT FO}(h:∀k V,Net 0 (f k V)):∀l o V,Net 0 (seqU f l o V)
 |[],_,_=>Net.ret
 |i::l,_,V=>Net.bind (j:=0) (k:=0) (h i V) fun _=>Net.seqU h l _ _
def Ev{α:Type}(F:Nat)(inp:List Int)(g:Nat→IT α)(s:Fz)(Q:α→Prop):Prop:=∃d r,(∀e,d≤e→(g e).run F inp s=some r)∧∀a,r.1=some a→Q a
theorem Ev.ret{α:Type}{F:Nat}{inp:List Int}{s:Fz}{Q:α→Prop}{a:α}(h:Q a):Ev F inp (fun _=> .ret a) s Q:=
 ⟨0,(some a,s),fun _ _=>rfl,fun b hb=>by injection hb with hb;exact hb ▸ h⟩
theorem Ev.trap{α:Type}{F:Nat}{inp:List Int}{s:Fz}{Q:α→Prop}:Ev F inp (fun _=>(.trap:IT α)) s Q:=
 ⟨0,(none,{s with e:=1}),fun _ _=>rfl,fun b hb=>by cases hb⟩
theorem Ev.bind{α β:Type}{F:Nat}{inp:List Int}{s:Fz}{Q:α→Prop}{R:β→Prop}{g:Nat→IT α}{f:Nat→α→IT β}(he:s.e=0)(hu:s.used≤F)(h:Ev F inp g s Q)
 (hf:∀a s1,Q a→s1.e=0→s.used≤s1.used→s1.used≤F→Ev F inp (fun e=>f e a) s1 R):Ev F inp (fun e=>(g e).bind (f e)) s R:=by
 obtain⟨d,⟨o,s1⟩,hr,hq⟩:=h;have hg:=IT.grow F inp (g d) s _ he (hr d AA);cases o with
 |none=>exact⟨d,(none,s1),fun e hde=>by rw[IT.run_bind,hr e hde],fun a ha=>by cases ha⟩
 |some a=>
   obtain⟨d',r',hr',hq'⟩:=hf a s1 (hq a rfl) (hg.2.2.2.2.1.2 rfl) hg.1 (hg.2.1 hu);exact⟨max d d',r',fun e hde=>by rw[IT.run_bind,hr e (by omega)];exact hr' e (by omega),hq'⟩
theorem Ev.burn{α:Type}{F:Nat}{inp:List Int}{s:Fz}{Q:α→Prop}{g:Nat→IT α}(h:¬F≤s.used→Ev F inp g {s with used:=s.used+1} Q):Ev F inp (fun e=> .burn (g e)) s Q:=by
 by_cases hf:F≤s.used
 ·exact⟨0,(none,{s with e:=2}),fun e _=>by unfold IT.run;rw[if_pos hf],fun a ha=>by cases ha⟩
 ·obtain⟨d,r,hr,hq⟩:=h hf
  exact⟨d,r,fun e hde=>by unfold IT.run;rw[if_neg hf];exact hr e hde,hq⟩
theorem Ev.mono{α:Type}{F:Nat}{inp:List Int}{s:Fz}{Q R:α→Prop}{g:Nat→IT α}(h:Ev F inp g s Q)(hq:∀a,Q a→R a):Ev F inp g s R:=by
 obtain⟨d,r,hr,h2⟩:=h;exact⟨d,r,hr,fun a ha=>hq a (h2 a ha)⟩
def isE(n:Node):Prop:=13≤n.kind∧n.kind≤20
structure WT (nd:Nat→Node) (ty ht:Nat→Nat) (P:Nat→Prop):Prop where
 kid:∀id,P id→∀k∈(nd id).kids,P k∧ht k < ht id
 e14:∀id,P id→(nd id).kind=14→isB (nd id).num
 e15:∀id,P id→(nd id).kind=15→ty id=(nd (nd id).ref).type
 e16:∀id,P id→(nd id).kind=16→(nd id).kids.length=1∧isE (nd ((nd id).k 0))∧ty ((nd id).k 0)=2
 e17:∀id,P id→(nd id).kind=17→(nd id).kids.length=1∧isE (nd ((nd id).k 0))∧ty id=1
 e18:∀id,P id→(nd id).kind=18→(nd id).kids.length=2∧isE (nd ((nd id).k 0))∧isE (nd ((nd id).k 1))∧1≤(nd id).num∧(nd id).num≤13∧
  ((nd id).num≤5→ty id=1)∧(12≤(nd id).num→ty ((nd id).k 0)=2∧ty ((nd id).k 1)=2)
 e19:∀id,P id→(nd id).kind=19→P (nd id).ref∧(nd (nd id).ref).kind=3∧(nd id).kids.length+1=(nd (nd id).ref).kids.length∧ty id=(nd (nd id).ref).type∧
  (∀k∈(nd id).kids,isE (nd k))∧∀i,i < (nd id).kids.length→ty ((nd id).k i)=(nd ((nd (nd id).ref).k i)).type
 e1:∀id,P id→(nd id).kind=13∨(nd id).kind=20→ty id=1
 f3:∀id,P id→(nd id).kind=3→0 < (nd id).kids.length∧(nd ((nd id).k ((nd id).kids.length-1))).kind=5∧
  ∀i∈(nd ((nd id).k ((nd id).kids.length-1))).kids,(nd i).kind=10→ty ((nd i).k 0)=(nd id).type
 b5:∀id,P id→(nd id).kind=5→∀k∈(nd id).kids,6≤(nd k).kind∧(nd k).kind≤12
 s1:∀id,P id→6≤(nd id).kind→(nd id).kind≤12→0 < (nd id).kids.length∧isE (nd ((nd id).k 0))
 s6:∀id,P id→(nd id).kind=6→ty ((nd id).k 0)=(nd id).type
 s7:∀id,P id→(nd id).kind=7→ty ((nd id).k 0)=(nd (nd id).ref).type
 s8:∀id,P id→(nd id).kind=8→(nd id).kids.length=3∧ty ((nd id).k 0)=2∧(nd ((nd id).k 1)).kind=5∧(nd ((nd id).k 2)).kind=5
 s9:∀id,P id→(nd id).kind=9→(nd id).kids.length=2∧(nd ((nd id).k 1)).kind=5
 n10:∀id,P id→(nd id).kind=8∨(nd id).kind=9→∀k∈(nd id).kids,∀i∈(nd k).kids,(nd i).kind≠10∨(nd k).kind≠5
def VTy(nd:Nat→Node)(V:FV):Prop:=∀v,(nd v).type=2→isB (V v)
theorem VTy.zero(nd:Nat→Node):VTy nd fv0:=fun v _=> .inl rfl
theorem VTy.set{nd:Nat→Node}{V:FV}(h:VTy nd V){id:Nat}{x:Int}(hx:(nd id).type=2→isB x):VTy nd (V.set id x):=fun v hv=>by
 unfold FV.set;by_cases e:v=id
 ·rw[if_pos e];exact hx (e ▸ hv)
 ·rw[if_neg e];exact h v hv
theorem VTy.bind{nd:Nat→Node}:∀(ks:List Nat) (xs:List Int) (V:FV),VTy nd V→(∀i x,xs[i]? =some x→(nd (ks.getD i 0)).type=2→isB x)→VTy nd (XW ks xs V)
 |[],xs,V,h,_=>by cases xs <;>exact h
 |k::ks,[],V,h,_=>h
 |k::ks,x::xs,V,h,hx=>VTy.bind ks xs _ (h.set (hx 0 x rfl)) fun i y hy=>hx (i+1) y hy
section
variable {nd:Nat→Node} {ty ht:Nat→Nat} {P:Nat→Prop} (hW:WT nd ty ht P) (F:Nat) (inp:List Int)
end
def fs0:Fz:=⟨0,0,[],0⟩
end Hg
namespace Hg
def sc1(l:List Row)(r:Row):Bool:=decide (r.node.kind < 1∨20 < r.node.kind∨decide (r.node.kind=1)≠decide (r.id=1)∨fits r.node.kind (classes l r.node.kids) (decide (kindOf l (parentOf l r.id).1=3))=false)
def sc2(r:Row):Bool:=decide (isNamed r.node.kind≠(r.node.name !=[])∨isNamed r.node.kind=true∧(Ce r.node.name=false∨inL words r.node.name=true))
def CR(k:Nat):Bool:=isNamed k && decide (k≠2)
def sc3(r:Row):Bool:=decide (CR r.node.kind≠(decide (r.node.type=1)||decide (r.node.type=2))∨CR r.node.kind=false∧r.node.type≠0)
def sc4(l:List Row)(r:Row):Bool:=
 if r.node.kind=7∨r.node.kind=15 then decide (kindOf l r.node.ref≠4∧kindOf l r.node.ref≠6)
 else if r.node.kind=19 then decide (kindOf l r.node.ref≠3) else decide (r.node.ref≠0)
def FH(k:Nat):Int:=if k=18 then 1 else 0
def EK(k:Nat):Int:=if k=13 then 9223372036854775807 else if k=14 then 1 else if k=18 then 13 else 0
def sc5(r:Row):Bool:=decide (r.node.num < FH r.node.kind∨EK r.node.kind < r.node.num)
theorem PV(k:Nat):(k=13→FH k=0∧EK k=9223372036854775807)∧(k=14→FH k=0∧EK k=1)∧(k=18→FH k=1∧EK k=13)∧(k≠13∧k≠14∧k≠18→FH k=0∧EK k=0):=by
 unfold FH EK;refine⟨fun h=> ?_,fun h=> ?_,fun h=> ?_,fun h=> ?_⟩
 ·subst h;exact⟨rfl,rfl⟩
 ·subst h;exact⟨rfl,rfl⟩
 ·subst h;exact⟨rfl,rfl⟩
 ·rw[if_neg h.2.2,if_neg h.1,if_neg h.2.1,if_neg h.2.2];exact⟨rfl,rfl⟩
theorem Ha(l:List Row)(r:Row)(hn:r.node.num≤9223372036854775807):Bu l r=(!sc1 l r && !sc2 r && !sc3 r && !sc4 l r && !sc5 r):=by
 unfold Bu;dsimp only;rw[show(isNamed r.node.kind && decide (r.node.kind≠2))=CR r.node.kind from rfl];by_cases h1:sc1 l r=true
 ·rw[if_pos (of_decide_eq_true h1)];simp[h1]
 rw[if_neg (fun h=>h1 (decide_eq_true h))];have e1:sc1 l r=false:=by simpa using h1
 by_cases h2:sc2 r=true
 ·rw[if_pos (of_decide_eq_true h2)];simp[h2]
 rw[if_neg (fun h=>h2 (decide_eq_true h))];have e2:sc2 r=false:=by simpa using h2
 by_cases h3:sc3 r=true
 ·rw[if_pos (of_decide_eq_true h3)];simp[h3]
 rw[if_neg (fun h=>h3 (decide_eq_true h))];have e3:sc3 r=false:=by simpa using h3
 rw[e1,e2,e3];simp only[Bool.not_false,Bool.true_and];obtain⟨l13,l14,l18,lo⟩:=PV r.node.kind;unfold sc4 sc5;by_cases k7:r.node.kind=7∨r.node.kind=15
 ·obtain⟨a1,a2⟩:=lo (by omega)
  rw[if_pos k7,if_pos k7,a1,a2];by_cases hk:kindOf l r.node.ref≠4∧kindOf l r.node.ref≠6
  ·rw[if_pos hk,decide_eq_true hk];rfl
  ·rw[if_neg hk,decide_eq_false hk]
   rw[Bool.eq_iff_iff];simp;omega
 rw[if_neg k7,if_neg k7];by_cases k19:r.node.kind=19
 ·obtain⟨a1,a2⟩:=lo (by omega)
  rw[if_pos k19,if_pos k19,a1,a2];by_cases hk:kindOf l r.node.ref≠3
  ·rw[if_pos hk,decide_eq_true hk];rfl
  ·rw[if_neg hk,decide_eq_false hk]
   rw[Bool.eq_iff_iff];simp;omega
 rw[if_neg k19,if_neg k19];by_cases hr:r.node.ref≠0
 ·rw[if_pos hr,decide_eq_true hr];rfl
 rw[if_neg hr,decide_eq_false hr];by_cases k13:r.node.kind=13
 ·obtain⟨a1,a2⟩:=l13 k13
  rw[if_pos k13,a1,a2];rw[Bool.eq_iff_iff];simp;omega
 rw[if_neg k13];by_cases k14:r.node.kind=14
 ·obtain⟨a1,a2⟩:=l14 k14
  rw[if_pos k14,a1,a2];rw[Bool.eq_iff_iff];simp
 rw[if_neg k14];by_cases k18:r.node.kind=18
 ·obtain⟨a1,a2⟩:=l18 k18
  rw[if_pos k18,a1,a2];rw[Bool.eq_iff_iff];simp <;>omega
 rw[if_neg k18];obtain⟨a1,a2⟩:=lo ⟨k13,k14,k18⟩;rw[a1,a2];rw[Bool.eq_iff_iff];simp;omega
def Nk(M:Nat)(n:Node):Prop:=n.kind≤20∧n.num≤9223372036854775807∧n.name.length≤M
theorem Qb(s:Str):CQ s≤9223372036854775807:=by
 unfold CQ;split
 ·decide
 ·split
  ·decide
  ·split
   ·split
    ·decide
    ·omega
   ·decide
namespace Rd
theorem YG(t:Str):opOf t≤13:=by
 unfold opOf;split
 ·rename_i i h
  obtain⟨h1,_⟩:=List.findIdx?_eq_some_iff_getElem.1 h;have:ops.length=13:=rfl;omega
 ·omega
def NBs(s:Rd):Prop:=∀M,(∀t∈s.L,t.text.length≤M)→∀r∈s.rows,Nk M r.node
def RBs(s:Rd):Prop:=∀R,s.rows.length≤R→(∀r∈s.rows,r.id≤R∧r.node.ref≤R)∧(∀b∈s.seen,b.id≤R)∧∀i∈s.ids,i≤R
def NdOk(s:Rd)(n:Node):Prop:=n.ref=0∧∀M,(∀t∈s.L,t.text.length≤M)→Nk M n
theorem Xt(s:Rd)(k M:Nat)(h:∀t∈s.L,t.text.length≤M):(s.text k).length≤M:=by
 unfold text;split
 ·simp
 ·split
  ·rename_i t ht
   split
   ·exact h t (List.mem_of_getElem? ht)
   ·simp
  ·simp
theorem Et{s:Rd}{k:Nat}(h:k≤20):NdOk s (nd k):=⟨rfl,fun M _=>⟨h,by show(0:Int)≤_;decide,Nat.zero_le _⟩⟩
theorem Kw{s:Rd}{k:Nat}{v:Int}(h:k≤20)(hv:v≤9223372036854775807):NdOk s (Lp k v):=⟨rfl,fun M _=>⟨h,hv,Nat.zero_le _⟩⟩
theorem KJ{s a:Rd}{k i:Nat}(hL:s.L=a.L)(h:k≤20):NdOk s (AX k (a.text i)):=⟨rfl,fun M hM=>⟨h,by show(0:Int)≤_;decide,by
 show(a.text i).length≤M;exact Xt a i M (by rw[←hL];exact hM)⟩⟩
structure NS (s s':Rd):Prop where
 L:s'.L=s.L
 nb:NBs s→NBs s'
 len:s.rows.length≤s'.rows.length
 rb:RBs s→RBs s'
theorem NS.refl(s:Rd):NS s s:=⟨rfl,id,AA,id⟩
theorem NS.trans{a b c:Rd}(h:NS a b)(k:NS b c):NS a c:=⟨k.L.trans h.L,fun x=>k.nb (h.nb x),AO h.len k.len,fun x=>k.rb (h.rb x)⟩
theorem PS{s s':Rd}(hL:s'.L=s.L)(h:s'.rows=s.rows)(hs:∀R,s.rows.length≤R→RBs s→∀b∈s'.seen,b.id≤R)(hi:∀R,s.rows.length≤R→RBs s→∀i∈s'.ids,i≤R):NS s s':=
 ⟨hL, fun x M hM r hr => x M (by rw [← hL]; exact hM) r (by rw [← h]; exact hr), by rw [h]; exact AA, fun x R hR => by
  rw[h] at hR⊢;exact⟨(x R hR).1,hs R hR x,hi R hR x⟩⟩
theorem FK{s s':Rd}(hL:s'.L=s.L)(h:s'.rows=s.rows)(hs:∀b∈s'.seen,b∈s.seen:=by exact fun _ h=>h)(hi:s'.ids=s.ids:=by rfl):NS s s':=
 PS hL h (fun R hR x b hb=>(x R hR).2.1 b (hs b hb)) (fun R hR x i hm=>(x R hR).2.2 i (hi ▸ hm))
theorem NE(s:Rd)(k:Nat)(f:Row→Row)(h1:∀r,(f r).node.kind=r.node.kind)(h2:∀r,(f r).node.name=r.node.name)(h3:∀r,r.node.num≤9223372036854775807→(f r).node.num≤9223372036854775807)(h4:∀r,(f r).id=r.id)(h5:∀R,s.rows.length≤R→RBs s→∀r∈s.rows,(f r).node.ref≤R):NS s {s with rows:=s.rows.modify k f}:=
 ⟨rfl, fun x M hM r' hr => by
  obtain⟨i,hi⟩:=List.mem_iff_getElem?.1 hr;obtain⟨r,h0,he⟩:=EJ hi;have hx:=x M hM r (List.mem_of_getElem? h0);subst he;split
  ·exact⟨by rw[h1];exact hx.1,h3 r hx.2.1,by rw[h2];exact hx.2.2⟩
  ·exact hx,by simp,fun x R hR=>by
  have hR:s.rows.length≤R:=by simpa using hR
  refine⟨fun r' hr=> ?_,(x R hR).2⟩;obtain⟨i,hi⟩:=List.mem_iff_getElem?.1 hr;obtain⟨r,h0,he⟩:=EJ hi;have hm:=List.mem_of_getElem? h0;subst he;split
  ·exact⟨by rw[h4];exact((x R hR).1 r hm).1,h5 R hR x r hm⟩
  ·exact(x R hR).1 r hm⟩
theorem Kz(s:Rd)(k:Nat)(f:Row→Row)(h1:∀r,(f r).node.kind=r.node.kind)(h2:∀r,(f r).node.name=r.node.name)(h3:∀r,r.node.num≤9223372036854775807→(f r).node.num≤9223372036854775807)(h4:∀r,(f r).id=r.id)(h5:∀r,(f r).node.ref=r.node.ref):NS s {s with rows:=s.rows.modify k f}:=
 NE s k f h1 h2 h3 h4 fun R hR x r hr=>by rw[h5];exact((x R hR).1 r hr).2
theorem Dx(s:Rd)(u:Nat)(n:Node)(hn:NdOk s n):NS s (s.node u n):=by
 have hp:NS s {s with rows:=s.rows++[⟨s.rows.length+1,n⟩]}:=⟨rfl,fun x M hM r hr=>by
  rcases List.mem_append.1 hr with hr|hr
  ·exact x M hM r hr
  ·simp at hr;subst hr;exact hn.2 M hM,by simp,fun x R hR=>by
  have hR:s.rows.length+1≤R:=by simpa using hR
  have hx:=x R (by omega);refine⟨fun r hr=> ?_,hx.2⟩;rcases List.mem_append.1 hr with hr|hr
  ·exact hx.1 r hr
  ·simp at hr;subst hr;exact⟨hR,by show n.ref≤R;rw[hn.1];exact Nat.zero_le _⟩⟩
 unfold node;dsimp only;split
 ·exact hp.trans (Kz _ u (fun x=>{x with node:={x.node with kids:=x.node.kids++[s.rows.length+1]}}) (fun _=>rfl) (fun _=>rfl) (fun _ h=>h) (fun _=>rfl) (fun _=>rfl))
 ·exact hp
theorem EG(s:Rd):NS s s.step:=FK rfl rfl
theorem JE(s:Rd):NS s s.setBad:=FK rfl rfl
theorem CK(s:Rd)(t:Str):NS s (s.need t):=by unfold need;split <;>first|exact EG s|exact JE s
theorem Hf(s:Rd):NS s s.name:=by unfold name;split <;>first|exact EG s|exact JE s
theorem ND(s:Rd):NS s s.typed.2:=by unfold typed;split <;>first|exact EG s|exact CK s _
theorem IW(s:Rd)(e:Nat):NS s (s.fault e):=by unfold fault;split <;>first|exact FK rfl rfl|exact NS.refl s
theorem YL(s:Rd)(t:Str):NS s (s.find t).2:=by unfold find;split <;>first|exact NS.refl s|exact IW s _
theorem YZ(s:Rd)(t:Str)(R:Nat)(hR:s.rows.length≤R)(x:RBs s):(s.find t).1≤R:=by
 unfold find;split
 ·rename_i i hi
  unfold Js at hi;simp only[Option.map_eq_some_iff] at hi;obtain⟨b,hb,rfl⟩:=hi;exact(x R hR).2.1 b (by simpa using List.mem_of_find?_eq_some hb)
 ·exact Nat.zero_le _
theorem Ky(s:Rd)(k t:Nat)(ht:∀R,s.rows.length≤R→RBs s→t≤R):NS s (s.DN k t):=NE s k _ (fun _=>rfl) (fun _=>rfl) (fun _ h=>h) (fun _=>rfl) (fun R hR x _ _=>ht R hR x)
theorem NF(s:Rd)(t:Str)(k:Nat):NS s ((s.find t).2.DN k (s.find t).1):=by
 have hx:=YL s t;have hl:(s.find t).2.rows=s.rows∧(s.find t).2.seen=s.seen∧(s.find t).2.ids=s.ids:=by
  unfold find fault
  repeat' split
  all_goals exact⟨rfl,rfl,rfl⟩
 refine hx.trans (Ky _ _ _ fun R hR x=>YZ s t R (by rw[←hl.1];exact hR) fun R' hR'=> ?_);have:=x R' (by rw[hl.1];exact hR');rw[hl.1,hl.2.1,hl.2.2] at this;exact this
theorem Jk(s:Rd)(k t:Nat):NS s (s.Ar k t):=Kz s k _ (fun _=>rfl) (fun _=>rfl) (fun _ h=>h) (fun _=>rfl) (fun _=>rfl)
theorem OU(s:Rd)(k:Nat)(t:Str):NS s (s.CF k (opOf t:Nat)):=Kz s k _ (fun _=>rfl) (fun _=>rfl) (fun _ h=>by have:=YG t;show((opOf t:Nat):Int)≤_;omega) (fun _=>rfl) (fun _=>rfl)
theorem UF(s:Rd)(k R:Nat)(hR:s.rows.length≤R)(x:RBs s):s.idAt k≤R:=by
 unfold idAt;cases hk:s.rows[k]? with
 |none=>exact Nat.zero_le _
 |some r=>exact((x R hR).1 r (List.mem_of_getElem? hk)).1
theorem NG(s:Rd)(t:Str)(k:Nat):NS s (s.declare t k):=by
 unfold declare;dsimp only;have h1:NS s (if inL s.used t=true then s.fault 10 else s):=by split <;>first|exact IW _ _|exact NS.refl _
 generalize(if inL s.used t=true then s.fault 10 else s)=a at h1⊢;refine h1.trans (PS rfl rfl (fun R hR x b hb=> ?_) (fun R hR x i hi=>(x R hR).2.2 i hi));rcases List.mem_append.1 hb with hb|hb
 ·exact(x R hR).2.1 b hb
 ·simp at hb;subst hb;exact UF a k R hR x
theorem WY(s:Rd)(t:Str)(k:Nat):NS s (s.EU t k):=PS rfl rfl (fun R hR x b hb=>by simp[EU] at hb) (fun R hR x i hi=>by
 unfold EU at hi;rcases List.mem_append.1 hi with hi|hi
 ·exact(x R hR).2.2 i hi
 ·simp at hi;subst hi;exact UF s k R hR x)
theorem Es(s:Rd):NS s s.enter:=by unfold enter;dsimp only;split <;>exact FK rfl rfl
theorem Er(s:Rd):NS s s.leave:=FK rfl rfl
theorem Tu(s:Rd):NS s s.shut:=FK rfl rfl (fun b h=>(List.mem_filter.1 h).1)
theorem UK(f:Nat):(∀s u s',expr f s u=some s'→NS s s')∧(∀s u m s',call f s u m=some s'→NS s s')∧(∀b s n s',args f b s n=some s'→NS s s'):=by
 induction f with
 |zero=>exact⟨fun _ _ _ h=>by simp[expr] at h,fun _ _ _ _ h=>by simp[call] at h,fun _ _ _ _ h=>by simp[args] at h⟩
 |succ f ih=>
   obtain⟨ihe,ihc,iha⟩:=ih;refine⟨fun s u s' h=> ?_,fun s u m s' h=> ?_,fun b s n s' h=> ?_⟩
   ·rw[expr] at h
    have nodeK:∀n:Node,NdOk s.step n→NS s (s.step.node u n):=fun n hn=>(EG s).trans (Dx s.step u n hn);by_cases h2:s.text 2≠[]
    ·rw[if_pos h2] at h
     injection h with h;subst h;exact nodeK _ (Kw (by decide) (Qb _))
    rw[if_neg h2] at h;by_cases h1:s.text 1≠[]
    ·rw[if_pos h1] at h
     dsimp only at h;by_cases hd:s.step.next [46]=true
     ·rw[if_pos hd] at h
      exact(EG s).trans (ihc _ _ _ _ h)
     ·rw[if_neg hd] at h
      injection h with h;subst h;exact(nodeK (nd 15) (by first|exact Et (by decide)|exact Kw (by decide) (by decide))).trans (NF _ _ _)
    rw[if_neg h1] at h;by_cases ht:s.next JP=true
    ·rw[if_pos ht] at h
     injection h with h;subst h;exact nodeK _ (by first|exact Et (by decide)|exact Kw (by decide) (by decide))
    rw[if_neg ht] at h;by_cases hf:s.next GK=true
    ·rw[if_pos hf] at h
     injection h with h;subst h;exact nodeK _ (by first|exact Et (by decide)|exact Kw (by decide) (by decide))
    rw[if_neg hf] at h;by_cases hr:s.next JQ=true
    ·rw[if_pos hr] at h
     injection h with h;subst h;exact nodeK _ (by first|exact Et (by decide)|exact Kw (by decide) (by decide))
    rw[if_neg hr] at h;by_cases hn:s.next [33]=true∨s.next [45]=true
    ·rw[if_pos hn] at h
     dsimp only at h;have hkind:(if s.next [33]=true then 16 else 17)=16∨(if s.next [33]=true then 16 else 17)=17:=by split <;>simp
     generalize hk:(if s.next [33]=true then 16 else 17)=kind at h hkind;have K1:=nodeK (nd kind) (Et (by omega));by_cases hb:(s.step.node u (nd kind)).enter.bad=true
     ·rw[if_pos hb] at h
      injection h with h;subst h;exact K1.trans ((Es _).trans (Er _))
     ·rw[if_neg hb] at h
      cases he:expr f (s.step.node u (nd kind)).enter s.rows.length with
      |none=>rw[he] at h;simp at h
      |some s1=>
        rw[he] at h;injection h with h;subst h;exact K1.trans ((Es _).trans ((ihe _ _ _ he).trans (Er _)))
    rw[if_neg hn] at h;by_cases hp:s.next [40]=true
    ·rw[if_pos hp] at h
     dsimp only at h;have K1:=nodeK (nd 18) (by first|exact Et (by decide)|exact Kw (by decide) (by decide));by_cases hb:(s.step.node u (nd 18)).enter.bad=true
     ·rw[if_pos hb] at h
      injection h with h;subst h;exact K1.trans ((Es _).trans (Er _))
     ·rw[if_neg hb] at h
      cases he:expr f (s.step.node u (nd 18)).enter s.rows.length with
      |none=>rw[he] at h;simp at h
      |some s1=>
        rw[he] at h;dsimp only at h;have E1:=ihe _ _ _ he;have e1:NS s1 ((if opOf (s1.text 4)=0 then(s1.CF s.rows.length (opOf (s1.text 4):Nat)).setBad else s1.CF s.rows.length (opOf (s1.text 4):Nat)).step):=by
         refine NS.trans ?_ (EG _);split
         ·exact(OU _ _ _).trans (JE _)
         ·exact OU _ _ _
        cases he2:expr f ((if opOf (s1.text 4)=0 then(s1.CF s.rows.length (opOf (s1.text 4):Nat)).setBad else s1.CF s.rows.length (opOf (s1.text 4):Nat)).step) s.rows.length with
        |none=>rw[he2] at h;simp at h
        |some s2=>
          rw[he2] at h;injection h with h;subst h;have E2:=ihe _ _ _ he2;exact K1.trans ((Es _).trans ((E1.trans e1).trans ((E2.trans (CK _ _)).trans (Er _))))
    rw[if_neg hp] at h;injection h with h;subst h;exact JE s
   ·rw[call] at h
    try dsimp only at h
    have K1:=Dx s u (nd 19) (Et (by decide));have K2:=((CK (s.node u (nd 19)) [46]).trans (Hf _));generalize hbd:({((s.node u (nd 19)).need [46]).name with calls:=((s.node u (nd 19)).need [46]).name.calls++[((s.node u (nd 19)).need [46]).name.idAt s.rows.length],wants:=((s.node u (nd 19)).need [46]).name.wants++[m++[32]++((s.node u (nd 19)).need [46]).text 1]}:Rd)=b at h;have K3:NS ((s.node u (nd 19)).need [46]).name b:=by rw[←hbd];exact FK rfl rfl
    by_cases hb:b.enter.bad=true
    ·rw[if_pos hb] at h
     injection h with h;subst h;exact K1.trans ((K2.trans K3).trans ((Es _).trans (Er _)))
    ·rw[if_neg hb] at h
     cases he:args f true (b.enter.need [40]) s.rows.length with
     |none=>rw[he] at h;simp at h
     |some s1=>
       rw[he] at h;injection h with h;subst h;have K4:=(K2.trans K3).trans ((Es b).trans (CK _ [40]));exact K1.trans (K4.trans ((iha _ _ _ _ he).trans (Er _)))
   ·rw[args] at h
    by_cases hb:s.bad=true
    ·rw[if_pos hb] at h
     injection h with h;subst h;exact NS.refl _
    rw[if_neg hb] at h;by_cases hn:s.next [41]=true
    ·rw[if_pos hn] at h
     injection h with h;subst h;exact EG _
    rw[if_neg hn] at h;have K1:NS s (if b=true then s else s.need [44]):=by split <;>first|exact NS.refl _|exact CK _ _
    cases he:expr f (if b=true then s else s.need [44]) n with
    |none=>rw[he] at h;simp at h
    |some s1=>
      rw[he] at h;have K2:=K1.trans (ihe _ _ _ he);exact K2.trans (iha _ _ _ _ h)
theorem X3(f:Nat):(∀s u s',stmt f s u=some s'→NS s s')∧(∀s u s',block f s u=some s'→NS s s')∧(∀s n s',stmts f s n=some s'→NS s s'):=by
 induction f with
 |zero=>exact⟨fun _ _ _ h=>by simp[stmt] at h,fun _ _ _ h=>by simp[block] at h,fun _ _ _ h=>by simp[stmts] at h⟩
 |succ f ih=>
   obtain⟨ihs,ihb,ihl⟩:=ih;have E:=UK f;refine⟨fun s u s' h=> ?_,fun s u s' h=> ?_,fun s n s' h=> ?_⟩
   ·rw[stmt] at h
    try dsimp only at h
    have nodeK:∀n:Node,NdOk s.step n→NS s (s.step.node u n):=fun n hn=>(EG s).trans (Dx s.step u n hn);by_cases h1:s.next wLet=true
    ·rw[if_pos h1] at h
     have K0:=(EG s).trans (Hf s.step);have K1:=K0.trans (Dx s.step.name u (AX 6 (s.step.text 1)) (KJ (LQ s.step).L (by decide)));have K2:=((ND (s.step.name.node u (AX 6 (s.step.text 1)))).trans (Jk _ s.rows.length (s.step.name.node u (AX 6 (s.step.text 1))).typed.1)).trans (CK _ [61]);generalize((s.step.name.node u (AX 6 (s.step.text 1))).typed.2.Ar s.rows.length (s.step.name.node u (AX 6 (s.step.text 1))).typed.1).need [61]=a at h K2;cases he:expr f a s.rows.length with
     |none=>rw[he] at h;simp at h
     |some b=>
       rw[he] at h;injection h with h;subst h;exact K1.trans (K2.trans ((E.1 _ _ _ he).trans ((NG _ _ _).trans (CK _ _))))
    rw[if_neg h1] at h;by_cases h2:s.next wIf=true
    ·rw[if_pos h2] at h
     have K1:=nodeK (nd 8) (Et (by decide));cases he:expr f (s.step.node u (nd 8)) s.rows.length with
     |none=>rw[he] at h;simp at h
     |some a=>
       rw[he] at h;dsimp only at h;have K2:=E.1 _ _ _ he;cases hb:block f a s.rows.length with
       |none=>rw[hb] at h;simp at h
       |some b=>
         rw[hb] at h;have K3:=ihb _ _ _ hb;have K4:=(K2.trans K3).trans (CK b J3);exact K1.trans (K4.trans (ihb _ _ _ h))
    rw[if_neg h2] at h;by_cases h3:s.next Gt=true
    ·rw[if_pos h3] at h
     have K1:=nodeK (nd 9) (Et (by decide));cases he:expr f (s.step.node u (nd 9)) s.rows.length with
     |none=>rw[he] at h;simp at h
     |some a=>
       rw[he] at h;have K2:=E.1 _ _ _ he;exact K1.trans (K2.trans (ihb _ _ _ h))
    rw[if_neg h3] at h;by_cases h4:s.next Gu=true
    ·rw[if_pos h4] at h
     have K1:=nodeK (nd 11) (Et (by decide));cases he:expr f (s.step.node u (nd 11)) s.rows.length with
     |none=>rw[he] at h;simp at h
     |some a=>
       rw[he] at h;injection h with h;subst h;exact K1.trans ((E.1 _ _ _ he).trans (CK _ _))
    rw[if_neg h4] at h;by_cases h5:s.next wDo=true
    ·rw[if_pos h5] at h
     have K1:=nodeK (nd 12) (Et (by decide));generalize(s.step.node u (nd 12))=a at h K1;cases he:call f a.name s.rows.length (a.text 1) with
     |none=>rw[he] at h;simp at h
     |some b=>
       rw[he] at h;injection h with h;subst h;exact(K1.trans (Hf a)).trans ((E.2.1 _ _ _ _ he).trans (CK _ _))
    rw[if_neg h5] at h;have K1:=(Hf s).trans (Dx s.name u (nd 7) (Et (by decide)));generalize(s.name.node u (nd 7))=a at h K1;have K2:=(NF a (s.text 1) s.rows.length).trans (CK _ [61]);cases he:expr f (((a.find (s.text 1)).2.DN s.rows.length (a.find (s.text 1)).1).need [61]) s.rows.length with
    |none=>rw[he] at h;simp at h
    |some b=>
      rw[he] at h;injection h with h;subst h;exact K1.trans (K2.trans ((E.1 _ _ _ he).trans (CK _ _)))
   ·rw[block] at h
    try dsimp only at h
    have K1:=Dx s u (nd 5) (Et (by decide));generalize hbd:({(s.node u (nd 5)) with level:=(s.node u (nd 5)).level+1}:Rd)=b at h;have K2:NS (s.node u (nd 5)) b:=by rw[←hbd];exact FK rfl rfl
    by_cases hb:b.enter.bad=true
    ·rw[if_pos hb] at h
     injection h with h;subst h;exact(K1.trans K2).trans ((Es _).trans ((Er _).trans (Tu _)))
    ·rw[if_neg hb] at h
     cases he:stmts f (b.enter.need [123]) s.rows.length with
     |none=>rw[he] at h;simp at h
     |some a=>
       rw[he] at h;injection h with h;subst h;have K3:=K2.trans ((Es b).trans (CK _ [123]));exact K1.trans (K3.trans ((ihl _ _ _ he).trans ((Er _).trans (Tu _))))
   ·rw[stmts] at h
    by_cases hb:s.bad=true
    ·rw[if_pos hb] at h
     injection h with h;subst h;exact NS.refl _
    rw[if_neg hb] at h;by_cases hn:s.next [125]=true
    ·rw[if_pos hn] at h
     injection h with h;subst h;exact EG _
    rw[if_neg hn] at h;cases he:stmt f s n with
    |none=>rw[he] at h;simp at h
    |some a=>
      rw[he] at h;have K1:=ihs _ _ _ he;exact K1.trans (ihl _ _ _ h)
theorem Uw:∀(f:Nat) (b:Bool) (s:Rd) (k:Nat) (s':Rd),params f b s k=some s'→NS s s':=by
 intro f
 induction f with
 |zero=>intro b s k s' h;simp[params] at h
 |succ f ih=>
   intro b s k s' h;rw[params] at h;by_cases hb:s.bad=true
   ·rw[if_pos hb] at h;injection h with h;subst h;exact NS.refl _
   rw[if_neg hb] at h;by_cases hn:s.next [41]=true
   ·rw[if_pos hn] at h;injection h with h;subst h;exact EG _
   rw[if_neg hn] at h;dsimp only at h;have K0:NS s (if b=true then s else s.need [44]):=by split <;>first|exact NS.refl _|exact CK _ _
   generalize(if b=true then s else s.need [44])=r at h K0;have K1:=K0.trans (Hf r);have K2:=K1.trans (Dx r.name k (AX 4 (r.text 1)) (KJ (LQ r).L (by decide)));have K3:=K2.trans ((ND _).trans ((Jk _ r.rows.length (r.name.node k (AX 4 (r.text 1))).typed.1).trans (NG _ (r.text 1) r.rows.length)));exact K3.trans (ih _ _ _ _ h)
theorem Yc:∀(f:Nat) (s:Rd) (n:Nat) (s':Rd),body f s n=some s'→NS s s':=by
 intro f
 induction f with
 |zero=>intro s n s' h;simp[body] at h
 |succ f ih=>
   intro s n s' h;rw[body] at h;by_cases hb:s.bad=true∨s.next BN=true
   ·rw[if_pos hb] at h;injection h with h;subst h;exact NS.refl _
   rw[if_neg hb] at h;cases he:stmt f s n with
   |none=>rw[he] at h;simp at h
   |some a=>
     rw[he] at h;have K1:=(X3 f).1 _ _ _ he;exact K1.trans (ih _ _ _ h)
theorem YW(f:Nat)(s:Rd)(u:Nat)(m:Str)(s':Rd)(h:func f s u m=some s'):NS s s':=by
 unfold func at h;dsimp only at h;have K1:=(CK s DJ).trans (Hf _);have hT:∀x:Rd,x.L=s.L→NdOk x (AX 3 ((s.need DJ).text 1)):=fun x hx=>KJ (hx.trans (Ch s DJ).L.symm) (by decide);generalize(s.need DJ).text 1=t at h hT;generalize(s.need DJ).name=a at h K1;have K2:NS s (if inL a.funcs (m++[32]++t)=true then a.fault 10 else a):=K1.trans (by split <;>first|exact IW _ _|exact NS.refl _);generalize(if inL a.funcs (m++[32]++t)=true then a.fault 10 else a)=b at h K2;change (match params f true (((b.node u (AX 3 t)).EU (m++[32]++t) b.rows.length).need [40]) b.rows.length with
  |none=>none
  |some r=>_)=some s' at h
 have K3:=K2.trans (Dx b u (AX 3 t) (hT b K2.L));have K4:NS (b.node u (AX 3 t)) ((b.node u (AX 3 t)).EU (m++[32]++t) b.rows.length):=WY _ _ _;have K5:=K3.trans K4;generalize(b.node u (AX 3 t)).EU (m++[32]++t) b.rows.length=c at h K5;cases hp:params f true (c.need [40]) b.rows.length with
 |none=>rw[hp] at h;simp at h
 |some p=>
   rw[hp] at h;dsimp only at h;have K6:=(CK c [40]).trans (Uw _ _ _ _ _ hp);have K7:=K6.trans ((ND p).trans (Jk _ b.rows.length p.typed.1));have K8:=K7.trans (Dx _ b.rows.length (nd 5) (Et (by decide)));have K9:=K8.trans (CK _ [123]);generalize((p.typed.2.Ar b.rows.length p.typed.1).node b.rows.length (nd 5)).need [123]=q at h K9;cases hq:body f q (p.typed.2.Ar b.rows.length p.typed.1).rows.length with
   |none=>rw[hq] at h;simp at h
   |some v=>
     rw[hq] at h;dsimp only at h;have K10:=Yc _ _ _ _ hq;have K11:=K10.trans (CK v BN);have K12:=K11.trans (Dx (v.need BN) (p.typed.2.Ar b.rows.length p.typed.1).rows.length (nd 10) (Et (by decide)));cases hx:expr f ((v.need BN).node (p.typed.2.Ar b.rows.length p.typed.1).rows.length (nd 10)) (v.need BN).rows.length with
     |none=>rw[hx] at h;simp at h
     |some x=>
       rw[hx] at h;injection h with h;subst h;exact K5.trans (K9.trans (K12.trans (((UK f).1 _ _ _ hx).trans ((CK _ _).trans (CK _ _)))))
theorem Pe(f:Nat):∀(g:Nat) (s:Rd) (m:Nat) (t:Str) (s':Rd),Ba f g s m t=some s'→NS s s':=by
 intro g
 induction g with
 |zero=>intro s m t s' h;simp[Ba] at h
 |succ g ih=>
   intro s m t s' h;rw[Ba] at h;by_cases hb:s.bad=true
   ·rw[if_pos hb] at h;injection h with h;subst h;exact NS.refl _
   rw[if_neg hb] at h;by_cases hn:s.next [125]=true
   ·rw[if_pos hn] at h;injection h with h;subst h;exact EG _
   rw[if_neg hn] at h;cases he:func f s m t with
   |none=>rw[he] at h;simp at h
   |some a=>
     rw[he] at h;have K1:=YW _ _ _ _ _ he;exact K1.trans (ih _ _ _ _ h)
theorem Ia(f:Nat):∀(g:Nat) (s:Rd) (root:Nat) (s':Rd),Bh f g s root=some s'→NS s s':=by
 intro g
 induction g with
 |zero=>intro s r s' h;simp[Bh] at h
 |succ g ih=>
   intro s root s' h;rw[Bh] at h;by_cases hb:s.bad=true∨s.L.length≤s.at_
   ·rw[if_pos hb] at h;injection h with h;subst h;exact NS.refl _
   rw[if_neg hb] at h;dsimp only at h;have K1:=(CK s Cb).trans (Hf _);have hT:∀x:Rd,x.L=s.L→NdOk x (AX 2 ((s.need Cb).text 1)):=fun x hx=>KJ (hx.trans (Ch s Cb).L.symm) (by decide);generalize(s.need Cb).text 1=t at h hT;generalize(s.need Cb).name=a at h K1;have K2:NS s (if inL a.mods t=true then a.fault 10 else a):=K1.trans (by split <;>first|exact IW _ _|exact NS.refl _);generalize(if inL a.mods t=true then a.fault 10 else a)=b at h K2;generalize hc:({b with mods:=b.mods++[t]}:Rd)=c at h;have hcr:c.rows=b.rows:=by rw[←hc]
   have K3:=K2.trans (show NS b c from by rw[←hc];exact FK rfl rfl);have K4:=K3.trans (Dx c root (AX 2 t) (hT c K3.L));have K5:=CK (c.node root (AX 2 t)) [123];cases he:Ba f f ((c.node root (AX 2 t)).need [123]) b.rows.length t with
   |none=>rw[he] at h;simp at h
   |some d=>
     rw[he] at h;have K6:=K4.trans (K5.trans (Pe _ _ _ _ _ _ he));exact K6.trans (ih _ _ _ h)
theorem KN:∀(fs:List Str) (is:List Nat) (t:Str) (z:Nat),DU fs is t z≠0→DU fs is t z=z∨DU fs is t z∈is
 |[],_,_,_,_=>by simp[DU]
 |_::_,[],_,_,_=>by simp[DU]
 |f::fs,i::is,t,z,h=>by
   unfold DU at h⊢;rcases KN fs is t _ h with e|e
   ·split at e
    ·rename_i hc;rw[if_pos hc];rw[e];exact .inr (by simp)
    ·rename_i hc;rw[if_neg hc];exact .inl e
   ·exact .inr (List.mem_cons_of_mem _ e)
theorem PW:∀(is:List Nat) (ws:List Str) (s:Rd),NS s (link is ws s):=by
 intro is
 induction is with
 |nil=>intro ws s;cases ws <;>exact NS.refl _
 |cons i is ih=>
   intro ws s;cases ws with
   |nil=>exact NS.refl _
   |cons t ws=>
     rw[link];refine NS.trans ?_ (ih ws _);have hf:(s.fault 9).ids=s.ids:=by unfold fault;split <;>rfl
     split
     ·rename_i h0
      rw[h0];exact(IW _ _).trans (Ky _ _ _ fun R _ _=>Nat.zero_le _)
     ·refine Ky _ _ _ fun R hR x=> ?_
      rename_i h0
      rcases KN _ _ _ _ h0 with e|e
      ·exact absurd e h0
      ·exact(x R hR).2.2 _ e
theorem SC(f:Nat)(l:List Tok)(s':Rd)(h:program f (BF l)=some s')(M:Nat)(hM:∀t∈l,t.text.length≤M):∀r∈s'.rows,Nk M r.node:=by
 unfold program at h;dsimp only at h;cases e:Bh f f ((BF l).node 0 (nd 1)) (BF l).rows.length with
 |none=>rw[e] at h;simp at h
 |some a=>
   rw[e] at h;injection h with h;subst h;have K:=(Dx (BF l) 0 (nd 1) (Et (by decide))).trans ((Ia _ _ _ _ _ e).trans (PW a.calls a.wants a));exact K.nb (fun M hM r hr=>by have h0:(BF l).rows=[]:=rfl;rw[h0] at hr;simp at hr) M (by rw[K.L];exact hM)
theorem SB(f:Nat)(l:List Tok)(s':Rd)(h:program f (BF l)=some s'):∀r∈s'.rows,r.node.ref≤s'.rows.length:=by
 unfold program at h;dsimp only at h;cases e:Bh f f ((BF l).node 0 (nd 1)) (BF l).rows.length with
 |none=>rw[e] at h;simp at h
 |some a=>
   rw[e] at h;injection h with h;subst h;have K:=(Dx (BF l) 0 (nd 1) (Et (by decide))).trans ((Ia _ _ _ _ _ e).trans (PW a.calls a.wants a));exact fun r hr=>((K.rb (fun R _=>⟨fun r hr=>(by cases hr),fun b hb=>(by cases hb),fun i hi=>(by cases hi)⟩) _ AA).1 r hr).2
theorem Qc(f:Nat)(l:List Tok)(s':Rd)(h:program f (BF l)=some s'):0 < s'.rows.length:=by
 unfold program at h;dsimp only at h;cases e:Bh f f ((BF l).node 0 (nd 1)) (BF l).rows.length with
 |none=>rw[e] at h;simp at h
 |some a=>
   rw[e] at h;injection h with h;subst h;have K:=((Ia _ _ _ _ _ e).trans (PW a.calls a.wants a)).len;have h1:((BF l).node 0 (nd 1)).rows.length=1:=rfl;omega
end Rd
theorem NP:∀{l:List Row} {r:Row},r∈l→r.node.kids.length≤BO l
 |[],r,h=>by simp at h
 |x::l,r,h=>by
   rw[Dz];rcases List.mem_cons.1 h with h|h
   ·subst h;omega
   ·have:=NP h;omega
theorem Tr.sum{l:List Row}(h:Tr l):BO l=l.length-1:=by
 have:=h.perm.length_eq;rw[List.length_flatMap] at this;simpa[BO] using this
theorem Tr.kids{l:List Row}(h:Tr l)(r:Row)(hr:r∈l):r.node.kids.length≤l.length:=by
 have h1:=h.sum;have h2:r.node.kids.length≤BO l:=by
  exact NP hr
 omega
theorem Tr.kid0{l:List Row}(h:Tr l)(x:Nat):∀k∈(AL l x).kids,k≠0:=by
 intro k hk;cases hi:atI l x with
 |none=>rw[Cx l x hi] at hk;simp[Node.zero] at hk
 |some i=>
   rw[DT l x i hi] at hk;have hl:i < l.length:=by
    unfold atI at hi;exact(List.findIdx?_eq_some_iff_getElem.1 hi).1
   have e:rowAt l i=l[i]:=by simp[rowAt,hl]
   rw[e] at hk;have:=h.up i l[i] (Aa hl) k hk;omega
theorem WP(s:Str):∀r∈(Cn s).1,Nk s.length r.node:=by
 cases h:Dj s with
 |none=>rw[Fs h];intro r hr;simp at hr
 |some l=>
   obtain⟨r,hp,_,_,ht,e⟩:=Fq h;obtain⟨_,h2⟩:=Kv h;rw[e];split
   ·intro r hr;simp at hr
   ·split
    ·intro r hr;simp at hr
    ·split
     ·intro r hr;simp at hr
     ·exact Rd.SC _ _ _ hp _ h2
theorem WO(s:Str):∀r∈(Cn s).1,r.node.ref≤(Cn s).1.length:=by
 cases h:Dj s with
 |none=>rw[Fs h];intro r hr;simp at hr
 |some l=>
   obtain⟨r,hp,_,_,ht,e⟩:=Fq h;rw[e];split
   ·intro r hr;simp at hr
   ·split
    ·intro r hr;simp at hr
    ·split
     ·intro r hr;simp at hr
     ·exact Rd.SB _ _ _ hp
theorem Uv(s:Str)(h0:(Cn s).2=0):0 < (Cn s).1.length:=by
 cases h:Dj s with
 |none=>rw[Fs h] at h0;cases h0
 |some l=>
   obtain⟨r,hp,_,_,ht,e⟩:=Fq h;rw[e] at h0⊢
   split at h0
   ·cases h0
   ·rename_i c1
    rw[if_neg c1]
    split at h0
    ·cases h0
    ·rename_i c2
     rw[if_neg c2]
     split at h0
     ·rename_i c3;exact absurd h0 c3
     ·rename_i c3;rw[if_neg c3];exact Rd.Qc _ _ _ hp
end Hg
namespace Hg
def Tq(id:Nat)(n:Node):List Row→List Row→Bool→List Row
 |[],out,done=>if done=true then out else out++[⟨id,n⟩]
 |r::l,out,done=>if r.id=id then Tq id n l out done
   else if id < r.id∧done=false then Tq id n l (out++[⟨id,n⟩]++[r]) true
   else Tq id n l (out++[r]) done
def putRow(l:List Row)(id:Nat)(n:Node):List Row:=Tq id n l [] false
def ET(a:Nat)(l:List Row):Prop:=∀(k:Nat) (r:Row),l[k]? =some r→r.id=a+k
theorem ET.head{a:Nat}{r:Row}{l:List Row}(h:ET a (r::l)):r.id=a:=by simpa using h 0 r rfl
theorem ET.tail{a:Nat}{r:Row}{l:List Row}(h:ET a (r::l)):ET (a+1) l:=fun k x hx=>by
 have:=h (k+1) x (by simpa using hx);omega
end Hg
