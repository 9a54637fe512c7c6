/-
  A part of the proof.
-/
set_option linter.all false
namespace Hg
abbrev Str:=List UInt8
structure Tok where
 kind:Nat
 text:Str
 pos:Nat
deriving Inhabited,DecidableEq
structure Node where
 kind:Nat
 name:Str
 num:Int
 type:Nat
 ref:Nat
 kids:List Nat
deriving Inhabited,DecidableEq
structure Row where
 id:Nat
 node:Node
deriving Inhabited,DecidableEq
def Node.zero:Node:=⟨0,[],0,0,0,[]⟩
def cls(c:UInt8):Nat:=
 if (97≤c.toNat∧c.toNat≤122)∨(65≤c.toNat∧c.toNat≤90)∨c.toNat=95 then 1
 else if 48≤c.toNat∧c.toNat≤57 then 2
 else if c.toNat=32∨c.toNat=9∨c.toNat=10 then 3 else 0
def Bb(c:UInt8):Bool:=cls c==1||cls c==2
def inL(l:List Str)(s:Str):Bool:=l.any (· ==s)
def Cj(s:Str):Bool:=
 match s with
 |[]=>false
 |c::_=>s.length≤64 && cls c==1 && s.all Bb
def valOf(s:Str):Nat:=s.foldl (fun n c=>10*n+(c.toNat-48)) 0
def CL(s:Str):Int:=
 match s with
 |[]=> -1
 |c::r=>
   if 19 < s.length∨(c.toNat=48∧r≠[]) then -1
   else if s.all (fun c=>cls c==2) then(if 9223372036854775807 < valOf s then -1 else(valOf s:Int)) else -1
def PG:Str:=[98,111,111,108]
def wDo:Str:=[100,111]
def Jg:Str:=[101,108,115,101]
def F6:Str:=[102,97,108,115,101]
def C8:Str:=[102,117,110,99]
def wIf:Str:=[105,102]
def wInt:Str:=[105,110,116]
def wLet:Str:=[108,101,116]
def Cb:Str:=[109,111,100,117,108,101]
def Gi:Str:=[112,114,105,110,116]
def I8:Str:=[114,101,97,100]
def BQ:Str:=[114,101,116,117,114,110]
def I7:Str:=[116,114,117,101]
def Gh:Str:=[119,104,105,108,101]
def words:List Str:=[PG,wDo,Jg,F6,C8,wIf,wInt,wLet,Cb,Gi,I8,BQ,I7,Gh]
def signs:List Str:=[[40],[41],[123],[125],[46],[44],[59],[61],[33],[43],[45],[42],[47],[37],[60],[60,61],[62],[62,61],[61,61],[33,61],[38,38],[124,124]]
def BB:Nat→Nat→Str→List Tok→Option (List Tok)
 |0,_,_,acc=>some acc
 |f+1,i,s,acc=>
   match s with
   |[]=>some acc
   |c::r=>
     if cls c=3 then BB f (i+1) r acc
     else if c.toNat=35 then
      let k:=(s.takeWhile (fun b=>b.toNat !=10)).length
      BB f (i+k) (s.drop k) acc
     else if 0 < cls c then
      let w:=s.takeWhile Bb
      let nx:=fun t=>BB f (i+w.length) (s.drop w.length) (acc++[t])
      if inL words w then nx ⟨3,w,i⟩
      else if Cj w then nx ⟨1,w,i⟩
      else if 0≤CL w then nx ⟨2,w,i⟩
      else none
     else
      let w:=if inL signs (s.take 2)∧2≤s.length then s.take 2 else s.take 1
      if inL signs w then BB f (i+w.length) (s.drop w.length) (acc++[⟨4,w,i⟩]) else none
def Dt(s:Str):Option (List Tok):=BB s.length 0 s []
structure F5 where
 name:Str
 id:Nat
 deep:Nat
deriving Inhabited,DecidableEq
structure Rd where
 L:List Tok
 at_:Nat
 deep:Nat
 bad:Bool
 rows:List Row
 names:Nat
 mods:List Str
 funcs:List Str
 ids:List Nat
 calls:List Nat
 wants:List Str
 used:List Str
 seen:List F5
 level:Nat
deriving Inhabited,DecidableEq
namespace Rd
def BP(l:List Tok):Rd:=⟨l,0,0,false,[],0,[],[],[],[],[],[],[],0⟩
def fault(r:Rd)(e:Nat):Rd:=if r.names=0∧r.bad=false then {r with names:=e} else r
def EY(l:List Row)(under id:Nat):List Row:=
 l.modify under fun x=>{x with node:={x.node with kids:=x.node.kids++[id]}}
def node(r:Rd)(under:Nat)(n:Node):Rd:=
 let id:=r.rows.length+1
 let rows:=r.rows++[⟨id,n⟩]
 {r with rows:=if 1 < id then EY rows under id else rows}
def text(r:Rd)(kind:Nat):Str:=
 if r.bad then[] else
  match r.L[r.at_]? with
  |some t=>if t.kind=kind then t.text else[]
  |none=>[]
def next(r:Rd)(s:Str):Bool:=r.text 3==s||r.text 4==s
def step(r:Rd):Rd:={r with at_:=r.at_+1}
def eat(r:Rd)(s:Str):Rd:=if r.next s then r.step else r
def setBad(r:Rd):Rd:={r with bad:=true}
def need(r:Rd)(s:Str):Rd:=if r.next s then r.step else r.setBad
def name(r:Rd):Rd:=if r.text 1=[] then r.setBad else r.step
def typed(r:Rd):Nat×Rd:=if r.next wInt then(1,r.step) else(2,r.need PG)
def Ar(r:Rd)(k t:Nat):Rd:={r with rows:=r.rows.modify k fun x=>{x with node:={x.node with type:=t}}}
def DR(r:Rd)(k id:Nat):Rd:={r with rows:=r.rows.modify k fun x=>{x with node:={x.node with ref:=id}}}
def Bv(r:Rd)(k:Nat)(n:Int):Rd:={r with rows:=r.rows.modify k fun x=>{x with node:={x.node with num:=n}}}
def idAt(r:Rd)(k:Nat):Nat:=((r.rows[k]?).map (·.id)).getD 0
def declare(r:Rd)(s:Str)(k:Nat):Rd:=
 let r:=if inL r.used s then r.fault 10 else r
 {r with used:=r.used++[s],seen:=r.seen++[⟨s,r.idAt k,r.level⟩]}
def Kq(l:List F5)(s:Str):Option Nat:=(l.reverse.find? (fun b=>b.name==s)).map (·.id)
def find(r:Rd)(s:Str):Nat×Rd:=
 match Kq r.seen s with
 |some id=>(id,r)
 |none=>(0,r.fault 9)
def enter(r:Rd):Rd:=
 let r:={r with deep:=r.deep+1}
 if 90 < r.deep then r.setBad else r
def leave(r:Rd):Rd:={r with deep:=r.deep-1}
end Rd
end Hg
namespace Hg
namespace Rd
def ops:List Str:=[[43],[45],[42],[47],[37],[60],[60,61],[62],[62,61],[61,61],[33,61],[38,38],[124,124]]
def opOf(s:Str):Nat:=match ops.findIdx? (· ==s) with|some i=>i+1|none=>0
def nd(kind:Nat):Node:=⟨kind,[],0,0,0,[]⟩
def AP(kind:Nat)(s:Str):Node:=⟨kind,s,0,0,0,[]⟩
def LC(kind:Nat)(n:Int):Node:=⟨kind,[],n,0,0,[]⟩
def shut(r:Rd):Rd:={r with seen:=r.seen.filter (fun b=>b.deep < r.level),level:=r.level-1}
mutual
def expr:Nat→Rd→Nat→Option Rd
 |0,_,_=>none
 |f+1,r,under=>
   if r.text 2≠[] then some (r.step.node under (LC 13 (CL (r.text 2))))
   else if r.text 1≠[] then
    let s:=r.text 1
    let r:=r.step
    if r.next [46] then call f r under s
    else
     let n:=r.rows.length
     let r:=r.node under (nd 15)
     some ((r.find s).2.DR n (r.find s).1)
   else if r.next I7 then some (r.step.node under (LC 14 1))
   else if r.next F6 then some (r.step.node under (nd 14))
   else if r.next I8 then some (r.step.node under (nd 20))
   else if r.next [33]∨r.next [45] then
    let kind:=if r.next [33] then 16 else 17
    let n:=r.rows.length
    let r:=(r.step.node under (nd kind)).enter
    if r.bad then some r.leave else(expr f r n).map leave
   else if r.next [40] then
    let n:=r.rows.length
    let r:=(r.step.node under (nd 18)).enter
    if r.bad then some r.leave else
     match expr f r n with
     |none=>none
     |some r=>
       let op:=opOf (r.text 4)
       let r:=r.Bv n op
       let r:=if op=0 then r.setBad else r
       match expr f r.step n with
       |none=>none
       |some r=>some (r.need [41]).leave
   else some r.setBad
def call:Nat→Rd→Nat→Str→Option Rd
 |0,_,_,_=>none
 |f+1,r,under,mod=>
   let n:=r.rows.length
   let r:=(r.node under (nd 19)).need [46]
   let s:=r.text 1
   let r:=r.name
   let r:={r with calls:=r.calls++[r.idAt n],wants:=r.wants++[mod++[32]++s]}
   let r:=r.enter
   if r.bad then some r.leave else(args f true (r.need [40]) n).map leave
def args:Nat→Bool→Rd→Nat→Option Rd
 |0,_,_,_=>none
 |f+1,first,r,n=>
   if r.bad then some r
   else if r.next [41] then some r.step
   else
    match expr f (if first then r else r.need [44]) n with
    |none=>none
    |some r=>args f false r n
end
mutual
def stmt:Nat→Rd→Nat→Option Rd
 |0,_,_=>none
 |f+1,r,under=>
   let n:=r.rows.length
   if r.next wLet then
    let r:=r.step
    let s:=r.text 1
    let r:=r.name.node under (AP 6 s)
    let t:=r.typed
    let r:=(t.2.Ar n t.1).need [61]
    match expr f r n with
    |none=>none
    |some r=>some ((r.declare s n).need [59])
   else if r.next wIf then
    match expr f (r.step.node under (nd 8)) n with
    |none=>none
    |some r=>
      match block f r n with
      |none=>none
      |some r=>block f (r.need Jg) n
   else if r.next Gh then
    match expr f (r.step.node under (nd 9)) n with
    |none=>none
    |some r=>block f r n
   else if r.next Gi then
    (expr f (r.step.node under (nd 11)) n).map (·.need [59])
   else if r.next wDo then
    let r:=r.step.node under (nd 12)
    (call f r.name n (r.text 1)).map (·.need [59])
   else
    let s:=r.text 1
    let r:=r.name.node under (nd 7)
    let r:=((r.find s).2.DR n (r.find s).1).need [61]
    (expr f r n).map (·.need [59])
def block:Nat→Rd→Nat→Option Rd
 |0,_,_=>none
 |f+1,r,under=>
   let n:=r.rows.length
   let r:=r.node under (nd 5)
   let r:=({r with level:=r.level+1}:Rd).enter
   if r.bad then some r.leave.shut else(stmts f (r.need [123]) n).map (fun r=>r.leave.shut)
def stmts:Nat→Rd→Nat→Option Rd
 |0,_,_=>none
 |f+1,r,n=>
   if r.bad then some r
   else if r.next [125] then some r.step
   else
    match stmt f r n with
    |none=>none
    |some r=>stmts f r n
end
def params:Nat→Bool→Rd→Nat→Option Rd
 |0,_,_,_=>none
 |f+1,first,r,k=>
   if r.bad then some r
   else if r.next [41] then some r.step
   else
    let r:=if first then r else r.need [44]
    let x:=r.text 1
    let p:=r.rows.length
    let r:=r.name.node k (AP 4 x)
    let t:=r.typed
    params f false ((t.2.Ar p t.1).declare x p) k
def body:Nat→Rd→Nat→Option Rd
 |0,_,_=>none
 |f+1,r,n=>
   if r.bad∨r.next BQ then some r
   else
    match stmt f r n with
    |none=>none
    |some r=>body f r n
def func(f:Nat)(r:Rd)(under:Nat)(mod:Str):Option Rd:=
 let r:=r.need C8
 let s:=r.text 1
 let r:=r.name
 let r:=if inL r.funcs (mod++[32]++s) then r.fault 10 else r
 let k:=r.rows.length
 let r:=r.node under (AP 3 s)
 let r:={r with funcs:=r.funcs++[mod++[32]++s],ids:=r.ids++[r.idAt k],used:=[],seen:=[],level:=0}
 match params f true (r.need [40]) k with
 |none=>none
 |some r=>
   let t:=r.typed
   let r:=t.2.Ar k t.1
   let b:=r.rows.length
   let r:=(r.node k (nd 5)).need [123]
   match body f r b with
   |none=>none
   |some r=>
     let r:=r.need BQ
     let n:=r.rows.length
     match expr f (r.node b (nd 10)) n with
     |none=>none
     |some r=>some ((r.need [59]).need [125])
def BX(f:Nat):Nat→Rd→Nat→Str→Option Rd
 |0,_,_,_=>none
 |g+1,r,m,s=>
   if r.bad then some r
   else if r.next [125] then some r.step
   else
    match func f r m s with
    |none=>none
    |some r=>BX f g r m s
def Bo(f:Nat):Nat→Rd→Nat→Option Rd
 |0,_,_=>none
 |g+1,r,root=>
   if r.bad∨r.L.length≤r.at_ then some r
   else
    let r:=r.need Cb
    let s:=r.text 1
    let r:=r.name
    let r:=if inL r.mods s then r.fault 10 else r
    let r:={r with mods:=r.mods++[s]}
    let m:=r.rows.length
    let r:=(r.node root (AP 2 s)).need [123]
    match BX f f r m s with
    |none=>none
    |some r=>Bo f g r root
def Fg:List Str→List Nat→Str→Nat→Nat
 |f::fs,i::is,s,t=>Fg fs is s (if f=s then i else t)
 |_,_,_,t=>t
def lastOf(fs:List Str)(is:List Nat)(s:Str):Nat:=Fg fs is s 0
def link:List Nat→List Str→Rd→Rd
 |id::is,s::ws,r=>
   let to:=lastOf r.funcs r.ids s
   let r:=if to=0 then r.fault 9 else r
   link is ws (r.DR (id-1) to)
 |_,_,r=>r
def program(f:Nat)(r:Rd):Option Rd:=
 let root:=r.rows.length
 match Bo f f (r.node 0 (nd 1)) root with
 |none=>none
 |some r=>some (link r.calls r.wants r)
end Rd
def Oc(f:Nat)(s:Str):Option (List Row×Nat):=
 match Dt s with
 |none=>some ([],20)
 |some l=>
   match Rd.program f (Rd.BP l) with
   |none=>none
   |some r=>
     if r.bad then some ([],20)
     else if 20000 < r.rows.length then some ([],5)
     else if r.names≠0 then some ([],r.names)
     else some (r.rows,0)
end Hg
theorem AA{n:Nat}:n≤n:=Nat.le_refl n
abbrev AC:= @Nat.le_trans
abbrev AR:= @Nat.lt_of_lt_of_le
abbrev Ab:= @Array.getElem?_eq_some_iff
abbrev Ai:= @List.getElem?_eq_some_iff
abbrev AY:= @List.getElem?_eq_getElem
abbrev Aw:= @List.drop_eq_getElem_cons
namespace Hg
def atI(l:List Row)(id:Nat):Option Nat:=l.findIdx? (fun r=>r.id==id)
def KM(l:List Row)(id:Nat):Int:=match atI l id with|some k=>(k:Int)|none=> -1
def parentOf:List Row→Nat→Nat×Nat
 |[],_=>(0,0)
 |r::rs,id=>match r.node.kids.findIdx? (· ==id) with
   |some k=>(r.id,k)
   |none=>parentOf rs id
def AO(l:List Row)(id:Nat):Node:=match l.find? (fun r=>r.id==id) with|some r=>r.node|none=>Node.zero
def isIn(l:List Nat)(x:Nat):Bool:=l.contains x
def numT(n:Nat):Str:=if n < 10 then[UInt8.ofNat (48+n)] else if n < 100 then[UInt8.ofNat (48+n / 10),UInt8.ofNat (48+n % 10)] else[UInt8.ofNat (48+n / 100),UInt8.ofNat (48+n / 10 % 10),UInt8.ofNat (48+n % 10)]
def tkAt(L:List Tok)(k:Nat):Tok:=L.getD k ⟨0,[],0⟩
def tkIs(L:List Tok)(k:Nat)(s:List UInt8):Bool:=(tkAt L k).text==s && (decide ((tkAt L k).kind=3)||decide ((tkAt L k).kind=4))
def tkB(L:List Tok)(k:Nat)(s:List UInt8):Bool:=decide (k < L.length) && tkIs L k s
inductive GT where
 |mk (b:Nat) (nd:Node) (md tt:Str) (ks:List GT)
namespace GT
def b:GT→Nat| .mk b _ _ _ _=>b
def nd:GT→Node| .mk _ n _ _ _=>n
def md:GT→Str| .mk _ _ m _ _=>m
def tt:GT→Str| .mk _ _ _ t _=>t
def ks:GT→List GT| .mk _ _ _ _ k=>k
mutual
def map(f:Nat→Nat):GT→GT| .mk b nd md tt ks=> .mk (f b) nd md tt (mapL f ks)
def mapL(f:Nat→Nat):List GT→List GT|[]=>[]|t::ts=>map f t::mapL f ts
end
end GT
def ndK(kind:Nat):Node:=⟨kind,[],0,0,0,[]⟩
def gmk(kind:Nat)(num:Int)(tt:Str)(ks:List GT):GT:= .mk 0 ⟨kind,[],num,0,0,[]⟩ [] tt ks
def digit(s:Str):Option Nat:=(List.range 256).find? fun n=>numT n==s
def XP:List Str:=[[43],[45],[42],[47],[37],[60],[60,61],[62],[62,61],[61,61],[33,61],[38,38],[124,124]]
def VY(s:Str):Nat:=match XP.findIdx? (· ==s) with|some k=>k+1|none=>0
def X8(L:List Tok)(item:Nat→Option (GT×Nat)):Nat→Nat→Option (List GT×Nat)
 |0,_=>none
 |n+1,k=>match item k with
   |none=>none
   |some (a,k1)=>
     if tkB L k1 [41] then some ([a],k1+1)
     else if tkB L k1 [44] then match X8 L item n (k1+1) with
      |none=>none
      |some (l,k2)=>some (a::l,k2)
     else none
def Yn(L:List Tok)(item:Nat→Option (GT×Nat))(k:Nat):Option (List GT×Nat):=
 if tkB L k [41] then some ([],k+1) else X8 L item L.length k
def gC(L:List Tok)(item:Nat→Option (GT×Nat))(d:Nat)(mod:Str)(k:Nat):Option (GT×Nat):=
 if tkB L k [46] && (decide (k+1 < L.length) && (decide ((tkAt L (k+1)).kind=1) && (decide (d < 60) && tkB L (k+2) [40]))) then
  match Yn L item (k+3) with
  |none=>none
  |some (l,k2)=>some (.mk 0 (ndK 19) mod (tkAt L (k+1)).text l,k2)
 else none
def gE(L:List Tok):Nat→Nat→Nat→Option (GT×Nat)
 |0,_,_=>none
 |f+1,d,k=>
   if L.length≤k then none
   else if (tkAt L k).kind=2 then match digit (tkAt L k).text with
    |some n=>some (gmk 13 n [] [],k+1)
    |none=>none
   else if (tkAt L k).kind=1 then
    if L.length≤k+1 then none
    else if tkIs L (k+1) [46] then gC L (gE L f (d+1)) d (tkAt L k).text (k+1)
    else some (gmk 15 0 (tkAt L k).text [],k+1)
   else if tkIs L k I7 then some (gmk 14 1 [] [],k+1)
   else if tkIs L k F6 then some (gmk 14 0 [] [],k+1)
   else if tkIs L k I8 then none
   else if tkIs L k [33] then none
   else if tkIs L k [45] then none
   else if tkIs L k [40] then
    if d < 60 then match gE L f (d+1) (k+1) with
     |none=>none
     |some (a,k1)=>
       if L.length≤k1 then none
       else if VY (tkAt L k1).text=0 then none
       else match gE L f (d+1) (k1+1) with
        |none=>none
        |some (b,k2)=>if tkB L k2 [41] then some (gmk 18 (VY (tkAt L k1).text) [] [a,b],k2+1) else none
    else none
   else none
def LD(L:List Tok)(k:Nat):Bool:=decide (k < L.length) && decide ((tkAt L k).kind=1)
mutual
def num(n:Nat):GT→GT×Nat| .mk _ nd md tt ks=>let r:=numL (n+1) ks;(.mk n nd md tt r.1,r.2)
def numL(n:Nat):List GT→List GT×Nat
 |[]=>([],n)
 |t::ts=>let r:=num n t;let q:=numL r.2 ts;(r.1::q.1,q.2)
end
structure NmSt where
 used:List Str
 scope:List (List (Str×Nat))
 refs:List (Nat×Nat)
 calls:List GT
def NmSt.declare(σ:NmSt)(t:GT):Except Nat NmSt:=
 if t.nd.name∈σ.used then .error 1
 else match σ.scope with
 |[]=> .error 0
 |l::ls=> .ok {σ with used:=t.nd.name::σ.used,scope:=((t.nd.name,t.b)::l)::ls}
end Hg
namespace Hg
structure RS where
 e:Nat
 used:Nat
 trace:List Int
 nc:Nat
structure RV where
 v:Nat→Int
 c:Nat
def RV.set(V:RV)(id:Nat)(x:Int):RV:=⟨fun i=>if i=id then x else V.v i,V.c+1⟩
structure RC where
 M:Nat→Option Node
 fuel:Nat
def RC.nd(C:RC)(id:Nat):Node:=(C.M id).getD Node.zero
def RS.ask(s:RS):RS:={s with nc:=s.nc+1}
def Hq(x:Int):Int:=(x+9223372036854775808) % 18446744073709551616-9223372036854775808
def RC.burn(C:RC)(s:RS):Bool×RS:=
 if s.e=0 then(if C.fuel≤s.used then(false,{s with e:=2}) else(true,{s with used:=s.used+1})) else(false,s)
def rOne(b:Bool):Int:=if b then 1 else 0
def Yl(op x y:Int):Int:=if op=1 then Hq (x+y) else rOne (decide (x < y))
def RC.expr(C:RC)(V:RV):Nat→Nat→RS→Option (Int×RS)
 |0,_,_=>none
 |d+1,id,s=>
   if s.e≠0∨18446744073709551616≤id∨1000000≤s.nc then none
   else if (C.nd id).kind=13 then some ((C.nd id).num,s.ask)
   else if (C.nd id).kind=15 then some (V.v (C.nd id).ref,s.ask)
   else if (C.nd id).kind=18∧((C.nd id).num=1∨(C.nd id).num=6)∧(C.nd id).kids.length=2 then
    (C.expr V d ((C.nd id).kids.getD 0 0) s.ask).bind fun(x,s)=>(C.expr V d ((C.nd id).kids.getD 1 0) s).bind fun(y,s)=>some (Yl (C.nd id).num x y,s)
   else none
mutual
def RC.block(C:RC):Nat→Nat→RV→RS→Option (Int×RV×RS)
 |0,_,_,_=>none
 |d+1,id,V,s=>if 18446744073709551616≤id∨1000000≤s.nc then none else C.stmts d (C.nd id).kids 0 V s.ask
def RC.stmts(C:RC):Nat→List Nat→Int→RV→RS→Option (Int×RV×RS)
 |0,_,_,_,_=>none
 |_+1,[],out,V,s=>some (out,V,s)
 |d+1,i::l,_,V,s=>if s.e≠0 then some (0,V,s) else(C.stmt d i V s).bind fun(o,V,s)=>C.stmts d l o V s
def RC.stmt(C:RC):Nat→Nat→RV→RS→Option (Int×RV×RS)
 |0,_,_,_=>none
 |d+1,id,V,s=>
   if 18446744073709551616≤id∨1000000≤s.nc∨s.e≠0∨1000000≤V.c then none
   else if (C.nd id).kind=9 then(if (C.nd id).kids.length=2 then C.loop d ((C.nd id).kids.getD 0 0) ((C.nd id).kids.getD 1 0) V s.ask else none)
   else if (C.burn s.ask).1=false then some (0,V,(C.burn s.ask).2)
   else if (C.nd id).kids.length=1 then
    (C.expr V d ((C.nd id).kids.getD 0 0) (C.burn s.ask).2).bind fun(x,s)=>
     if (C.nd id).kind=6 then some (0,V.set id x,s)
     else if (C.nd id).kind=7 then some (0,V.set (C.nd id).ref x,s)
     else if (C.nd id).kind=11∧s.trace.length < 1000000 then some (0,V,{s with trace:=s.trace++[x]})
     else if (C.nd id).kind=10 then some (x,V,s)
     else none
   else none
def RC.loop(C:RC):Nat→Nat→Nat→RV→RS→Option (Int×RV×RS)
 |0,_,_,_,_=>none
 |d+1,c,b,V,s=>
   if (C.burn s).1=false then some (0,V,(C.burn s).2)
   else(C.expr V d c (C.burn s).2).bind fun(x,s)=>
    if x=0 then some (0,V,s) else(C.block d b V s).bind fun(_,V,s)=>C.loop d c b V s
end
def RC.call(C:RC)(d f:Nat)(s:RS):Option (Int×RS):=
 if (C.burn s).1=false then some (0,(C.burn s).2)
 else if 18446744073709551616≤f∨1000000≤(C.burn s).2.nc∨(C.nd f).kids=[] then none
 else(C.block d ((C.nd f).kids.getD ((C.nd f).kids.length-1) 0) ⟨fun _=>0,0⟩ (C.burn s).2.ask).map fun(x,_,s)=>(x,s)
structure Fz where
 e:Nat
 used:Nat
 trace:List Int
 rd:Nat
abbrev FV:=Nat→Int
def fv0:FV:=fun _=>0
def FV.set(V:FV)(id:Nat)(x:Int):FV:=fun i=>if i=id then x else V i
def JJ:List Nat→List Int→FV→FV
 |k::ks,x::xs,V=>JJ ks xs (FV.set V k x)
 |_,_,V=>V
def EK(op x y:Int):Option Int:=
 if op=1 then some (Hq (x+y)) else if op=2 then some (Hq (x-y)) else if op=3 then some (Hq (x*y))
 else if op=4∨op=5 then(if y=0 then none else if op=4 then some (Hq (x.tdiv y)) else some (x.tmod y))
 else if op=6 then some (rOne (decide (x < y))) else if op=7 then some (rOne (decide (x≤y))) else if op=8 then some (rOne (decide (y < x)))
 else if op=9 then some (rOne (decide (y≤x))) else if op=10 then some (rOne (decide (x=y))) else if op=11 then some (rOne (decide (x≠y)))
 else if op=12 then some (rOne (decide (x=1) && decide (y=1))) else some (rOne (decide (x=1)||decide (y=1)))
def isB(x:Int):Prop:=x=0∨x=1
instance (x:Int):Decidable (isB x):=by unfold isB;infer_instance
def Ey(op x:Int):Prop:=(op=12∧x=0)∨(op=13∧x≠0)
instance (op x:Int):Decidable (Ey op x):=by unfold Ey;infer_instance
inductive FT where
 |expr (V:FV) (id:Nat)
 |call (f:Nat) (args:List Int)
 |block (id:Nat) (V:FV)
 |stmt (id:Nat) (V:FV)
 |loop (c b:Nat) (V:FV)
structure FO where
 x:Int
 V:FV
def Node.k(n:Node)(i:Nat):Nat:=n.kids.getD i 0
inductive IT (α:Type) where
 |ret (a:α)
 |burn (t:IT α)
 |tell (x:Int) (t:IT α)
 |read (k:Int→IT α)
 |trap
 |bot
def IT.bind{α β:Type}:IT α→(α→IT β)→IT β
 | .ret a,f=>f a
 | .burn t,f=> .burn (t.bind f)
 | .tell x t,f=> .tell x (t.bind f)
 | .read k,f=> .read fun x=>(k x).bind f
 | .trap,_=> .trap
 | .bot,_=> .bot
def IT.run{α:Type}(F:Nat)(inp:List Int):IT α→Fz→Option (Option α×Fz)
 | .ret a,s=>some (some a,s)
 | .burn t,s=>if F≤s.used then some (none,{s with e:=2}) else t.run F inp {s with used:=s.used+1}
 | .tell x t,s=>t.run F inp {s with trace:=s.trace++[x]}
 | .read k,s=>(k (inp.getD s.rd 0)).run F inp {s with rd:=s.rd+1}
 | .trap,s=>some (none,{s with e:=1})
 | .bot,_=>none
def seqT(f:Nat→IT FO):List Nat→IT (List Int)
 |[]=> .ret []
 |k::l=>(f k).bind fun o=>(seqT f l).bind fun xs=> .ret (o.x::xs)
def seqU(f:Nat→FV→IT FO):List Nat→Int→FV→IT FO
 |[],out,V=> .ret ⟨out,V⟩
 |i::l,_,V=>(f i V).bind fun o=>seqU f l o.x o.V
def pairT(n:Node)(V:FV)(x y:Int):IT FO:=
 if (n.num=12∨n.num=13)∧¬(isB x∧isB y) then .bot
 else match EK n.num x y with
  |some v=> .ret ⟨v,V⟩
  |none=> .trap
def Mx(n:Node)(id:Nat)(V:FV)(x:Int)(blk:Nat→IT FO):IT FO:=
 if n.kind=6 then .ret ⟨0,V.set id x⟩
 else if n.kind=7 then .ret ⟨0,V.set n.ref x⟩
 else if n.kind=11 then .tell x (.ret ⟨0,V⟩)
 else if n.kind=8 then(if n.kids.length=3∧isB x then(blk (if x=1 then n.k 1 else n.k 2)).bind fun p=> .ret ⟨0,p.V⟩ else .bot)
 else if n.kind=10 then .ret ⟨x,V⟩
 else .ret ⟨0,V⟩
def BM(nd:Nat→Node)(rec:FT→IT FO):FT→IT FO
 | .expr V id=>
   if (nd id).kind=13∨(nd id).kind=14 then .ret ⟨(nd id).num,V⟩
   else if (nd id).kind=15 then .ret ⟨V (nd id).ref,V⟩
   else if (nd id).kind=20 then .read fun x=> .ret ⟨x,V⟩
   else if (nd id).kind=16 then(if (nd id).kids.length=1 then(rec (.expr V ((nd id).k 0))).bind fun p=> .ret ⟨Hq (1-p.x),V⟩ else .bot)
   else if (nd id).kind=17 then(if (nd id).kids.length=1 then(rec (.expr V ((nd id).k 0))).bind fun p=> .ret ⟨Hq (-p.x),V⟩ else .bot)
   else if (nd id).kind=19 then(seqT (fun k=>rec (.expr V k)) (nd id).kids).bind fun l=>(rec (.call (nd id).ref l)).bind fun q=> .ret ⟨q.x,V⟩
   else if (nd id).kind=18∧(nd id).kids.length=2 then
    (rec (.expr V ((nd id).k 0))).bind fun p=>if Ey (nd id).num p.x then .ret ⟨p.x,V⟩ else
     (rec (.expr V ((nd id).k 1))).bind fun q=>pairT (nd id) V p.x q.x
   else .bot
 | .call f args=> .burn (if args.length+1=(nd f).kids.length then(rec (.block ((nd f).k args.length) (JJ (nd f).kids args fv0))).bind fun p=> .ret ⟨p.x,fv0⟩ else .bot)
 | .block id V=>seqU (fun i V=>rec (.stmt i V)) (nd id).kids 0 V
 | .stmt id V=>
   if (nd id).kind=9 then(if (nd id).kids.length=2 then rec (.loop ((nd id).k 0) ((nd id).k 1) V) else .bot)
   else .burn (if (nd id).kids=[] then .bot else(rec (.expr V ((nd id).k 0))).bind fun p=>Mx (nd id) id V p.x (fun b=>rec (.block b V)))
 | .loop c b V=> .burn ((rec (.expr V c)).bind fun p=>if p.x=0 then .ret ⟨0,V⟩ else(rec (.block b V)).bind fun q=>rec (.loop c b q.V))
def Ak(nd:Nat→Node):Nat→FT→IT FO
 |0,_=> .bot
 |d+1,t=>BM nd (Ak nd d) t
theorem IT.run_bind{α β:Type}(F:Nat)(inp:List Int)(f:α→IT β):∀(t:IT α) (s:Fz),(t.bind f).run F inp s=(match t.run F inp s with
 |none=>none
 |some (none,s1)=>some (none,s1)
 |some (some a,s1)=>(f a).run F inp s1)
 | .ret a,s=>rfl
 | .burn t,s=>by
   rw[show(IT.burn t).bind f= .burn (t.bind f) from rfl,IT.run.eq_2,IT.run.eq_2];by_cases h:F≤s.used
   ·rw[if_pos h,if_pos h]
   ·rw[if_neg h,if_neg h]
    exact IT.run_bind F inp f t _
 | .tell x t,s=>IT.run_bind F inp f t _
 | .read k,s=>IT.run_bind F inp f (k _) _
 | .trap,s=>rfl
 | .bot,s=>rfl
theorem IT.grow{α:Type}(F:Nat)(inp:List Int):∀(t:IT α) (s:Fz) (r:Option α×Fz),s.e=0→t.run F inp s=some r→
 s.used≤r.2.used∧(s.used≤F→r.2.used≤F)∧s.trace <+:r.2.trace∧s.rd≤r.2.rd∧(r.2.e=0↔r.1.isSome=true)∧r.2.e≤2
 | .ret a,s,r,he,h=>by
   injection h with h;subst h;exact⟨AA,id,List.prefix_refl _,AA,by simp[he],by simp[he]⟩
 | .burn t,s,r,he,h=>by
   unfold IT.run at h;by_cases hf:F≤s.used
   ·rw[if_pos hf] at h
    injection h with h;subst h;exact⟨AA,id,List.prefix_refl _,AA,by simp,by simp⟩
   ·rw[if_neg hf] at h
    obtain⟨h1,h2,h3,h4,h5,h6⟩:=IT.grow F inp t {s with used:=s.used+1} r he h;exact⟨Nat.le_of_succ_le h1,fun _=>h2 (by show s.used+1≤F;omega),h3,h4,h5,h6⟩
 | .tell x t,s,r,he,h=>by
   obtain⟨h1,h2,h3,h4,h5,h6⟩:=IT.grow F inp t {s with trace:=s.trace++[x]} r he h;exact⟨h1,h2,(List.prefix_append _ _).trans h3,h4,h5,h6⟩
 | .read k,s,r,he,h=>by
   obtain⟨h1,h2,h3,h4,h5,h6⟩:=IT.grow F inp (k (inp.getD s.rd 0)) {s with rd:=s.rd+1} r he h;exact⟨h1,h2,h3,Nat.le_of_succ_le h4,h5,h6⟩
 | .trap,s,r,he,h=>by
   injection h with h;subst h;exact⟨AA,id,List.prefix_refl _,AA,by simp,by simp⟩
 | .bot,s,r,he,h=>by cases h
theorem IT.more{α:Type}{F G:Nat}(hFG:F≤G)(inp:List Int):∀(t:IT α) (s:Fz) (r:Option α×Fz),s.e=0→s.used≤F→t.run F inp s=some r→
 (r.2.e≠2→t.run G inp s=some r)∧(r.2.e=2→r.2.used=F∧∀r',t.run G inp s=some r'→r.2.trace <+:r'.2.trace∧(F < G→F < r'.2.used))
 | .ret a,s,r,he,hu,h=>by
   injection h with h;subst h;exact⟨fun _=>rfl,fun h2=>by rw[show((some a,s):Option α×Fz).2.e=s.e from rfl,he] at h2;cases h2⟩
 | .burn t,s,r,he,hu,h=>by
   unfold IT.run at h;by_cases hf:F≤s.used
   ·rw[if_pos hf] at h
    injection h with h;subst h;refine⟨fun h2=>absurd rfl h2,fun _=>⟨Nat.le_antisymm hu hf,fun r' hr'=> ?_⟩⟩;unfold IT.run at hr';by_cases hg:G≤s.used
    ·rw[if_pos hg] at hr'
     injection hr' with hr';subst hr';exact⟨List.prefix_refl _,fun h=>by omega⟩
    ·rw[if_neg hg] at hr'
     obtain⟨h1,_,h3,_⟩:=IT.grow G inp t {s with used:=s.used+1} r' he hr';exact⟨h3,fun _=>by have:s.used+1≤r'.2.used:=h1;omega⟩
   ·rw[if_neg hf] at h
    obtain⟨h1,h2⟩:=IT.more hFG inp t {s with used:=s.used+1} r he (by show s.used+1≤F;omega) h;refine⟨fun h0=> ?_,fun h0=>⟨(h2 h0).1,fun r' hr'=> ?_⟩⟩
    ·unfold IT.run
     rw[if_neg (by omega)];exact h1 h0
    ·unfold IT.run at hr'
     rw[if_neg (by omega)] at hr';exact(h2 h0).2 r' hr'
 | .tell x t,s,r,he,hu,h=>IT.more hFG inp t {s with trace:=s.trace++[x]} r he hu h
 | .read k,s,r,he,hu,h=>IT.more hFG inp (k (inp.getD s.rd 0)) {s with rd:=s.rd+1} r he hu h
 | .trap,s,r,he,hu,h=>by
   injection h with h;subst h;exact⟨fun _=>rfl,fun h2=>by cases h2⟩
 | .bot,s,r,he,hu,h=>by cases h
theorem IT.other{α:Type}(F:Nat){inp inq:List Int}:∀(t:IT α) (s:Fz) (r:Option α×Fz),s.e=0→t.run F inp s=some r→
 (∀i,i < r.2.rd→inq.getD i 0=inp.getD i 0)→t.run F inq s=some r
 | .ret a,s,r,he,h,hi=>h
 | .burn t,s,r,he,h,hi=>by
   unfold IT.run at h⊢;by_cases hf:F≤s.used
   ·rw[if_pos hf] at h⊢;exact h
   ·rw[if_neg hf] at h⊢;exact IT.other F t {s with used:=s.used+1} r he h hi
 | .tell x t,s,r,he,h,hi=>IT.other F t {s with trace:=s.trace++[x]} r he h hi
 | .read k,s,r,he,h,hi=>by
   have hr:s.rd+1≤r.2.rd:=(IT.grow F inp (k (inp.getD s.rd 0)) {s with rd:=s.rd+1} r he h).2.2.2.1;show(k (inq.getD s.rd 0)).run F inq {s with rd:=s.rd+1}=some r;rw[hi s.rd (by omega)];exact IT.other F (k (inp.getD s.rd 0)) {s with rd:=s.rd+1} r he h hi
 | .trap,s,r,he,h,hi=>h
 | .bot,s,r,he,h,hi=>by cases h
def Net{α:Type}(k:Nat)(t:IT α):Prop:=∀F inp s r,t.run F inp s=some r→r.2.trace.length+s.used≤r.2.used+s.trace.length+k
theorem Net.ret{α:Type}{k:Nat}{a:α}:Net k (.ret a):=fun F inp s r h=>by
 injection h with h;subst h;show s.trace.length+s.used≤s.used+s.trace.length+k;omega
theorem Net.bot{α:Type}{k:Nat}:Net k (.bot:IT α):=fun F inp s r h=>by cases h
theorem Net.trap{α:Type}{k:Nat}:Net k (.trap:IT α):=fun F inp s r h=>by
 injection h with h;subst h;show s.trace.length+s.used≤s.used+s.trace.length+k;omega
theorem Net.burn{α:Type}{k:Nat}{t:IT α}(h:Net (k+1) t):Net k (.burn t):=fun F inp s r hr=>by
 unfold IT.run at hr;by_cases hf:F≤s.used
 ·rw[if_pos hf] at hr;injection hr with hr;subst hr;show s.trace.length+s.used≤s.used+s.trace.length+k;omega
 ·rw[if_neg hf] at hr
  have:r.2.trace.length+(s.used+1)≤r.2.used+s.trace.length+(k+1):=h F inp _ r hr;omega
theorem Net.tell{α:Type}{k:Nat}{x:Int}{t:IT α}(h:Net k t):Net (k+1) (.tell x t):=fun F inp s r hr=>by
 have:r.2.trace.length+s.used≤r.2.used+(s.trace++[x]).length+k:=h F inp _ r hr;simp at this;omega
theorem Net.read{α:Type}{k:Nat}{f:Int→IT α}(h:∀x,Net k (f x)):Net k (.read f):=fun F inp s r hr=>h (inp.getD s.rd 0) F inp {s with rd:=s.rd+1} r hr
theorem Net.bind{α β:Type}{j k:Nat}{t:IT α}{f:α→IT β}(h:Net j t)(hf:∀a,Net k (f a)):Net (j+k) (t.bind f):=fun F inp s r hr=>by
 rw[IT.run_bind] at hr;cases ht:t.run F inp s with
 |none=>rw[ht] at hr;cases hr
 |some p=>
   obtain⟨o,s1⟩:=p;rw[ht] at hr;have h1:s1.trace.length+s.used≤s1.used+s.trace.length+j:=h F inp s _ ht;cases o with
   |none=>injection hr with hr;subst hr;show s1.trace.length+s.used≤s1.used+s.trace.length+(j+k);omega
   |some a=>
     have h2:=hf a F inp s1 r hr;omega
theorem Net.seqT{f:Nat→IT FO}(h:∀k,Net 0 (f k)):∀l,Net 0 (seqT f l)
 |[]=>Net.ret
 |k::l=>Net.bind (j:=0) (k:=0) (h k) fun _=>Net.bind (j:=0) (k:=0) (Net.seqT h l) fun _=>Net.ret
theorem Net.seqU{f:Nat→FV→IT FO}(h:∀k V,Net 0 (f k V)):∀l o V,Net 0 (seqU f l o V)
 |[],_,_=>Net.ret
 |i::l,_,V=>Net.bind (j:=0) (k:=0) (h i V) fun _=>Net.seqU h l _ _
theorem NW(nd:Nat→Node):∀d t,Net 0 (Ak nd d t)
 |0,_=>Net.bot
 |d+1,t=>by
   have ih:=NW nd d;have B:∀{u:FT} {f:FO→IT FO},(∀a,Net 0 (f a))→Net 0 ((Ak nd d u).bind f):=fun hf=>Net.bind (j:=0) (k:=0) (ih _) hf;show Net 0 (BM nd (Ak nd d) t);cases t with
   |expr V id=>
     simp only[BM]
     split;· exact Net.ret
     split;· exact Net.ret
     split;· exact Net.read fun _=>Net.ret
     split;· split;(· exact B fun _=>Net.ret);exact Net.bot
     split;· split;(· exact B fun _=>Net.ret);exact Net.bot
     split;· exact Net.bind (j:=0) (k:=0) (Net.seqT (fun k=>ih _) _) fun _=>B fun _=>Net.ret
     split
     ·refine B fun p=> ?_
      split;· exact Net.ret
      refine B fun q=> ?_;unfold pairT
      split;· exact Net.bot
      split;· exact Net.ret
      exact Net.trap
     ·exact Net.bot
   |call f args=>
     simp only[BM];refine Net.burn ?_;split
     ·exact fun F inp s r h=>Nat.le_succ_of_le (B (fun _=>Net.ret) F inp s r h)
     ·exact Net.bot
   |block id V=>exact Net.seqU (fun k V=>ih _) _ _ _
   |stmt id V=>
     simp only[BM];split
     ·split;(· exact ih _);exact Net.bot
     ·refine Net.burn ?_
      split;· exact Net.bot
      refine Net.bind (j:=0) (k:=1) (ih _) fun p=> ?_;unfold Mx
      split;· exact Net.ret
      split;· exact Net.ret
      split;· exact Net.tell Net.ret
      split
      ·split
       ·exact Net.bind (j:=0) (k:=1) (ih _) fun _=>Net.ret
       ·exact Net.bot
      split;· exact Net.ret
      exact Net.ret
   |loop c b V=>
     simp only[BM];refine Net.burn (Net.bind (j:=0) (k:=1) (ih _) fun p=> ?_)
     split;· exact Net.ret
     exact Net.bind (j:=0) (k:=1) (ih _) fun q=>fun F inp s r h=>Nat.le_succ_of_le (ih _ F inp s r h)
def Ev{α:Type}(F:Nat)(inp:List Int)(g:Nat→IT α)(s:Fz)(Q:α→Prop):Prop:=∃d r,(∀e,d≤e→(g e).run F inp s=some r)∧∀a,r.1=some a→Q a
theorem Ev.ret{α:Type}{F:Nat}{inp:List Int}{s:Fz}{Q:α→Prop}{a:α}(h:Q a):Ev F inp (fun _=> .ret a) s Q:=
 ⟨0,(some a,s),fun _ _=>rfl,fun b hb=>by injection hb with hb;exact hb ▸ h⟩
theorem Ev.trap{α:Type}{F:Nat}{inp:List Int}{s:Fz}{Q:α→Prop}:Ev F inp (fun _=>(.trap:IT α)) s Q:=
 ⟨0,(none,{s with e:=1}),fun _ _=>rfl,fun b hb=>by cases hb⟩
theorem Ev.bind{α β:Type}{F:Nat}{inp:List Int}{s:Fz}{Q:α→Prop}{R:β→Prop}{g:Nat→IT α}{f:Nat→α→IT β}(he:s.e=0)(hu:s.used≤F)(h:Ev F inp g s Q)
 (hf:∀a s1,Q a→s1.e=0→s.used≤s1.used→s1.used≤F→Ev F inp (fun e=>f e a) s1 R):Ev F inp (fun e=>(g e).bind (f e)) s R:=by
 obtain⟨d,⟨o,s1⟩,hr,hq⟩:=h;have hg:=IT.grow F inp (g d) s _ he (hr d AA);cases o with
 |none=>exact⟨d,(none,s1),fun e hde=>by rw[IT.run_bind,hr e hde],fun a ha=>by cases ha⟩
 |some a=>
   obtain⟨d',r',hr',hq'⟩:=hf a s1 (hq a rfl) (hg.2.2.2.2.1.2 rfl) hg.1 (hg.2.1 hu);exact⟨max d d',r',fun e hde=>by rw[IT.run_bind,hr e (by omega)];exact hr' e (by omega),hq'⟩
theorem Ev.burn{α:Type}{F:Nat}{inp:List Int}{s:Fz}{Q:α→Prop}{g:Nat→IT α}(h:¬F≤s.used→Ev F inp g {s with used:=s.used+1} Q):Ev F inp (fun e=> .burn (g e)) s Q:=by
 by_cases hf:F≤s.used
 ·exact⟨0,(none,{s with e:=2}),fun e _=>by unfold IT.run;rw[if_pos hf],fun a ha=>by cases ha⟩
 ·obtain⟨d,r,hr,hq⟩:=h hf
  exact⟨d,r,fun e hde=>by unfold IT.run;rw[if_neg hf];exact hr e hde,hq⟩
theorem Ev.mono{α:Type}{F:Nat}{inp:List Int}{s:Fz}{Q R:α→Prop}{g:Nat→IT α}(h:Ev F inp g s Q)(hq:∀a,Q a→R a):Ev F inp g s R:=by
 obtain⟨d,r,hr,h2⟩:=h;exact⟨d,r,hr,fun a ha=>hq a (h2 a ha)⟩
theorem Ev.shift{F:Nat}{inp:List Int}{s:Fz}{Q:FO→Prop}{nd:Nat→Node}{t:FT}(h:Ev F inp (fun e=>BM nd (Ak nd e) t) s Q):Ev F inp (fun e=>Ak nd e t) s Q:=by
 obtain⟨d,r,hr,hq⟩:=h;refine⟨d+1,r,fun e hde=> ?_,hq⟩;obtain⟨e,rfl⟩:∃k,e=k+1:=⟨e-1,by omega⟩;exact hr e (by omega)
def isE(n:Node):Prop:=13≤n.kind∧n.kind≤20
structure WT (nd:Nat→Node) (ty ht:Nat→Nat) (P:Nat→Prop):Prop where
 kid:∀id,P id→∀k∈(nd id).kids,P k∧ht k < ht id
 e14:∀id,P id→(nd id).kind=14→isB (nd id).num
 e15:∀id,P id→(nd id).kind=15→ty id=(nd (nd id).ref).type
 e16:∀id,P id→(nd id).kind=16→(nd id).kids.length=1∧isE (nd ((nd id).k 0))∧ty ((nd id).k 0)=2
 e17:∀id,P id→(nd id).kind=17→(nd id).kids.length=1∧isE (nd ((nd id).k 0))∧ty id=1
 e18:∀id,P id→(nd id).kind=18→(nd id).kids.length=2∧isE (nd ((nd id).k 0))∧isE (nd ((nd id).k 1))∧1≤(nd id).num∧(nd id).num≤13∧
  ((nd id).num≤5→ty id=1)∧(12≤(nd id).num→ty ((nd id).k 0)=2∧ty ((nd id).k 1)=2)
 e19:∀id,P id→(nd id).kind=19→P (nd id).ref∧(nd (nd id).ref).kind=3∧(nd id).kids.length+1=(nd (nd id).ref).kids.length∧ty id=(nd (nd id).ref).type∧
  (∀k∈(nd id).kids,isE (nd k))∧∀i,i < (nd id).kids.length→ty ((nd id).k i)=(nd ((nd (nd id).ref).k i)).type
 e1:∀id,P id→(nd id).kind=13∨(nd id).kind=20→ty id=1
 f3:∀id,P id→(nd id).kind=3→0 < (nd id).kids.length∧(nd ((nd id).k ((nd id).kids.length-1))).kind=5∧
  ∀i∈(nd ((nd id).k ((nd id).kids.length-1))).kids,(nd i).kind=10→ty ((nd i).k 0)=(nd id).type
 b5:∀id,P id→(nd id).kind=5→∀k∈(nd id).kids,6≤(nd k).kind∧(nd k).kind≤12
 s1:∀id,P id→6≤(nd id).kind→(nd id).kind≤12→0 < (nd id).kids.length∧isE (nd ((nd id).k 0))
 s6:∀id,P id→(nd id).kind=6→ty ((nd id).k 0)=(nd id).type
 s7:∀id,P id→(nd id).kind=7→ty ((nd id).k 0)=(nd (nd id).ref).type
 s8:∀id,P id→(nd id).kind=8→(nd id).kids.length=3∧ty ((nd id).k 0)=2∧(nd ((nd id).k 1)).kind=5∧(nd ((nd id).k 2)).kind=5
 s9:∀id,P id→(nd id).kind=9→(nd id).kids.length=2∧(nd ((nd id).k 1)).kind=5
 n10:∀id,P id→(nd id).kind=8∨(nd id).kind=9→∀k∈(nd id).kids,∀i∈(nd k).kids,(nd i).kind≠10∨(nd k).kind≠5
def VTy(nd:Nat→Node)(V:FV):Prop:=∀v,(nd v).type=2→isB (V v)
theorem VTy.zero(nd:Nat→Node):VTy nd fv0:=fun v _=> .inl rfl
theorem VTy.set{nd:Nat→Node}{V:FV}(h:VTy nd V){id:Nat}{x:Int}(hx:(nd id).type=2→isB x):VTy nd (V.set id x):=fun v hv=>by
 unfold FV.set;by_cases e:v=id
 ·rw[if_pos e];exact hx (e ▸ hv)
 ·rw[if_neg e];exact h v hv
theorem VTy.bind{nd:Nat→Node}:∀(ks:List Nat) (xs:List Int) (V:FV),VTy nd V→(∀i x,xs[i]? =some x→(nd (ks.getD i 0)).type=2→isB x)→VTy nd (JJ ks xs V)
 |[],xs,V,h,_=>by cases xs <;>exact h
 |k::ks,[],V,h,_=>h
 |k::ks,x::xs,V,h,hx=>VTy.bind ks xs _ (h.set (hx 0 x rfl)) fun i y hy=>hx (i+1) y hy
theorem Node.Dy{n:Node}{i:Nat}(h:i < n.kids.length):n.k i∈n.kids:=by
 unfold Node.k;rw[List.getD_eq_getElem?_getD,AY h];exact List.getElem_mem h
section
variable {nd:Nat→Node} {ty ht:Nat→Nat} {P:Nat→Prop} (hW:WT nd ty ht P) (F:Nat) (inp:List Int)
def Term(nd:Nat→Node)(ty:Nat→Nat)(P:Nat→Prop)(F:Nat)(inp:List Int)(n:Nat):Prop:=∀s:Fz,s.e=0→s.used≤F→F-s.used≤n→
 (∀id V,P id→isE (nd id)→VTy nd V→Ev F inp (fun e=>Ak nd e (.expr V id)) s fun a=>ty id=2→isB a.x)∧
 (∀id args,P id→(nd id).kind=3→args.length+1=(nd id).kids.length→(∀i x,args[i]? =some x→(nd ((nd id).kids.getD i 0)).type=2→isB x)→Ev F inp (fun e=>Ak nd e (.call id args)) s fun a=>(nd id).type=2→isB a.x)∧
 (∀id V T,P id→(nd id).kind=5→VTy nd V→(∀i∈(nd id).kids,(nd i).kind=10→ty ((nd i).k 0)=T)→Ev F inp (fun e=>Ak nd e (.block id V)) s fun a=>VTy nd a.V∧(T=2→isB a.x))∧
 (∀c b V,P c→isE (nd c)→P b→(nd b).kind=5→(∀i∈(nd b).kids,(nd i).kind≠10)→VTy nd V→Ev F inp (fun e=>Ak nd e (.loop c b V)) s fun a=>VTy nd a.V∧a.x=0)
include hW in
theorem Tz{n:Nat}(ih:∀m,m < n→Term nd ty P F inp m)(hl:∀s:Fz,s.e=0→s.used≤F→F-s.used≤n→∀c b V,P c→isE (nd c)→P b→(nd b).kind=5→(∀i∈(nd b).kids,(nd i).kind≠10)→VTy nd V→Ev F inp (fun e=>Ak nd e (.loop c b V)) s fun a=>VTy nd a.V∧a.x=0)
 (s:Fz) (he:s.e=0) (hu:s.used≤F) (hn:F-s.used≤n) (id:Nat) (V:FV) (T:Nat) (hP:P id) (h6:6≤(nd id).kind) (h12:(nd id).kind≤12) (hV:VTy nd V) (hT:(nd id).kind=10→ty ((nd id).k 0)=T):
 Ev F inp (fun e=>Ak nd e (.stmt id V)) s fun a=>VTy nd a.V∧(T=2→isB a.x):=by
 refine Ev.shift ?_;simp only[BM];obtain⟨hk,hE⟩:=hW.s1 id hP h6 h12;have hk0:=hW.kid id hP _ (Node.Dy hk);by_cases h9:(nd id).kind=9
 ·obtain⟨hl2,hb⟩:=hW.s9 id hP h9
  simp only[if_pos h9,if_pos hl2];exact(hl s he hu hn _ _ V hk0.1 hE (hW.kid id hP _ (Node.Dy (by omega))).1 hb (fun i hi h10=>by
   rcases hW.n10 id hP (.inr h9) _ (Node.Dy (i:=1) (by omega)) i hi with h|h
   ·exact h h10
   ·exact h hb) hV).mono fun a ha=>⟨ha.1,fun _=> .inl ha.2⟩
 ·simp only[if_neg h9]
  refine Ev.burn fun hf=> ?_;have hne:(nd id).kids≠[]:=fun e=>by rw[e] at hk;cases hk
  simp only[if_neg hne];have hn1:F-(s.used+1) < n:=by omega
  refine Ev.bind (s:={s with used:=s.used+1}) he (by show s.used+1≤F;omega) ((ih _ hn1 {s with used:=s.used+1} he (by show s.used+1≤F;omega) AA).1 _ V hk0.1 hE hV) fun a s1 ha he1 h1 hu1=> ?_;have h1:s.used+1≤s1.used:=h1;unfold Mx;by_cases k6:(nd id).kind=6
  ·simp only[if_pos k6]
   exact Ev.ret ⟨hV.set fun h2=>ha (by rw[hW.s6 id hP k6];exact h2),fun _=> .inl rfl⟩
  simp only[if_neg k6];by_cases k7:(nd id).kind=7
  ·simp only[if_pos k7]
   exact Ev.ret ⟨hV.set fun h2=>ha (by rw[hW.s7 id hP k7];exact h2),fun _=> .inl rfl⟩
  simp only[if_neg k7];by_cases k11:(nd id).kind=11
  ·simp only[if_pos k11]
   exact⟨0,_,fun _ _=>rfl,fun b hb=>by injection hb with hb;subst hb;exact⟨hV,fun _=> .inl rfl⟩⟩
  simp only[if_neg k11];by_cases k8:(nd id).kind=8
  ·obtain⟨hl3,ht2,hb1,hb2⟩:=hW.s8 id hP k8
   have hx:=ha ht2;simp only[if_pos k8,if_pos (And.intro hl3 hx)];have hbl:∀i,i < 3→i≠0→Ev F inp (fun e=>Ak nd e (.block ((nd id).k i) V)) s1 fun p=>VTy nd p.V:=fun i hi h0=>by
    have hb:(nd ((nd id).k i)).kind=5:=by
     match i,hi,h0 with
     |1,_,_=>exact hb1
     |2,_,_=>exact hb2
    have hp:=(hW.kid id hP _ (Node.Dy (i:=i) (by omega))).1;exact((ih _ (show F-s1.used < n by omega) s1 he1 hu1 AA).2.2.1 _ V 1 hp hb hV fun j hj h10=>by
     rcases hW.n10 id hP (.inl k8) _ (Node.Dy (i:=i) (by omega)) j hj with h|h
     ·exact absurd h10 h
     ·exact absurd hb h).mono fun p hp=>hp.1
   refine Ev.bind he1 hu1 (by
    by_cases h1:a.x=1
    ·simp only[if_pos h1];exact hbl 1 (by omega) (by omega)
    ·simp only[if_neg h1];exact hbl 2 (by omega) (by omega)) fun p s2 hp he2 _ _=>Ev.ret ⟨hp,fun _=> .inl rfl⟩
  simp only[if_neg k8];by_cases k10:(nd id).kind=10
  ·simp only[if_pos k10]
   exact Ev.ret ⟨hV,fun h2=>ha (by rw[hT k10];exact h2)⟩
  simp only[if_neg k10];exact Ev.ret ⟨hV,fun _=> .inl rfl⟩
include hW in
theorem Lu{n:Nat}(hs:∀s:Fz,s.e=0→s.used≤F→F-s.used≤n→∀id V T,P id→6≤(nd id).kind→(nd id).kind≤12→VTy nd V→((nd id).kind=10→ty ((nd id).k 0)=T)→
 Ev F inp (fun e=>Ak nd e (.stmt id V)) s fun a=>VTy nd a.V∧(T=2→isB a.x)) (T:Nat):
 ∀(l:List Nat) (o:Int) (V:FV) (s:Fz),s.e=0→s.used≤F→F-s.used≤n→(∀i∈l,P i∧6≤(nd i).kind∧(nd i).kind≤12∧((nd i).kind=10→ty ((nd i).k 0)=T))→VTy nd V→(T=2→isB o)→
   Ev F inp (fun e=>seqU (fun i V=>Ak nd e (.stmt i V)) l o V) s fun a=>VTy nd a.V∧(T=2→isB a.x)
 |[],o,V,s,_,_,_,_,hV,ho=>Ev.ret ⟨hV,ho⟩
 |i::l,o,V,s,he,hu,hn,hl,hV,ho=>by
   obtain⟨hP,h6,h12,hT⟩:=hl i (by simp);show Ev F inp (fun e=>(Ak nd e (.stmt i V)).bind fun o=>seqU (fun i V=>Ak nd e (.stmt i V)) l o.x o.V) s _;refine Ev.bind he hu (hs s he hu hn i V T hP h6 h12 hV hT) fun a s1 ha he1 h1 hu1=> ?_;exact Lu hs T l a.x a.V s1 he1 hu1 (by omega) (fun j hj=>hl j (by simp[hj])) ha.1 ha.2
include hW in
theorem PM{V:FV}:∀(l:List Nat) (s:Fz),s.e=0→s.used≤F→
 (∀k∈l,∀s1:Fz,s1.e=0→s.used≤s1.used→s1.used≤F→Ev F inp (fun e=>Ak nd e (.expr V k)) s1 fun a=>ty k=2→isB a.x)→
  Ev F inp (fun e=>seqT (fun k=>Ak nd e (.expr V k)) l) s fun xs=>xs.length=l.length∧∀i x,xs[i]? =some x→ty (l.getD i 0)=2→isB x
 |[],s,_,_,_=>Ev.ret ⟨rfl,fun i x h=>by simp at h⟩
 |k::l,s,he,hu,hk=>by
   show Ev F inp (fun e=>(Ak nd e (.expr V k)).bind fun o=>(seqT (fun k=>Ak nd e (.expr V k)) l).bind fun xs=> .ret (o.x::xs)) s _;refine Ev.bind he hu (hk k (by simp) s he AA hu) fun a s1 ha he1 h1 hu1=> ?_;refine Ev.bind he1 hu1 (PM l s1 he1 hu1 fun j hj s2 h2 h3 h4=>hk j (by simp[hj]) s2 h2 (by omega) h4) fun xs s2 hxs _ _ _=>Ev.ret ⟨by simp[hxs.1],fun i x hi ht=> ?_⟩;cases i with
   |zero=>simp at hi ht;subst hi;exact ha ht
   |succ i=>exact hxs.2 i x (by simpa using hi) (by simpa using ht)
theorem Vi(b:Bool):isB (rOne b):=by cases b <;>simp[rOne,isB]
theorem Uo{op x y v:Int}(h:5 < op)(hv:EK op x y=some v):isB v:=by
 unfold EK at hv;rw[if_neg (by omega),if_neg (by omega),if_neg (by omega),if_neg (by omega)] at hv
 repeat' split at hv
 all_goals (injection hv with hv;subst hv;exact Vi _)
include hW in
theorem UA{n:Nat}(hc:∀s:Fz,s.e=0→s.used≤F→F-s.used≤n→∀id args,P id→(nd id).kind=3→args.length+1=(nd id).kids.length→(∀i x,args[i]? =some x→(nd ((nd id).kids.getD i 0)).type=2→isB x)→
 Ev F inp (fun e=>Ak nd e (.call id args)) s fun a=>(nd id).type=2→isB a.x) (V:FV) (hV:VTy nd V):
 ∀(h id:Nat),ht id≤h→P id→isE (nd id)→∀s:Fz,s.e=0→s.used≤F→F-s.used≤n→Ev F inp (fun e=>Ak nd e (.expr V id)) s fun a=>ty id=2→isB a.x:=by
 intro h
 induction h using Nat.strongRecOn with
 |_ h ih=>
 intro id hh hP hE s he hu hn;have sub:∀k∈(nd id).kids,isE (nd k)→∀s:Fz,s.e=0→s.used≤F→F-s.used≤n→Ev F inp (fun e=>Ak nd e (.expr V k)) s fun a=>ty k=2→isB a.x:=fun k hk hEk s he hu hn=>by
  obtain⟨hPk,hlt⟩:=hW.kid id hP k hk;exact ih (ht k) (by omega) k AA hPk hEk s he hu hn
 refine Ev.shift ?_;simp only[BM];by_cases h1:(nd id).kind=13∨(nd id).kind=14
 ·simp only[if_pos h1]
  refine Ev.ret fun h2=> ?_;rcases h1 with h1|h1
  ·rw[hW.e1 id hP (.inl h1)] at h2;cases h2
  ·exact hW.e14 id hP h1
 simp only[if_neg h1];by_cases h2:(nd id).kind=15
 ·simp only[if_pos h2]
  exact Ev.ret fun h3=>hV _ (by rw[←hW.e15 id hP h2];exact h3)
 simp only[if_neg h2];by_cases h3:(nd id).kind=20
 ·simp only[if_pos h3]
  refine⟨0,_,fun _ _=>rfl,fun a ha h2=> ?_⟩;rw[hW.e1 id hP (.inr h3)] at h2;cases h2
 simp only[if_neg h3];by_cases h4:(nd id).kind=16
 ·obtain⟨hl,hE0,ht0⟩:=hW.e16 id hP h4
  simp only[if_pos h4,if_pos hl];refine Ev.bind he hu (sub _ (Node.Dy (by omega)) hE0 s he hu hn) fun a s1 ha _ _ _=>Ev.ret fun _=> ?_;show isB (Hq (1-a.x));rcases ha ht0 with e|e <;>rw[e]
  ·exact .inr rfl
  ·exact .inl rfl
 simp only[if_neg h4];by_cases h5:(nd id).kind=17
 ·obtain⟨hl,hE0,ht0⟩:=hW.e17 id hP h5
  simp only[if_pos h5,if_pos hl];refine Ev.bind he hu (sub _ (Node.Dy (by omega)) hE0 s he hu hn) fun a s1 ha _ _ _=>Ev.ret fun h2=> ?_;rw[ht0] at h2;cases h2
 simp only[if_neg h5];by_cases h6:(nd id).kind=19
 ·obtain⟨hPr,hk3,hlen,htr,hEk,htk⟩:=hW.e19 id hP h6
  simp only[if_pos h6];refine Ev.bind he hu (PM hW F inp (nd id).kids s he hu fun k hk s1 he1 h1 hu1=>sub k hk (hEk k hk) s1 he1 hu1 (by omega)) fun xs s1 hxs he1 h1 hu1=> ?_;refine Ev.bind he1 hu1 (hc s1 he1 hu1 (by omega) (nd id).ref xs hPr hk3 (by omega) fun i x hi h2=> ?_) fun q s2 hq _ _ _=>Ev.ret fun h2=>hq (by rw[←htr];exact h2);have hil:i < (nd id).kids.length:=by
   have:=(Ai.1 hi).1;omega
  exact hxs.2 i x hi (by have:=htk i hil;unfold Node.k at this;rw[this];exact h2)
 simp only[if_neg h6];have h7:(nd id).kind=18:=by obtain⟨a,b⟩:=hE;omega
 obtain⟨hl,hE0,hE1,hn1,hn13,ht5,ht12⟩:=hW.e18 id hP h7;simp only[if_pos (And.intro h7 hl)];refine Ev.bind he hu (sub _ (Node.Dy (by omega)) hE0 s he hu hn) fun a s1 ha he1 h1 hu1=> ?_;by_cases hs:Ey (nd id).num a.x
 ·simp only[if_pos hs]
  refine Ev.ret fun _=>ha (ht12 ?_).1;rcases hs with⟨e,_⟩|⟨e,_⟩ <;>omega
 simp only[if_neg hs];refine Ev.bind he1 hu1 (sub _ (Node.Dy (by omega)) hE1 s1 he1 hu1 (by omega)) fun b s2 hb he2 h2 hu2=> ?_;unfold pairT;have hg:¬(((nd id).num=12∨(nd id).num=13)∧¬(isB a.x∧isB b.x)):=fun⟨hh,hn⟩=>hn ⟨ha (ht12 (by omega)).1,hb (ht12 (by omega)).2⟩;simp only[if_neg hg];cases hv:EK (nd id).num a.x b.x with
 |none=>exact Ev.trap
 |some v=>
   refine Ev.ret fun ht2=>Uo ?_ hv;by_cases h:5 < (nd id).num
   ·exact h
   ·rw[ht5 (by omega)] at ht2;cases ht2
include hW in
theorem term(n:Nat):Term nd ty P F inp n:=by
 induction n using Nat.strongRecOn with
 |_ n ih=>
 have hcall:∀s:Fz,s.e=0→s.used≤F→F-s.used≤n→∀id args,P id→(nd id).kind=3→args.length+1=(nd id).kids.length→(∀i x,args[i]? =some x→(nd ((nd id).kids.getD i 0)).type=2→isB x)→
  Ev F inp (fun e=>Ak nd e (.call id args)) s fun a=>(nd id).type=2→isB a.x:=fun s he hu hn id args hP h3 hl ha=>by
  refine Ev.shift ?_;simp only[BM];refine Ev.burn fun hf=> ?_;simp only[if_pos hl];obtain⟨h0,hb,hr⟩:=hW.f3 id hP h3;have e1:args.length=(nd id).kids.length-1:=by omega
  rw[←e1] at hb hr;have hp:=(hW.kid id hP _ (Node.Dy (i:=args.length) (by omega))).1;have hd:Nat.lt F F.succ:=Nat.lt_succ_self _;refine Ev.bind (s:={s with used:=s.used+1}) he (by show s.used+1≤F;omega)
   ((ih (F-(s.used+1)) (by omega) {s with used:=s.used+1} he (by show s.used+1≤F;omega) AA).2.2.1 _ _ (nd id).type hp hb (VTy.bind _ _ _ (VTy.zero nd) ha) hr) fun p s1 hp' _ _ _=>Ev.ret fun h2=>hp'.2 h2
 have hloop:∀s:Fz,s.e=0→s.used≤F→F-s.used≤n→∀c b V,P c→isE (nd c)→P b→(nd b).kind=5→(∀i∈(nd b).kids,(nd i).kind≠10)→VTy nd V→
  Ev F inp (fun e=>Ak nd e (.loop c b V)) s fun a=>VTy nd a.V∧a.x=0:=fun s he hu hn c b V hPc hE hPb hb h10 hV=>by
  refine Ev.shift ?_;simp only[BM];refine Ev.burn fun hf=> ?_;have T1:=ih (F-(s.used+1)) (by omega);refine Ev.bind (s:={s with used:=s.used+1}) he (by show s.used+1≤F;omega) ((T1 {s with used:=s.used+1} he (by show s.used+1≤F;omega) AA).1 c V hPc hE hV) fun p s1 hp he1 h1 hu1=> ?_;have h1:s.used+1≤s1.used:=h1;by_cases hx:p.x=0
  ·simp only[if_pos hx]
   exact Ev.ret ⟨hV,rfl⟩
  ·simp only[if_neg hx]
   refine Ev.bind he1 hu1 ((T1 s1 he1 hu1 (by omega)).2.2.1 b V 1 hPb hb hV fun i hi h=>absurd h (h10 i hi)) fun q s2 hq he2 h2 hu2=> ?_;exact(T1 s2 he2 hu2 (by omega)).2.2.2 c b q.V hPc hE hPb hb h10 hq.1
 intro s he hu hn;refine⟨fun id V hP hE hV=>UA hW F inp hcall V hV (ht id) id AA hP hE s he hu hn,fun id args hP h3 hl ha=>hcall s he hu hn id args hP h3 hl ha,fun id V T hP h5 hV hT=> ?_,fun c b V hPc hE hPb hb h10 hV=>hloop s he hu hn c b V hPc hE hPb hb h10 hV⟩;refine Ev.shift ?_;simp only[BM];exact Lu hW F inp (n:=n) (fun s he hu hn id V T hP h6 h12 hV hT=>Tz hW F inp ih hloop s he hu hn id V T hP h6 h12 hV hT) T _ 0 V s he hu hn
  (fun i hi=>⟨(hW.kid id hP i hi).1,(hW.b5 id hP h5 i hi).1,(hW.b5 id hP h5 i hi).2,fun h=>hT i hi h⟩) hV fun _=> .inl rfl
end
def fs0:Fz:=⟨0,0,[],0⟩
theorem Vg{nd:Nat→Node}{d:Nat}{t:FT}{F G:Nat}(h:F≤G){inp:List Int}{r r':Option FO×Fz}(h1:(Ak nd d t).run F inp fs0=some r)(h2:(Ak nd d t).run G inp fs0=some r'):
 (r.2.e≠2→r'=r)∧(r.2.e=2→r.2.used=F∧r.1=none∧r.2.trace <+:r'.2.trace∧r.2.used≤r'.2.used∧(F < G→F < r'.2.used)):=by
 obtain⟨m1,m2⟩:=IT.more h inp _ _ r rfl (Nat.zero_le _) h1;refine⟨fun h0=> ?_,fun h0=> ?_⟩
 ·have:=m1 h0
  rw[h2] at this;exact Option.some.inj this
 ·obtain⟨hu,hr⟩:=m2 h0
  obtain⟨ht,hg⟩:=hr r' h2;refine⟨hu, ?_,ht, ?_,hg⟩
  ·have:=(IT.grow F inp _ _ r rfl h1).2.2.2.2.1
   cases hr1:r.1 with
   |none=>rfl
   |some a=>rw[hr1,h0] at this;exact absurd (this.2 rfl) (by decide)
  ·rcases Nat.lt_or_ge F G with hl|hl
   ·have:=hg hl;omega
   ·obtain rfl:F=G:=by omega
    rw[h1] at h2;obtain rfl:=Option.some.inj h2;exact AA
end Hg
namespace Hg
theorem IT.Ry{α β:Type}{F:Nat}{inp:List Int}{t:IT α}{f:α→IT β}{s:Fz}{r:Option β×Fz}(he:s.e=0)(h:(t.bind f).run F inp s=some r):
 (∃s1,t.run F inp s=some (none,s1)∧r=(none,s1)∧s1.e≠0)∨(∃a s1,t.run F inp s=some (some a,s1)∧s1.e=0∧(f a).run F inp s1=some r):=by
 rw[IT.run_bind] at h;cases ht:t.run F inp s with
 |none=>rw[ht] at h;cases h
 |some p=>
   obtain⟨o,s1⟩:=p;rw[ht] at h;have hg:=(IT.grow F inp t s _ he ht).2.2.2.2.1;cases o with
   |none=>injection h with h;exact .inl ⟨s1,rfl,h.symm,fun e=>by simpa using hg.1 e⟩
   |some a=>exact .inr ⟨a,s1,rfl,hg.2 rfl,h⟩
def Out{α:Type}(F:Nat)(inp:List Int)(t:IT α)(s:Fz)(o:Option α)(s':Fz):Prop:=(s.e=0∧t.run F inp s=some (o,s'))∨(s.e≠0∧o=none∧s'=s)
variable {F:Nat} {inp:List Int}
theorem Out.rd{α:Type}{t:IT α}{s s':Fz}{o:Option α}(h:Out F inp t s o s'):s.rd≤s'.rd:=by
 rcases h with⟨he,hr⟩|⟨_,_,rfl⟩
 ·exact(IT.grow F inp t s _ he hr).2.2.2.1
 ·exact AA
theorem Out.used{α:Type}{t:IT α}{s s':Fz}{o:Option α}(h:Out F inp t s o s'):s.used≤s'.used:=by
 rcases h with⟨he,hr⟩|⟨_,_,rfl⟩
 ·exact(IT.grow F inp t s _ he hr).1
 ·exact AA
theorem Out.e{α:Type}{t:IT α}{s s':Fz}{o:Option α}(h:Out F inp t s o s'):s'.e=0↔o.isSome=true:=by
 rcases h with⟨he,hr⟩|⟨he,rfl,rfl⟩
 ·exact(IT.grow F inp t s _ he hr).2.2.2.2.1
 ·simp[he]
theorem Out.part{α β:Type}{t:IT α}{f:α→IT β}{s s':Fz}{o:Option β}(h:Out F inp (t.bind f) s o s'):∃o1 s1,Out F inp t s o1 s1∧(∀a,o1=some a→Out F inp (f a) s1 o s')∧(o1=none→o=none∧s'=s1):=by
 rcases h with⟨he,hr⟩|⟨he,rfl,rfl⟩
 ·rcases IT.Ry he hr with⟨s1,h1,hr,he1⟩|⟨a,s1,h1,he1,h2⟩
  ·injection hr with e1 e2
   exact⟨none,s1,.inl ⟨he,h1⟩,fun a ha=>by (cases ha),fun _=>⟨e1,e2⟩⟩
  ·exact⟨some a,s1,.inl ⟨he,h1⟩,fun b hb=>by (injection hb with hb;subst hb;exact .inl ⟨he1,h2⟩),fun hn=>by (cases hn)⟩
 ·exact⟨none,_,.inr ⟨he,rfl,rfl⟩,fun a ha=>by (cases ha),fun _=>⟨rfl,rfl⟩⟩
theorem Out.ret{α:Type}{a:α}{s s':Fz}{o:Option α}(h:Out F inp (.ret a) s o s')(he:s.e=0):o=some a∧s'=s:=by
 rcases h with⟨_,hr⟩|⟨hn,_,_⟩
 ·injection hr with hr;injection hr with h1 h2;exact⟨h1.symm,h2.symm⟩
 ·exact absurd he hn
theorem Out.ended{α:Type}{t:IT α}{s s':Fz}{o:Option α}(h:Out F inp t s o s')(he:s.e≠0):o=none∧s'=s:=by
 rcases h with⟨h0,_⟩|⟨_,h1,h2⟩
 ·exact absurd h0 he
 ·exact⟨h1,h2⟩
theorem Pp{nd:Nat→Node}{d:Nat}{n:Node}{V:FV}{s s':Fz}{o:Option FO}
 (h:Out F inp ((Ak nd d (.expr V (n.k 0))).bind fun p=>if Ey n.num p.x then .ret ⟨p.x,V⟩ else(Ak nd d (.expr V (n.k 1))).bind fun q=>pairT n V p.x q.x) s o s'):
 ∃o1 s1,Out F inp (Ak nd d (.expr V (n.k 0))) s o1 s1∧s1.rd≤s'.rd∧∀x,(∀a,o1=some a→x=a.x)→
   (Ey n.num x→s'=s1∧∀a,o=some a→x=a.x)∧
   (¬ Ey n.num x → ∃ o2 s2, Out F inp (Ak nd d (.expr V (n.k 1))) s1 o2 s2 ∧ s2.rd ≤ s'.rd ∧ ∀ y, (∀ a, o2 = some a → y = a.x) → ∀ v ok, ok = (EK n.num x y).isSome → (∀ u, EK n.num x y = some u → (n.num = 12 ∨ n.num = 13 → isB x ∧ isB y) → v = u) →
    s'=(if ok=false∧s2.e=0 then {s2 with e:=1} else s2)∧∀a,o=some a→v=a.x):=by
 obtain⟨o1,s1,h1,h2,h3⟩:=h.part;cases o1 with
 |none=>
   obtain⟨rfl,rfl⟩:=h3 rfl;have he:s'.e≠0:=fun e=>by have:=h1.e.1 e;simp at this
   refine⟨none,s',h1,AA,fun x _=>⟨fun _=>⟨rfl,fun a ha=>by (cases ha)⟩,fun _=>⟨none,s',.inr ⟨he,rfl,rfl⟩,AA,fun y _ v ok _ _=>⟨?_,fun a ha=>by (cases ha)⟩⟩⟩⟩;rw[if_neg (fun hh=>he hh.2)]
 |some a=>
   have h2:=h2 a rfl;have he1:s1.e=0:=h1.e.2 rfl;refine⟨some a,s1,h1,h2.rd,fun x hx=> ?_⟩;obtain rfl:=hx a rfl;by_cases hs:Ey n.num a.x
   ·rw[if_pos hs] at h2
    obtain⟨rfl,rfl⟩:=h2.ret he1;exact⟨fun _=>⟨rfl,fun b hb=>by (injection hb with hb;subst hb;rfl)⟩,fun hn=>absurd hs hn⟩
   ·rw[if_neg hs] at h2
    refine⟨fun hy=>absurd hy hs,fun _=> ?_⟩;obtain⟨o2,s2,k1,k2,k3⟩:=h2.part;cases o2 with
    |none=>
      obtain⟨rfl,rfl⟩:=k3 rfl;have he:s'.e≠0:=fun e=>by have:=k1.e.1 e;simp at this
      refine⟨none,s',k1,AA,fun y _ v ok _ _=>⟨?_,fun a ha=>by (cases ha)⟩⟩;rw[if_neg (fun hh=>he hh.2)]
    |some b=>
      have k2:=k2 b rfl;have he2:s2.e=0:=k1.e.2 rfl;refine⟨some b,s2,k1,k2.rd,fun y hy v ok hok hv=> ?_⟩;obtain rfl:=hy b rfl;unfold pairT at k2;by_cases hg:(n.num=12∨n.num=13)∧¬(isB a.x∧isB b.x)
      ·rw[if_pos hg] at k2
       rcases k2 with⟨_,hr⟩|⟨hn,_⟩
       ·cases hr
       ·exact absurd he2 hn
      ·rw[if_neg hg] at k2
       cases hf:EK n.num a.x b.x with
       |some u=>
         rw[hf] at k2 hok;obtain⟨rfl,rfl⟩:=k2.ret he2;have:=hv u hf fun h12=>Classical.byContradiction fun hh=>hg ⟨h12,hh⟩;subst this;rw[if_neg (by rw[hok];simp)];exact⟨rfl,fun c hc=>by (injection hc with hc;subst hc;rfl)⟩
       |none=>
         rw[hf] at k2 hok;rcases k2 with⟨_,hr⟩|⟨hn,_⟩
         ·injection hr with hr;injection hr with e1 e2
          subst e1;subst e2;rw[if_pos ⟨by rw[hok];rfl,he2⟩];exact⟨rfl,fun c hc=>by (cases hc)⟩
         ·exact absurd he2 hn
theorem SE{f:Nat→IT FO}{k:Nat}{l:List Nat}{s s':Fz}{o:Option (List Int)}(h:Out F inp (seqT f (k::l)) s o s'):
 ∃o1 s1,Out F inp (f k) s o1 s1∧s1.rd≤s'.rd∧∃o2,Out F inp (seqT f l) s1 o2 s'∧∀x,(∀a,o1=some a→x=a.x)→∀a,o=some a→∃rest,o2=some rest∧a=x::rest:=by
 have h:Out F inp ((f k).bind fun o=>(seqT f l).bind fun xs=> .ret (o.x::xs)) s o s':=h;obtain⟨o1,s1,h1,h2,h3⟩:=h.part;cases o1 with
 |none=>
   obtain⟨rfl,rfl⟩:=h3 rfl;have he:s'.e≠0:=fun e=>by have:=h1.e.1 e;simp at this
   exact⟨none,s',h1,AA,none,.inr ⟨he,rfl,rfl⟩,fun x _ a ha=>by (cases ha)⟩
 |some a=>
   have h2:=h2 a rfl;obtain⟨o2,s2,k1,k2,k3⟩:=h2.part;cases o2 with
   |none=>
     obtain⟨rfl,rfl⟩:=k3 rfl;exact⟨some a,s1,h1,k1.rd,none,k1,fun x _ b hb=>by (cases hb)⟩
   |some rest=>
     have he2:s2.e=0:=k1.e.2 rfl;obtain⟨rfl,rfl⟩:=(k2 rest rfl).ret he2;exact⟨some a,s1,h1,k1.rd,some rest,k1,fun x hx b hb=>by
      injection hb with hb;subst hb;exact⟨rest,rfl,by rw[hx a rfl]⟩⟩
theorem SF{f:Nat→IT FO}{s s':Fz}{o:Option (List Int)}(h:Out F inp (seqT f []) s o s'):s'=s∧∀a,o=some a→a=[]:=by
 rcases h with⟨_,hr⟩|⟨_,rfl,rfl⟩
 ·injection hr with hr
  injection hr with h1 h2;exact⟨h2.symm,fun a ha=>by rw[←h1] at ha;injection ha with ha;exact ha.symm⟩
 ·exact⟨rfl,fun a ha=>by cases ha⟩
theorem Io{α:Type}{t:IT α}{g:α→FO}{s s':Fz}{o:Option FO}(h:Out F inp (t.bind fun p=> .ret (g p)) s o s'):∃o1,Out F inp t s o1 s'∧∀a,o=some a→∃b,o1=some b∧a=g b:=by
 obtain⟨o1,s1,h1,h2,h3⟩:=h.part;cases o1 with
 |none=>
   obtain⟨rfl,rfl⟩:=h3 rfl;exact⟨none,h1,fun a ha=>by (cases ha)⟩
 |some b=>
   obtain⟨rfl,rfl⟩:=(h2 b rfl).ret (h1.e.2 rfl);exact⟨some b,h1,fun a ha=>by injection ha with ha;exact⟨b,rfl,ha.symm⟩⟩
theorem Qh{nd:Nat→Node}{d:Nat}{V:FV}{ids:List Nat}{f:Nat}{s s':Fz}{o:Option FO}
 (h:Out F inp ((seqT (fun k=>Ak nd d (.expr V k)) ids).bind fun l=>(Ak nd d (.call f l)).bind fun q=> .ret ⟨q.x,V⟩) s o s'):
 ∃o1 s1,Out F inp (seqT (fun k=>Ak nd d (.expr V k)) ids) s o1 s1∧s1.rd≤s'.rd∧∀xs,(∀a,o1=some a→xs=a)→∃o2,Out F inp (Ak nd d (.call f xs)) s1 o2 s'∧∀a,o=some a→∃b,o2=some b∧a.x=b.x:=by
 obtain⟨o1,s1,h1,h2,h3⟩:=h.part;cases o1 with
 |none=>
   obtain⟨rfl,rfl⟩:=h3 rfl;have he:s'.e≠0:=fun e=>by have:=h1.e.1 e;simp at this
   exact⟨none,s',h1,AA,fun xs _=>⟨none,.inr ⟨he,rfl,rfl⟩,fun a ha=>by (cases ha)⟩⟩
 |some a=>
   have h2:=h2 a rfl;refine⟨some a,s1,h1,h2.rd,fun xs hx=> ?_⟩;obtain rfl:=hx a rfl;obtain⟨o2,k1,k2⟩:=Io h2;exact⟨o2,k1,fun a ha=>by obtain⟨b,e1,e2⟩:=k2 a ha;exact⟨b,e1,by rw[e2]⟩⟩
theorem SB{f:Nat→FV→IT FO}{i:Nat}{l:List Nat}{x:Int}{V:FV}{s s':Fz}{o:Option FO}(h:Out F inp (seqU f (i::l) x V) s o s'):
 ∃o1 s1,Out F inp (f i V) s o1 s1∧s1.rd≤s'.rd∧∀y V1,(∀a,o1=some a→y=a.x∧V1=a.V)→Out F inp (seqU f l y V1) s1 o s':=by
 have h:Out F inp ((f i V).bind fun o=>seqU f l o.x o.V) s o s':=h;obtain⟨o1,s1,h1,h2,h3⟩:=h.part;cases o1 with
 |none=>
   obtain⟨rfl,rfl⟩:=h3 rfl;have he:s'.e≠0:=fun e=>by have:=h1.e.1 e;simp at this
   exact⟨none,s',h1,AA,fun y V1 _=> .inr ⟨he,rfl,rfl⟩⟩
 |some a=>
   have h2:=h2 a rfl;refine⟨some a,s1,h1,h2.rd,fun y V1 hy=> ?_⟩;obtain⟨rfl,rfl⟩:=hy a rfl;exact h2
theorem SC{f:Nat→FV→IT FO}{x:Int}{V:FV}{s s':Fz}{o:Option FO}(h:Out F inp (seqU f [] x V) s o s'):s'=s∧∀a,o=some a→x=a.x∧V=a.V:=by
 rcases h with⟨_,hr⟩|⟨_,rfl,rfl⟩
 ·injection hr with hr
  injection hr with h1 h2;exact⟨h2.symm,fun a ha=>by rw[←h1] at ha;injection ha with ha;subst ha;exact⟨rfl,rfl⟩⟩
 ·exact⟨rfl,fun a ha=>by cases ha⟩
end Hg
namespace Hg
variable {F:Nat} {inp:List Int}
theorem Out.burn{α:Type}{t:IT α}{s s':Fz}{o:Option α}(h:Out F inp (.burn t) s o s')(he:s.e=0):
 (F≤s.used∧o=none∧s'={s with e:=2})∨(¬F≤s.used∧Out F inp t {s with used:=s.used+1} o s'):=by
 rcases h with⟨_,hr⟩|⟨hn,_⟩
 ·unfold IT.run at hr
  by_cases hf:F≤s.used
  ·rw[if_pos hf] at hr
   injection hr with hr;injection hr with h1 h2;exact .inl ⟨hf,h1.symm,h2.symm⟩
  ·rw[if_neg hf] at hr
   exact .inr ⟨hf,.inl ⟨he,hr⟩⟩
 ·exact absurd he hn
theorem Out.bot{α:Type}{s s':Fz}{o:Option α}(h:Out F inp (.bot:IT α) s o s')(he:s.e=0):False:=by
 rcases h with⟨_,hr⟩|⟨hn,_⟩
 ·cases hr
 ·exact hn he
theorem Out.next{f:FO→IT FO}{t:IT FO}{s s':Fz}{o:Option FO}(h:Out F inp (t.bind f) s o s'):
 ∃o1 s1,Out F inp t s o1 s1∧s1.rd≤s'.rd∧(s1.e≠0→o=none∧s'=s1)∧(s1.e=0→∃a,o1=some a∧Out F inp (f a) s1 o s'):=by
 obtain⟨o1,s1,h1,h2,h3⟩:=h.part;cases o1 with
 |none=>
   obtain⟨rfl,rfl⟩:=h3 rfl;have he:s'.e≠0:=fun e=>by have:=h1.e.1 e;simp at this
   exact⟨none,s',h1,AA,fun _=>⟨rfl,rfl⟩,fun e=>absurd e he⟩
 |some a=>
   exact⟨some a,s1,h1,(h2 a rfl).rd,fun e=>absurd (h1.e.2 rfl) e,fun _=>⟨a,rfl,h2 a rfl⟩⟩
theorem VV{nd:Nat→Node}{d id:Nat}{V:FV}{s s':Fz}{o:Option FO}(he:s.e=0)(hk:(nd id).kind≠9)(h:Out F inp (Ak nd (d+1) (.stmt id V)) s o s'):
 (F≤s.used∧o=none∧s'={s with e:=2})∨(¬F≤s.used∧(nd id).kids≠[]∧∃o1 s1,Out F inp (Ak nd d (.expr V ((nd id).k 0))) {s with used:=s.used+1} o1 s1∧s1.rd≤s'.rd∧
  (s1.e≠0→o=none∧s'=s1)∧(s1.e=0→∃a,o1=some a∧Out F inp (Mx (nd id) id V a.x (fun b=>Ak nd d (.block b V))) s1 o s')):=by
 have h:Out F inp (BM nd (Ak nd d) (.stmt id V)) s o s':=h;simp only[BM] at h;rw[if_neg hk] at h;rcases h.burn he with h1|⟨hf,h1⟩
 ·exact .inl h1
 ·by_cases hn:(nd id).kids=[]
  ·rw[if_pos hn] at h1
   exact(h1.bot he).elim
  ·rw[if_neg hn] at h1
   exact .inr ⟨hf,hn,h1.next⟩
theorem Tj{nd:Nat→Node}{d id:Nat}{V:FV}{s s':Fz}{o:Option FO}(he:s.e=0)(hk:(nd id).kind=9)(h:Out F inp (Ak nd (d+1) (.stmt id V)) s o s'):
 (nd id).kids.length=2∧Out F inp (Ak nd d (.loop ((nd id).k 0) ((nd id).k 1) V)) s o s':=by
 have h:Out F inp (BM nd (Ak nd d) (.stmt id V)) s o s':=h;simp only[BM] at h;rw[if_pos hk] at h;by_cases hn:(nd id).kids.length=2
 ·rw[if_pos hn] at h
  exact⟨hn,h⟩
 ·rw[if_neg hn] at h
  exact(h.bot he).elim
theorem QH{nd:Nat→Node}{d c b:Nat}{V:FV}{s s':Fz}{o:Option FO}(h:Out F inp (Ak nd d (.loop c b V)) s o s'):
 (s.e≠0∧o=none∧s'=s)∨(s.e=0∧F≤s.used∧o=none∧s'={s with e:=2})∨(s.e=0∧¬F≤s.used∧∃k,d=k+1∧∃o1 s1,Out F inp (Ak nd k (.expr V c)) {s with used:=s.used+1} o1 s1∧s1.rd≤s'.rd∧
  (s1.e≠0→o=none∧s'=s1)∧(s1.e=0→∃a,o1=some a∧(a.x=0→s'=s1∧o=some ⟨0,V⟩)∧
   (a.x≠0→∃o2 s2,Out F inp (Ak nd k (.block b V)) s1 o2 s2∧s2.rd≤s'.rd∧∀V',(∀q,o2=some q→V'=q.V)→Out F inp (Ak nd k (.loop c b V')) s2 o s'))):=by
 by_cases he:s.e=0
 ·refine .inr ?_
  cases d with
  |zero=>exact(Out.bot h he).elim
  |succ k=>
    have h:Out F inp (BM nd (Ak nd k) (.loop c b V)) s o s':=h;simp only[BM] at h;rcases h.burn he with h1|⟨hf,h1⟩
    ·exact .inl ⟨he,h1⟩
    ·obtain⟨o1,s1,k1,k2,k3,k4⟩:=h1.next
     refine .inr ⟨he,hf,k,rfl,o1,s1,k1,k2,k3,fun e1=> ?_⟩;obtain⟨a,rfl,k5⟩:=k4 e1;refine⟨a,rfl,fun ha=> ?_,fun ha=> ?_⟩
     ·rw[if_pos ha] at k5
      obtain⟨e2,e3⟩:=k5.ret e1;exact⟨e3,e2⟩
     ·rw[if_neg ha] at k5
      obtain⟨o2,s2,m1,m2,m3,m4⟩:=k5.next;refine⟨o2,s2,m1,m2,fun V' hV=> ?_⟩;by_cases e2:s2.e=0
      ·obtain⟨q,rfl,m5⟩:=m4 e2
       rw[hV q rfl];exact m5
      ·exact .inr ⟨e2,m3 e2⟩
 ·exact .inl ⟨he,h.ended he⟩
theorem TU{nd:Nat→Node}{d f:Nat}{args:List Int}{s s':Fz}{o:Option FO}(h:Out F inp (Ak nd (d+1) (.call f args)) s o s'):
 (s.e≠0∧o=none∧s'=s)∨(s.e=0∧F≤s.used∧o=none∧s'={s with e:=2})∨(s.e=0∧¬F≤s.used∧args.length+1=(nd f).kids.length∧∃o1,Out F inp (Ak nd d (.block ((nd f).k args.length) (JJ (nd f).kids args fv0))) {s with used:=s.used+1} o1 s'∧
  ∀a,o=some a→∃b,o1=some b∧a.x=b.x):=by
 by_cases he:s.e=0
 ·have h:Out F inp (BM nd (Ak nd d) (.call f args)) s o s':=h
  simp only[BM] at h;rcases h.burn he with h1|⟨hf,h1⟩
  ·exact .inr (.inl ⟨he,h1⟩)
  ·by_cases hn:args.length+1=(nd f).kids.length
   ·rw[if_pos hn] at h1
    obtain⟨o1,k1,k2⟩:=Io (g:=fun p:FO=>(⟨p.x,fv0⟩:FO)) h1;exact .inr (.inr ⟨he,hf,hn,o1,k1,fun a ha=>by obtain⟨b,e1,e2⟩:=k2 a ha;exact⟨b,e1,by rw[e2]⟩⟩)
   ·rw[if_neg hn] at h1
    exact(h1.bot he).elim
 ·exact .inl ⟨he,h.ended he⟩
end Hg
namespace Hg
def rowAt(l:List Row)(k:Nat):Row:=l.getD k default
def CU(l:List Row)(k:Nat):List Nat:=(rowAt l k).node.kids
def Dv(l:List Row):Nat→List Nat→List Nat→Option (List Nat)
 |0,_,_=>none
 |_+1,[],out=>some out
 |f+1,i::wait,out=>
   match atI l i with
   |none=>Dv l f wait out
   |some k=>if isIn out i=true then Dv l f wait out else Dv l f (CU l k++wait) (out++[i])
def BZ(l:List Row):Nat:=(l.map (fun r=>r.node.kids.length)).sum
def Dg(l:List Row)(wait out:List Nat):Nat:=wait.length+BZ (l.filter (fun r=> !isIn out r.id))
def walk(l:List Row)(id:Nat):List Nat:=(Dv l (BZ l+2) [id] []).getD []
def E5(D:Nat→Nat):List Nat→Nat→Nat
 |[],most=>most+1
 |k::ks,most=>if D k=0 then 0 else E5 D ks (max most (D k))
def Cu(l:List Row):Nat→Nat→Nat
 |0,_=>0
 |n+1,id=>E5 (Cu l n) (CU l ((atI l id).getD 0)) 0
def Ci(l:List Row):List Nat→Nat→Option Nat
 |[],n=>some n
 |k::ks,n=>if atI l k=none∨k=1 then none else Ci l ks (n+1)
def Ch(l:List Row):List Row→Nat→Option Nat
 |[],n=>some n
 |r::rs,n=>if r.node.ref≠0∧atI l r.node.ref=none then none else
   match Ci l r.node.kids n with
   |none=>none
   |some n=>Ch l rs n
def tree(l:List Row):Bool:=
 match atI l 1 with
 |none=>false
 |some k=>if (rowAt l k).node.kind≠1∨(walk l 1).length≠l.length then false else
   match Ch l l 0 with
   |none=>false
   |some n=>decide (n+1=l.length) && decide (0 < Cu l 200 1)
def EI(kind:Nat):Bool:=decide (13≤kind) && decide (kind≤20)
def CW(kind:Nat):UInt8:=
 if kind=19 then 67 else if EI kind then 69 else if kind=10 then 82 else if 6≤kind∧kind≤12 then 83 else if kind=5 then 66 else if kind=4 then 80 else if kind=3 then 70 else if kind=2 then 77 else 88
def only (s letters:Str):Bool:=s.all (fun c=>letters.any (fun x=>c==x))
def fits(kind:Nat)(s:Str)(body:Bool):Bool:=
 if kind=1 then only s [77]
 else if kind=2 then only s [70]
 else if kind=3 then decide (0 < s.length) && only (s.take (s.length-1)) [80] && s.drop (s.length-1)==[66]
 else if kind=5 then(if body then decide (0 < s.length) && only (s.take (s.length-1)) [83] && s.drop (s.length-1)==[82] else only s [83])
 else if kind=6∨kind=7∨kind=10∨kind=11∨kind=16∨kind=17 then decide (s.length=1) && only s [69,67]
 else if kind=8 then decide (s.length=3) && only (s.take 1) [69,67] && s.drop 1==[66,66]
 else if kind=9 then decide (s.length=2) && only (s.take 1) [69,67] && s.drop 1==[66]
 else if kind=12 then s==[67]
 else if kind=18 then decide (s.length=2) && only s [69,67]
 else if kind=19 then only s [69,67]
 else decide (s.length=0)
def kindOf(l:List Row)(id:Nat):Nat:=(AO l id).kind
def classes(l:List Row)(kids:List Nat):Str:=kids.map (fun k=>CW (kindOf l k))
def isNamed(k:Nat):Bool:=decide (k=2)||decide (k=3)||decide (k=4)||decide (k=6)
def Ce(l:List Row)(r:Row):Bool:=
 let n:=r.node
 if n.kind < 1∨20 < n.kind∨decide (n.kind=1)≠decide (r.id=1)∨fits n.kind (classes l n.kids) (decide (kindOf l (parentOf l r.id).1=3))=false then false
 else if isNamed n.kind≠(n.name !=[])∨isNamed n.kind=true∧(Cj n.name=false∨inL words n.name=true) then false
 else if (isNamed n.kind && decide (n.kind≠2))≠(decide (n.type=1)||decide (n.type=2))∨(isNamed n.kind && decide (n.kind≠2))=false∧n.type≠0 then false
 else if n.kind=7∨n.kind=15 then
  (if kindOf l n.ref≠4∧kindOf l n.ref≠6 then false else decide (n.num=0))
 else if n.kind=19 then
  (if kindOf l n.ref≠3 then false else decide (n.num=0))
 else if n.ref≠0 then false
 else if n.kind=13 then decide (0≤n.num)
 else if n.kind=14 then decide (0≤n.num∧n.num≤1)
 else if n.kind=18 then decide (1≤n.num∧n.num≤13)
 else decide (n.num=0)
def DV(l:List Row)(D:Nat→Option Nat)(kind:Nat):List Nat→Nat→Option Nat
 |[],most=>some (if 16≤kind∧kind≤19 then most+1 else most)
 |k::ks,most=>
   match D k with
   |none=>none
   |some d=>DV l D kind ks (max most (if kindOf l k=5∧kind≠3 then d+1 else d))
def DI(l:List Row):Nat→Nat→Option Nat
 |0,_=>none
 |f+1,id=>DV l (DI l f) (kindOf l id) (AO l id).kids 0
def CY(l:List Row):List Row→Option Bool
 |[]=>some true
 |r::rs=>if r.node.kind=3 then
     (match DI l 201 r.id with
      |none=>none
      |some d=>if 90 < d then some false else CY l rs)
   else CY l rs
def CK(l:List Row):List Row→Bool
 |[]=>true
 |r::rs=>if Ce l r=false then false else CK l rs
def shaped(l:List Row):Option Bool:=if tree l=false then some false else if CK l l=false then some false else CY l l
def typeOf(l:List Row)(id:Nat):Nat:=
 let n:=AO l id
 if n.kind=13∨n.kind=17∨n.kind=20 then 1
 else if n.kind=14∨n.kind=16 then 2
 else if n.kind=18 then(if 5 < n.num then 2 else 1)
 else if n.kind=15∨n.kind=19 then(AO l n.ref).type
 else 0
def BF(l:List Row)(f:Nat):List Nat:=(((AO l f).kids.filter (fun k=>kindOf l k==4)).map (fun k=>(AO l k).type))
def CP(l:List Row)(n:Node)(i want:Nat):Bool:=decide (typeOf l (n.kids.getD i 0)≠want)
def EE(l:List Row)(n:Node):Nat→List Nat→Bool
 |_,[]=>false
 |i,x::xs=>CP l n i x||EE l n (i+1) xs
def Bh(l:List Row)(n:Node)(fn:Nat):Bool:=
 if n.kind=6 then CP l n 0 n.type
 else if n.kind=7 then CP l n 0 (AO l n.ref).type
 else if n.kind=8∨n.kind=9∨n.kind=16 then CP l n 0 2
 else if n.kind=10 then CP l n 0 (AO l fn).type
 else if n.kind=17 then CP l n 0 1
 else if n.kind=18 then
  (let want := if n.num = 10 ∨ n.num = 11 then typeOf l (n.kids.getD 0 0) else if n.num < 10 then 1 else 2
   CP l n 0 want||CP l n 1 want)
 else if n.kind=19 then
  (let p := BF l n.ref
   if p.length≠n.kids.length then true else EE l n 0 p)
 else false
structure Vis where
 hidden:Bool
 wrong:Bool
deriving Inhabited,DecidableEq
def EC(l:List Row)(V:Vis→Nat→List Nat→Option Vis):List Nat→List Nat→Vis→Option Vis
 |[],_,v=>some v
 |k::ks,seen,v=>
   match V v k seen with
   |none=>none
   |some v=>EC l V ks (if kindOf l k=6∨kindOf l k=4 then seen++[k] else seen) v
def Dc(l:List Row)(fn:Nat):Nat→Vis→Nat→List Nat→Option Vis
 |0,_,_,_=>none
 |f+1,v,id,seen=>
   let n:=AO l id
   EC l (Dc l fn f) n.kids seen ⟨v.hidden||((decide (n.kind=7)||decide (n.kind=15)) && !isIn seen n.ref),v.wrong||Bh l n fn⟩
def twice:List Str→Bool
 |s=>(List.range s.length).any fun i=>inL (s.take i) (s.getD i [])
def DT(l:List Row)(f:Nat):List Str:=((walk l f).filter (fun id=>kindOf l id==4||kindOf l id==6)).map (fun id=>(AO l id).name)
structure Alls where
 clash:Bool
 vis:Vis
deriving Inhabited,DecidableEq
def Dm(l:List Row):List Nat→List Str→Alls→Option (List Str×Alls)
 |[],funcs,a=>some (funcs,a)
 |f::fs,funcs,a=>
   match Dc l f 201 a.vis f [] with
   |none=>none
   |some v=>Dm l fs (funcs++[(AO l f).name]) ⟨a.clash||twice (DT l f),v⟩
def Ei(l:List Row):List Nat→List Str→Alls→Option (List Str×Alls)
 |[],mods,a=>some (mods,a)
 |m::ms,mods,a=>
   match Dm l (AO l m).kids [] a with
   |none=>none
   |some (funcs,a)=>Ei l ms (mods++[(AO l m).name]) ⟨a.clash||twice funcs,a.vis⟩
def KP(l:List Row):Option Alls:=
 match Ei l (AO l 1).kids [] ⟨false,⟨false,false⟩⟩ with
 |none=>none
 |some (mods,a)=>some ⟨a.clash||twice mods,a.vis⟩
def GH(l:List Row)(m:Nat)(mod name:Str):List Nat→Option Nat
 |[]=>none
 |f::fs=>if (AO l m).name=mod∧(AO l f).name=name then some f else GH l m mod name fs
def funcOf(l:List Row)(mod name:Str):List Nat→Nat
 |[]=>0
 |m::ms=>match GH l m mod name (AO l m).kids with
   |some f=>f
   |none=>funcOf l mod name ms
def Cg:Str:=[109,97,105,110]
def JY(l:List Row):Nat:=
 let f:=funcOf l Cg Cg (AO l 1).kids
 if f=0∨(AO l f).type≠1∨0 < (BF l f).length then 0 else f
def Ec(l:List Row):Option Nat:=
 match shaped l with
 |none=>none
 |some false=>some 2
 |some true=>
   match KP l with
   |none=>none
   |some a=>some (if a.clash then 10 else if a.vis.hidden then 9 else if a.vis.wrong then 11 else if JY l=0 then 3 else 0)
theorem EH(r:Row)(l:List Row):BZ (r::l)=r.node.kids.length+BZ l:=by simp[BZ]
theorem Ns(out:List Nat)(i x:Nat):isIn (out++[i]) x=(isIn out x||(x==i)):=by
 unfold isIn;rw[List.contains_eq_any_beq,List.contains_eq_any_beq,List.any_append];simp
theorem J3(l:List Row)(out:List Nat)(i:Nat):BZ (l.filter (fun r=> !isIn (out++[i]) r.id))≤BZ (l.filter (fun r=> !isIn out r.id)):=by
 induction l with
 |nil=>simp
 |cons r l ih=>
   rw[List.filter_cons,List.filter_cons,Ns];by_cases h1:isIn out r.id=true
   ·simp[h1];exact ih
   ·have h1':isIn out r.id=false:=by simpa using h1
    by_cases h2:r.id=i
    ·have hb:(r.id==i)=true:=by simpa using h2
     rw[h1',hb];simp[EH];omega
    ·have hb:(r.id==i)=false:=by simpa using h2
     rw[h1',hb];simp[EH];omega
theorem DU:∀(l:List Row) (out:List Nat) (i k:Nat),atI l i=some k→isIn out i=false→
 BZ (l.filter (fun r=> !isIn (out++[i]) r.id))+(CU l k).length≤BZ (l.filter (fun r=> !isIn out r.id))
 |[],out,i,k,h,ho=>by simp[atI] at h
 |r::l,out,i,k,h,ho=>by
   rw[List.filter_cons,List.filter_cons,Ns];unfold atI at h;rw[List.findIdx?_cons] at h;by_cases h2:r.id=i
   ·have hb:(r.id==i)=true:=by simpa using h2
    rw[hb] at h;simp at h;subst h;have:=J3 l out i;rw[h2,ho];simp only[Bool.false_or,beq_self_eq_true,Bool.not_true,Bool.false_eq_true,if_false,Bool.not_false,if_true,EH];have e:(CU (r::l) 0).length=r.node.kids.length:=rfl;omega
   ·have hb:(r.id==i)=false:=by simpa using h2
    rw[hb] at h;simp only[Bool.false_eq_true,if_false,Option.map_eq_some_iff] at h;obtain⟨k',hk',rfl⟩:=h;have ih:=DU l out i k' hk' ho;have e:(CU (r::l) (k'+1))=CU l k':=by simp[CU,rowAt]
    rw[e];by_cases h1:isIn out r.id=true
    ·simp[h1];exact ih
    ·simp[h1,h2,EH];omega
theorem Ig(l:List Row):∀(f:Nat) (wait out:List Nat),Dg l wait out < f→∃r,Dv l f wait out=some r
 |0,wait,out,h=>by omega
 |f+1,[],out,h=>⟨out,rfl⟩
 |f+1,i::wait,out,h=>by
   rw[Dv];unfold Dg at h;simp only[List.length_cons] at h;cases hk:atI l i with
   |none=>exact Ig l f wait out (by unfold Dg;omega)
   |some k=>
     dsimp only;by_cases hi:isIn out i=true
     ·rw[if_pos hi];exact Ig l f wait out (by unfold Dg;omega)
     ·rw[if_neg hi]
      have:=DU l out i k hk (by simpa using hi);exact Ig l f _ _ (by unfold Dg;rw[List.length_append];omega)
theorem OT(l:List Row)(id:Nat):Dv l (BZ l+2) [id] []=some (walk l id):=by
 obtain⟨r,h⟩:=Ig l (BZ l+2) [id] [] (by
  unfold Dg;have:l.filter (fun r=> !isIn [] r.id)=l:=by rw[List.filter_eq_self];intro r _;rfl
  rw[this];simp;omega)
 unfold walk;rw[h];rfl
theorem M3(D:Nat→Nat):∀(ks:List Nat) (m:Nat),0 < E5 D ks m↔∀k∈ks,0 < D k
 |[],m=>by simp[E5]
 |k::ks,m=>by
   rw[E5];by_cases h:D k=0
   ·rw[if_pos h];simp[h]
   ·rw[if_neg h,M3 D ks]
    simp only[List.mem_cons,forall_eq_or_imp];exact⟨fun x=>⟨by omega,x⟩,fun x=>x.2⟩
theorem Ga(l:List Row)(n id:Nat):0 < Cu l (n+1) id↔∀k∈CU l ((atI l id).getD 0),0 < Cu l n k:=by
 rw[Cu,M3]
theorem Gz(l:List Row):∀(n id:Nat),0 < Cu l n id→0 < Cu l (n+1) id
 |0,id,h=>by simp[Cu] at h
 |n+1,id,h=>by
   rw[Ga] at h⊢;exact fun k hk=>Gz l n k (h k hk)
theorem J8(l:List Row)(id:Nat):l.find? (fun r=>r.id==id)=(atI l id).bind (fun k=>l[k]?):=by
 unfold atI
 induction l with
 |nil=>rfl
 |cons r l ih=>
   rw[List.find?_cons,List.findIdx?_cons];by_cases h:(r.id==id)=true
   ·simp[h]
   ·simp only[Bool.not_eq_true] at h
    simp only[h,ih,Bool.false_eq_true,if_false];cases List.findIdx? (fun r=>r.id==id) l <;>simp
theorem DF(l:List Row)(id k:Nat)(h:atI l id=some k):AO l id=(rowAt l k).node:=by
 have hk:k < l.length:=by
  unfold atI at h;obtain⟨hk,_⟩:=List.findIdx?_eq_some_iff_getElem.1 h;exact hk
 unfold AO rowAt;rw[J8,h]
 simp[hk]
theorem CS(l:List Row)(id:Nat)(h:atI l id=none):AO l id=Node.zero:=by
 unfold AO;rw[J8,h];rfl
theorem II(l:List Row)(id:Nat):∀k∈(AO l id).kids,k∈CU l ((atI l id).getD 0):=by
 intro k hk;cases h:atI l id with
 |none=>rw[CS l id h] at hk;simp[Node.zero] at hk
 |some i=>rw[DF l id i h] at hk;exact hk
def Good(l:List Row)(id:Nat):Prop:=0 < Cu l 200 id
theorem Good.kid{l:List Row}{id k:Nat}(h:Good l id)(hk:k∈CU l ((atI l id).getD 0)):Good l k:=
 Gz l 199 k ((Ga l 199 id).1 h k hk)
theorem Good.kid'{l:List Row}{id k:Nat}(h:Good l id)(hk:k∈(AO l id).kids):Good l k:=h.kid (II l id k hk)
theorem KG(l:List Row)(D:Nat→Option Nat)(kind:Nat):∀(ks:List Nat) (m:Nat),(∀k∈ks,∃d,D k=some d)→∃r,DV l D kind ks m=some r
 |[],m,h=>⟨_,rfl⟩
 |k::ks,m,h=>by
   obtain⟨d,hd⟩:=h k (by simp);rw[DV,hd];exact KG l D kind ks _ fun k' hk'=>h k' (by simp[hk'])
theorem LK(l:List Row):∀(n id:Nat),0 < Cu l n id→∃d,DI l n id=some d
 |0,id,h=>by simp[Cu] at h
 |n+1,id,h=>by
   rw[DI];exact KG l _ _ _ _ fun k hk=>LK l n k ((Ga l n id).1 h k (II l id k hk))
theorem Jh(l:List Row)(V:Vis→Nat→List Nat→Option Vis):∀(ks seen:List Nat) (v:Vis),(∀k∈ks,∀v seen,∃r,V v k seen=some r)→∃r,EC l V ks seen v=some r
 |[],seen,v,h=>⟨_,rfl⟩
 |k::ks,seen,v,h=>by
   obtain⟨d,hd⟩:=h k (by simp) v seen;rw[EC,hd];exact Jh l V ks _ _ fun k' hk'=>h k' (by simp[hk'])
theorem Ky(l:List Row)(fn:Nat):∀(n:Nat) (v:Vis) (id:Nat) (seen:List Nat),0 < Cu l n id→∃d,Dc l fn n v id seen=some d
 |0,v,id,seen,h=>by simp[Cu] at h
 |n+1,v,id,seen,h=>by
   rw[Dc];exact Jh l _ _ _ _ fun k hk v seen=>Ky l fn n v k seen ((Ga l n id).1 h k (II l id k hk))
theorem Gg(l:List Row)(P:Nat→Prop)(hP:∀i k,P i→atI l i=some k→∀c∈CU l k,P c):∀(f:Nat) (wait out r:List Nat),Dv l f wait out=some r→(∀i∈wait,P i)→
 (∀i∈out,P i∧(atI l i).isSome=true)→out.Nodup→(∀i∈r,P i∧(atI l i).isSome=true)∧r.Nodup
 |0,wait,out,r,h,_,_,_=>by simp[Dv] at h
 |f+1,[],out,r,h,hw,ho,hn=>by
   rw[Dv] at h;injection h with h;subst h;exact⟨ho,hn⟩
 |f+1,i::wait,out,r,h,hw,ho,hn=>by
   rw[Dv] at h;have hi:=hw i (by simp);have hw':∀j∈wait,P j:=fun j hj=>hw j (by simp[hj]);cases hk:atI l i with
   |none=>rw[hk] at h;exact Gg l P hP f _ _ _ h hw' ho hn
   |some k=>
     rw[hk] at h;dsimp only at h;by_cases hin:isIn out i=true
     ·rw[if_pos hin] at h;exact Gg l P hP f _ _ _ h hw' ho hn
     ·rw[if_neg hin] at h
      refine Gg l P hP f _ _ _ h (fun j hj=> ?_) (fun j hj=> ?_) ?_
      ·rcases List.mem_append.1 hj with hj|hj
       ·exact hP i k hi hk j hj
       ·exact hw' j hj
      ·rcases List.mem_append.1 hj with hj|hj
       ·exact ho j hj
       ·simp at hj;subst hj;exact⟨hi,by rw[hk];rfl⟩
      ·rw[List.nodup_append]
       refine⟨hn,by simp,fun a ha b hb=> ?_⟩;simp at hb;subst hb;intro e;subst e;unfold isIn at hin;rw[List.contains_iff_mem] at hin;exact hin ha
theorem PE(l:List Row)(id:Nat)(P:Nat→Prop)(hP:∀i k,P i→atI l i=some k→∀c∈CU l k,P c)(h:P id):(∀i∈walk l id,P i∧(atI l i).isSome=true)∧(walk l id).Nodup:=
 Gg l P hP _ _ _ _ (OT l id) (fun i hi=>by simp at hi;subst hi;exact h) (fun i hi=>by simp at hi) List.nodup_nil
theorem Vl:∀(a b:List Nat),a.Nodup→(∀x∈a,x∈b)→b.length≤a.length→∀y∈b,y∈a
 |[],b,hn,hs,hl=>fun y hy=>by
   have:b=[]:=List.eq_nil_of_length_eq_zero (by simpa using hl);rw[this] at hy;exact hy
 |x::a,b,hn,hs,hl=>fun y hy=>by
   rw[List.nodup_cons] at hn;by_cases e:y=x
   ·simp[e]
   ·have hx:=hs x (by simp)
    have hlen:=List.length_erase_of_mem hx;have hpos:0 < b.length:=List.length_pos_of_mem hx;have:=Vl a (b.erase x) hn.2 (fun z hz=>by
     have hzx:z≠x:=fun e=>hn.1 (e ▸ hz);exact(List.mem_erase_of_ne hzx).2 (hs z (by simp[hz]))) (by simp at hl;omega) y ((List.mem_erase_of_ne e).2 hy)
    simp[this]
theorem KN(l:List Row)(id:Nat):(atI l id).isSome=true↔id∈l.map (fun r=>r.id):=by
 unfold atI;rw[List.findIdx?_isSome]
 simp[List.any_eq_true]
theorem PD(l:List Row)(id:Nat):(walk l id).length≤l.length:=by
 obtain⟨h1,h2⟩:=PE l id (fun _=>True) (fun _ _ _ _ _ _=>trivial) trivial;rcases Nat.lt_or_ge l.length (walk l id).length with h|h
 ·exfalso
  have hs:∀x∈walk l id,x∈l.map (fun r=>r.id):=fun x hx=>(KN l x).1 (h1 x hx).2;have key:∀(a b:List Nat),a.Nodup→(∀x∈a,x∈b)→a.length≤b.length:=by
   intro a
   induction a with
   |nil=>intro b _ _;simp
   |cons x a ih=>
     intro b hn hs;rw[List.nodup_cons] at hn;have hx:=hs x (by simp);have hlen:=List.length_erase_of_mem hx;have hpos:0 < b.length:=List.length_pos_of_mem hx;have:=ih (b.erase x) hn.2 fun z hz=>by
      have hzx:z≠x:=fun e=>hn.1 (e ▸ hz);exact(List.mem_erase_of_ne hzx).2 (hs z (by simp[hz]))
     simp;omega
  have:=key _ _ h2 hs;simp at this;omega
 ·exact h
theorem NP{l:List Row}(h:tree l=true):Good l 1∧∀r∈l,Good l r.id:=by
 unfold tree at h;cases hk:atI l 1 with
 |none=>rw[hk] at h;simp at h
 |some k=>
   rw[hk] at h;dsimp only at h;by_cases hc:(rowAt l k).node.kind≠1∨(walk l 1).length≠l.length
   ·rw[if_pos hc] at h;simp at h
   ·rw[if_neg hc] at h
    cases ht:Ch l l 0 with
    |none=>rw[ht] at h;simp at h
    |some n=>
      rw[ht] at h;simp only[Bool.and_eq_true,decide_eq_true_eq] at h;have hg:Good l 1:=h.2;have hlen:(walk l 1).length=l.length:=Classical.byContradiction fun x=>hc (.inr x);obtain⟨h1,h2⟩:=PE l 1 (Good l) (fun i k hi hk c hc=>hi.kid (by rw[hk];exact hc)) hg;refine⟨hg,fun r hr=>(h1 r.id ?_).1⟩;exact Vl (walk l 1) (l.map (fun r=>r.id)) h2 (fun x hx=>(KN l x).1 (h1 x hx).2) (by simp[hlen]) r.id (List.mem_map.2 ⟨r,hr,rfl⟩)
theorem Ho(l:List Row):∀(rs:List Row),(∀r∈rs,Good l r.id)→∃b,CY l rs=some b
 |[],h=>⟨_,rfl⟩
 |r::rs,h=>by
   rw[CY];have ih:=Ho l rs fun r' hr'=>h r' (by simp[hr']);by_cases hk:r.node.kind=3
   ·rw[if_pos hk]
    obtain⟨d,hd⟩:=LK l 201 r.id (Gz l 200 _ (h r (by simp)));rw[hd];dsimp only;by_cases h9:90 < d
    ·rw[if_pos h9];exact⟨_,rfl⟩
    ·rw[if_neg h9];exact ih
   ·rw[if_neg hk];exact ih
theorem PV(l:List Row):∃b,shaped l=some b:=by
 unfold shaped;cases ht:tree l
 ·exact⟨_,rfl⟩
 ·rw[if_neg (by simp)]
  by_cases hs:CK l l=false
  ·rw[if_pos hs];exact⟨_,rfl⟩
  ·rw[if_neg hs]
   exact Ho l l (NP ht).2
theorem PT{l:List Row}(h:shaped l=some true):tree l=true:=by
 unfold shaped at h;cases ht:tree l
 ·rw[ht] at h;simp at h
 ·rfl
theorem JL(l:List Row):∀(fs:List Nat) (fn:List Str) (a:Alls),(∀f∈fs,Good l f)→∃r,Dm l fs fn a=some r
 |[],fn,a,h=>⟨_,rfl⟩
 |f::fs,fn,a,h=>by
   rw[Dm];obtain⟨v,hv⟩:=Ky l f 201 a.vis f [] (Gz l 200 _ (h f (by simp)));rw[hv];exact JL l fs _ _ fun f' hf'=>h f' (by simp[hf'])
theorem KR(l:List Row):∀(ms:List Nat) (mn:List Str) (a:Alls),(∀m∈ms,Good l m)→∃r,Ei l ms mn a=some r
 |[],mn,a,h=>⟨_,rfl⟩
 |m::ms,mn,a,h=>by
   rw[Ei];obtain⟨r,hr⟩:=JL l (AO l m).kids [] a fun f hf=>(h m (by simp)).kid' hf;rw[hr];exact KR l ms _ _ fun f' hf'=>h f' (by simp[hf'])
theorem Ws{l:List Row}(h:tree l=true):∃a,KP l=some a:=by
 obtain⟨r,hr⟩:=KR l (AO l 1).kids [] ⟨false,⟨false,false⟩⟩ fun m hm=>(NP h).1.kid' hm;unfold KP;rw[hr];exact⟨_,rfl⟩
theorem Ob(l:List Row):∃r,Ec l=some r:=by
 unfold Ec;obtain⟨b,hb⟩:=PV l;rw[hb];cases b with
 |false=>exact⟨_,rfl⟩
 |true=>
   obtain⟨a,ha⟩:=Ws (PT hb);dsimp only;rw[ha];exact⟨_,rfl⟩
end Hg
