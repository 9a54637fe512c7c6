/-
  A part of the proof.
-/
set_option linter.all false
namespace Hg
abbrev Str:=List UInt8
structure Tok where
 kind:Nat
 text:Str
 pos:Nat
deriving Inhabited,DecidableEq
structure Node where
 kind:Nat
 name:Str
 num:Int
 type:Nat
 ref:Nat
 kids:List Nat
deriving Inhabited,DecidableEq
structure Row where
 id:Nat
 node:Node
deriving Inhabited,DecidableEq
def Node.zero:Node:=⟨0,[],0,0,0,[]⟩
def cls(c:UInt8):Nat:=
 if (97≤c.toNat∧c.toNat≤122)∨(65≤c.toNat∧c.toNat≤90)∨c.toNat=95 then 1
 else if 48≤c.toNat∧c.toNat≤57 then 2
 else if c.toNat=32∨c.toNat=9∨c.toNat=10 then 3 else 0
def Ba(c:UInt8):Bool:=cls c==1||cls c==2
def inL(l:List Str)(s:Str):Bool:=l.any (· ==s)
def Cb(s:Str):Bool:=
 match s with
 |[]=>false
 |c::_=>s.length≤64 && cls c==1 && s.all Ba
def valOf(s:Str):Nat:=s.foldl (fun n c=>10*n+(c.toNat-48)) 0
def CK(s:Str):Int:=
 match s with
 |[]=> -1
 |c::r=>
   if 19 < s.length∨(c.toNat=48∧r≠[]) then -1
   else if s.all (fun c=>cls c==2) then(if 9223372036854775807 < valOf s then -1 else(valOf s:Int)) else -1
def Pz:Str:=[98,111,111,108]
def wDo:Str:=[100,111]
def LV:Str:=[101,108,115,101]
def Gq:Str:=[102,97,108,115,101]
def Df:Str:=[102,117,110,99]
def wIf:Str:=[105,102]
def wInt:Str:=[105,110,116]
def wLet:Str:=[108,101,116]
def DI:Str:=[109,111,100,117,108,101]
def IE:Str:=[112,114,105,110,116]
def Jv:Str:=[114,101,97,100]
def Br:Str:=[114,101,116,117,114,110]
def Ju:Str:=[116,114,117,101]
def IC:Str:=[119,104,105,108,101]
def words:List Str:=[Pz,wDo,LV,Gq,Df,wIf,wInt,wLet,DI,IE,Jv,Br,Ju,IC]
def signs:List Str:=[[40],[41],[123],[125],[46],[44],[59],[61],[33],[43],[45],[42],[47],[37],[60],[60,61],[62],[62,61],[61,61],[33,61],[38,38],[124,124]]
def BG:Nat→Nat→Str→List Tok→Option (List Tok)
 |0,_,_,acc=>some acc
 |f+1,i,s,acc=>
   match s with
   |[]=>some acc
   |c::r=>
     if cls c=3 then BG f (i+1) r acc
     else if c.toNat=35 then
      let k:=(s.takeWhile (fun b=>b.toNat !=10)).length
      BG f (i+k) (s.drop k) acc
     else if 0 < cls c then
      let w:=s.takeWhile Ba
      let nx:=fun t=>BG f (i+w.length) (s.drop w.length) (acc++[t])
      if inL words w then nx ⟨3,w,i⟩
      else if Cb w then nx ⟨1,w,i⟩
      else if 0≤CK w then nx ⟨2,w,i⟩
      else none
     else
      let w:=if inL signs (s.take 2)∧2≤s.length then s.take 2 else s.take 1
      if inL signs w then BG f (i+w.length) (s.drop w.length) (acc++[⟨4,w,i⟩]) else none
def Dk(s:Str):Option (List Tok):=BG s.length 0 s []
structure GA where
 name:Str
 id:Nat
 deep:Nat
deriving Inhabited,DecidableEq
structure Rd where
 L:List Tok
 at_:Nat
 deep:Nat
 bad:Bool
 rows:List Row
 names:Nat
 mods:List Str
 funcs:List Str
 ids:List Nat
 calls:List Nat
 wants:List Str
 used:List Str
 seen:List GA
 level:Nat
deriving Inhabited,DecidableEq
namespace Rd
def Bd(l:List Tok):Rd:=⟨l,0,0,false,[],0,[],[],[],[],[],[],[],0⟩
def fault(r:Rd)(e:Nat):Rd:=if r.names=0∧r.bad=false then {r with names:=e} else r
def Ef(l:List Row)(under id:Nat):List Row:=
 l.modify under fun x=>{x with node:={x.node with kids:=x.node.kids++[id]}}
def node(r:Rd)(under:Nat)(n:Node):Rd:=
 let id:=r.rows.length+1
 let rows:=r.rows++[⟨id,n⟩]
 {r with rows:=if 1 < id then Ef rows under id else rows}
def text(r:Rd)(kind:Nat):Str:=
 if r.bad then[] else
  match r.L[r.at_]? with
  |some t=>if t.kind=kind then t.text else[]
  |none=>[]
def next(r:Rd)(s:Str):Bool:=r.text 3==s||r.text 4==s
def step(r:Rd):Rd:={r with at_:=r.at_+1}
def eat(r:Rd)(s:Str):Rd:=if r.next s then r.step else r
def setBad(r:Rd):Rd:={r with bad:=true}
def need(r:Rd)(s:Str):Rd:=if r.next s then r.step else r.setBad
def name(r:Rd):Rd:=if r.text 1=[] then r.setBad else r.step
def typed(r:Rd):Nat×Rd:=if r.next wInt then(1,r.step) else(2,r.need Pz)
def BA(r:Rd)(k t:Nat):Rd:={r with rows:=r.rows.modify k fun x=>{x with node:={x.node with type:=t}}}
def DL(r:Rd)(k id:Nat):Rd:={r with rows:=r.rows.modify k fun x=>{x with node:={x.node with ref:=id}}}
def CX(r:Rd)(k:Nat)(n:Int):Rd:={r with rows:=r.rows.modify k fun x=>{x with node:={x.node with num:=n}}}
def idAt(r:Rd)(k:Nat):Nat:=((r.rows[k]?).map (·.id)).getD 0
def declare(r:Rd)(s:Str)(k:Nat):Rd:=
 let r:=if inL r.used s then r.fault 10 else r
 {r with used:=r.used++[s],seen:=r.seen++[⟨s,r.idAt k,r.level⟩]}
def Jl(l:List GA)(s:Str):Option Nat:=(l.reverse.find? (fun b=>b.name==s)).map (·.id)
def find(r:Rd)(s:Str):Nat×Rd:=
 match Jl r.seen s with
 |some id=>(id,r)
 |none=>(0,r.fault 9)
def enter(r:Rd):Rd:=
 let r:={r with deep:=r.deep+1}
 if 90 < r.deep then r.setBad else r
def leave(r:Rd):Rd:={r with deep:=r.deep-1}
end Rd
end Hg
namespace Hg
namespace Rd
def ops:List Str:=[[43],[45],[42],[47],[37],[60],[60,61],[62],[62,61],[61,61],[33,61],[38,38],[124,124]]
def opOf(s:Str):Nat:=match ops.findIdx? (· ==s) with|some i=>i+1|none=>0
def nd(kind:Nat):Node:=⟨kind,[],0,0,0,[]⟩
def Ac(kind:Nat)(s:Str):Node:=⟨kind,s,0,0,0,[]⟩
def Lj(kind:Nat)(n:Int):Node:=⟨kind,[],n,0,0,[]⟩
def shut(r:Rd):Rd:={r with seen:=r.seen.filter (fun b=>b.deep < r.level),level:=r.level-1}
mutual
def expr:Nat→Rd→Nat→Option Rd
 |0,_,_=>none
 |f+1,r,under=>
   if r.text 2≠[] then some (r.step.node under (Lj 13 (CK (r.text 2))))
   else if r.text 1≠[] then
    let s:=r.text 1
    let r:=r.step
    if r.next [46] then call f r under s
    else
     let n:=r.rows.length
     let r:=r.node under (nd 15)
     some ((r.find s).2.DL n (r.find s).1)
   else if r.next Ju then some (r.step.node under (Lj 14 1))
   else if r.next Gq then some (r.step.node under (nd 14))
   else if r.next Jv then some (r.step.node under (nd 20))
   else if r.next [33]∨r.next [45] then
    let kind:=if r.next [33] then 16 else 17
    let n:=r.rows.length
    let r:=(r.step.node under (nd kind)).enter
    if r.bad then some r.leave else(expr f r n).map leave
   else if r.next [40] then
    let n:=r.rows.length
    let r:=(r.step.node under (nd 18)).enter
    if r.bad then some r.leave else
     match expr f r n with
     |none=>none
     |some r=>
       let op:=opOf (r.text 4)
       let r:=r.CX n op
       let r:=if op=0 then r.setBad else r
       match expr f r.step n with
       |none=>none
       |some r=>some (r.need [41]).leave
   else some r.setBad
def call:Nat→Rd→Nat→Str→Option Rd
 |0,_,_,_=>none
 |f+1,r,under,mod=>
   let n:=r.rows.length
   let r:=(r.node under (nd 19)).need [46]
   let s:=r.text 1
   let r:=r.name
   let r:={r with calls:=r.calls++[r.idAt n],wants:=r.wants++[mod++[32]++s]}
   let r:=r.enter
   if r.bad then some r.leave else(args f true (r.need [40]) n).map leave
def args:Nat→Bool→Rd→Nat→Option Rd
 |0,_,_,_=>none
 |f+1,first,r,n=>
   if r.bad then some r
   else if r.next [41] then some r.step
   else
    match expr f (if first then r else r.need [44]) n with
    |none=>none
    |some r=>args f false r n
end
mutual
def stmt:Nat→Rd→Nat→Option Rd
 |0,_,_=>none
 |f+1,r,under=>
   let n:=r.rows.length
   if r.next wLet then
    let r:=r.step
    let s:=r.text 1
    let r:=r.name.node under (Ac 6 s)
    let t:=r.typed
    let r:=(t.2.BA n t.1).need [61]
    match expr f r n with
    |none=>none
    |some r=>some ((r.declare s n).need [59])
   else if r.next wIf then
    match expr f (r.step.node under (nd 8)) n with
    |none=>none
    |some r=>
      match block f r n with
      |none=>none
      |some r=>block f (r.need LV) n
   else if r.next IC then
    match expr f (r.step.node under (nd 9)) n with
    |none=>none
    |some r=>block f r n
   else if r.next IE then
    (expr f (r.step.node under (nd 11)) n).map (·.need [59])
   else if r.next wDo then
    let r:=r.step.node under (nd 12)
    (call f r.name n (r.text 1)).map (·.need [59])
   else
    let s:=r.text 1
    let r:=r.name.node under (nd 7)
    let r:=((r.find s).2.DL n (r.find s).1).need [61]
    (expr f r n).map (·.need [59])
def block:Nat→Rd→Nat→Option Rd
 |0,_,_=>none
 |f+1,r,under=>
   let n:=r.rows.length
   let r:=r.node under (nd 5)
   let r:=({r with level:=r.level+1}:Rd).enter
   if r.bad then some r.leave.shut else(stmts f (r.need [123]) n).map (fun r=>r.leave.shut)
def stmts:Nat→Rd→Nat→Option Rd
 |0,_,_=>none
 |f+1,r,n=>
   if r.bad then some r
   else if r.next [125] then some r.step
   else
    match stmt f r n with
    |none=>none
    |some r=>stmts f r n
end
def params:Nat→Bool→Rd→Nat→Option Rd
 |0,_,_,_=>none
 |f+1,first,r,k=>
   if r.bad then some r
   else if r.next [41] then some r.step
   else
    let r:=if first then r else r.need [44]
    let x:=r.text 1
    let p:=r.rows.length
    let r:=r.name.node k (Ac 4 x)
    let t:=r.typed
    params f false ((t.2.BA p t.1).declare x p) k
def body:Nat→Rd→Nat→Option Rd
 |0,_,_=>none
 |f+1,r,n=>
   if r.bad∨r.next Br then some r
   else
    match stmt f r n with
    |none=>none
    |some r=>body f r n
def func(f:Nat)(r:Rd)(under:Nat)(mod:Str):Option Rd:=
 let r:=r.need Df
 let s:=r.text 1
 let r:=r.name
 let r:=if inL r.funcs (mod++[32]++s) then r.fault 10 else r
 let k:=r.rows.length
 let r:=r.node under (Ac 3 s)
 let r:={r with funcs:=r.funcs++[mod++[32]++s],ids:=r.ids++[r.idAt k],used:=[],seen:=[],level:=0}
 match params f true (r.need [40]) k with
 |none=>none
 |some r=>
   let t:=r.typed
   let r:=t.2.BA k t.1
   let b:=r.rows.length
   let r:=(r.node k (nd 5)).need [123]
   match body f r b with
   |none=>none
   |some r=>
     let r:=r.need Br
     let n:=r.rows.length
     match expr f (r.node b (nd 10)) n with
     |none=>none
     |some r=>some ((r.need [59]).need [125])
def CB(f:Nat):Nat→Rd→Nat→Str→Option Rd
 |0,_,_,_=>none
 |g+1,r,m,s=>
   if r.bad then some r
   else if r.next [125] then some r.step
   else
    match func f r m s with
    |none=>none
    |some r=>CB f g r m s
def CZ(f:Nat):Nat→Rd→Nat→Option Rd
 |0,_,_=>none
 |g+1,r,root=>
   if r.bad∨r.L.length≤r.at_ then some r
   else
    let r:=r.need DI
    let s:=r.text 1
    let r:=r.name
    let r:=if inL r.mods s then r.fault 10 else r
    let r:={r with mods:=r.mods++[s]}
    let m:=r.rows.length
    let r:=(r.node root (Ac 2 s)).need [123]
    match CB f f r m s with
    |none=>none
    |some r=>CZ f g r root
def DT:List Str→List Nat→Str→Nat→Nat
 |f::fs,i::is,s,t=>DT fs is s (if f=s then i else t)
 |_,_,_,t=>t
def lastOf(fs:List Str)(is:List Nat)(s:Str):Nat:=DT fs is s 0
def link:List Nat→List Str→Rd→Rd
 |id::is,s::ws,r=>
   let to:=lastOf r.funcs r.ids s
   let r:=if to=0 then r.fault 9 else r
   link is ws (r.DL (id-1) to)
 |_,_,r=>r
def program(f:Nat)(r:Rd):Option Rd:=
 let root:=r.rows.length
 match CZ f f (r.node 0 (nd 1)) root with
 |none=>none
 |some r=>some (link r.calls r.wants r)
end Rd
def PK(f:Nat)(s:Str):Option (List Row×Nat):=
 match Dk s with
 |none=>some ([],20)
 |some l=>
   match Rd.program f (Rd.Bd l) with
   |none=>none
   |some r=>
     if r.bad then some ([],20)
     else if 20000 < r.rows.length then some ([],5)
     else if r.names≠0 then some ([],r.names)
     else some (r.rows,0)
end Hg
theorem AA{n:Nat}:n≤n:=Nat.le_refl n
abbrev AO:= @Nat.le_trans
abbrev Ae:= @Nat.lt_of_lt_of_le
abbrev Ab:= @Array.getElem?_eq_some_iff
abbrev Af:= @List.getElem?_eq_some_iff
abbrev AX:= @List.getElem?_eq_getElem
abbrev Au:= @List.drop_eq_getElem_cons
namespace Hg
def atI(l:List Row)(id:Nat):Option Nat:=l.findIdx? (fun r=>r.id==id)
def Ki(l:List Row)(id:Nat):Int:=match atI l id with|some k=>(k:Int)|none=> -1
def parentOf:List Row→Nat→Nat×Nat
 |[],_=>(0,0)
 |r::rs,id=>match r.node.kids.findIdx? (· ==id) with
   |some k=>(r.id,k)
   |none=>parentOf rs id
def AL(l:List Row)(id:Nat):Node:=match l.find? (fun r=>r.id==id) with|some r=>r.node|none=>Node.zero
def isIn(l:List Nat)(x:Nat):Bool:=l.contains x
def numT(n:Nat):Str:=if n < 10 then[UInt8.ofNat (48+n)] else if n < 100 then[UInt8.ofNat (48+n / 10),UInt8.ofNat (48+n % 10)] else[UInt8.ofNat (48+n / 100),UInt8.ofNat (48+n / 10 % 10),UInt8.ofNat (48+n % 10)]
def rowAt(l:List Row)(k:Nat):Row:=l.getD k default
def CU(l:List Row)(k:Nat):List Nat:=(rowAt l k).node.kids
def EA(l:List Row):Nat→List Nat→List Nat→Option (List Nat)
 |0,_,_=>none
 |_+1,[],out=>some out
 |f+1,i::wait,out=>
   match atI l i with
   |none=>EA l f wait out
   |some k=>if isIn out i=true then EA l f wait out else EA l f (CU l k++wait) (out++[i])
def BF(l:List Row):Nat:=(l.map (fun r=>r.node.kids.length)).sum
def Dp(l:List Row)(wait out:List Nat):Nat:=wait.length+BF (l.filter (fun r=> !isIn out r.id))
def walk(l:List Row)(id:Nat):List Nat:=(EA l (BF l+2) [id] []).getD []
def Ew(D:Nat→Nat):List Nat→Nat→Nat
 |[],most=>most+1
 |k::ks,most=>if D k=0 then 0 else Ew D ks (max most (D k))
def CQ(l:List Row):Nat→Nat→Nat
 |0,_=>0
 |n+1,id=>Ew (CQ l n) (CU l ((atI l id).getD 0)) 0
def CJ(l:List Row):List Nat→Nat→Option Nat
 |[],n=>some n
 |k::ks,n=>if atI l k=none∨k=1 then none else CJ l ks (n+1)
def CG(l:List Row):List Row→Nat→Option Nat
 |[],n=>some n
 |r::rs,n=>if r.node.ref≠0∧atI l r.node.ref=none then none else
   match CJ l r.node.kids n with
   |none=>none
   |some n=>CG l rs n
def tree(l:List Row):Bool:=
 match atI l 1 with
 |none=>false
 |some k=>if (rowAt l k).node.kind≠1∨(walk l 1).length≠l.length then false else
   match CG l l 0 with
   |none=>false
   |some n=>decide (n+1=l.length) && decide (0 < CQ l 200 1)
def EC(kind:Nat):Bool:=decide (13≤kind) && decide (kind≤20)
def BO(kind:Nat):UInt8:=
 if kind=19 then 67 else if EC kind then 69 else if kind=10 then 82 else if 6≤kind∧kind≤12 then 83 else if kind=5 then 66 else if kind=4 then 80 else if kind=3 then 70 else if kind=2 then 77 else 88
def only (s letters:Str):Bool:=s.all (fun c=>letters.any (fun x=>c==x))
def fits(kind:Nat)(s:Str)(body:Bool):Bool:=
 if kind=1 then only s [77]
 else if kind=2 then only s [70]
 else if kind=3 then decide (0 < s.length) && only (s.take (s.length-1)) [80] && s.drop (s.length-1)==[66]
 else if kind=5 then(if body then decide (0 < s.length) && only (s.take (s.length-1)) [83] && s.drop (s.length-1)==[82] else only s [83])
 else if kind=6∨kind=7∨kind=10∨kind=11∨kind=16∨kind=17 then decide (s.length=1) && only s [69,67]
 else if kind=8 then decide (s.length=3) && only (s.take 1) [69,67] && s.drop 1==[66,66]
 else if kind=9 then decide (s.length=2) && only (s.take 1) [69,67] && s.drop 1==[66]
 else if kind=12 then s==[67]
 else if kind=18 then decide (s.length=2) && only s [69,67]
 else if kind=19 then only s [69,67]
 else decide (s.length=0)
def kindOf(l:List Row)(id:Nat):Nat:=(AL l id).kind
def classes(l:List Row)(kids:List Nat):Str:=kids.map (fun k=>BO (kindOf l k))
def isNamed(k:Nat):Bool:=decide (k=2)||decide (k=3)||decide (k=4)||decide (k=6)
def Bo(l:List Row)(r:Row):Bool:=
 let n:=r.node
 if n.kind < 1∨20 < n.kind∨decide (n.kind=1)≠decide (r.id=1)∨fits n.kind (classes l n.kids) (decide (kindOf l (parentOf l r.id).1=3))=false then false
 else if isNamed n.kind≠(n.name !=[])∨isNamed n.kind=true∧(Cb n.name=false∨inL words n.name=true) then false
 else if (isNamed n.kind && decide (n.kind≠2))≠(decide (n.type=1)||decide (n.type=2))∨(isNamed n.kind && decide (n.kind≠2))=false∧n.type≠0 then false
 else if n.kind=7∨n.kind=15 then
  (if kindOf l n.ref≠4∧kindOf l n.ref≠6 then false else decide (n.num=0))
 else if n.kind=19 then
  (if kindOf l n.ref≠3 then false else decide (n.num=0))
 else if n.ref≠0 then false
 else if n.kind=13 then decide (0≤n.num)
 else if n.kind=14 then decide (0≤n.num∧n.num≤1)
 else if n.kind=18 then decide (1≤n.num∧n.num≤13)
 else decide (n.num=0)
def Db(l:List Row)(D:Nat→Option Nat)(kind:Nat):List Nat→Nat→Option Nat
 |[],most=>some (if 16≤kind∧kind≤19 then most+1 else most)
 |k::ks,most=>
   match D k with
   |none=>none
   |some d=>Db l D kind ks (max most (if kindOf l k=5∧kind≠3 then d+1 else d))
def DU(l:List Row):Nat→Nat→Option Nat
 |0,_=>none
 |f+1,id=>Db l (DU l f) (kindOf l id) (AL l id).kids 0
def Bv(l:List Row):List Row→Option Bool
 |[]=>some true
 |r::rs=>if r.node.kind=3 then
     (match DU l 201 r.id with
      |none=>none
      |some d=>if 90 < d then some false else Bv l rs)
   else Bv l rs
def Bp(l:List Row):List Row→Bool
 |[]=>true
 |r::rs=>if Bo l r=false then false else Bp l rs
def shaped(l:List Row):Option Bool:=if tree l=false then some false else if Bp l l=false then some false else Bv l l
def typeOf(l:List Row)(id:Nat):Nat:=
 let n:=AL l id
 if n.kind=13∨n.kind=17∨n.kind=20 then 1
 else if n.kind=14∨n.kind=16 then 2
 else if n.kind=18 then(if 5 < n.num then 2 else 1)
 else if n.kind=15∨n.kind=19 then(AL l n.ref).type
 else 0
def BV(l:List Row)(f:Nat):List Nat:=(((AL l f).kids.filter (fun k=>kindOf l k==4)).map (fun k=>(AL l k).type))
def Be(l:List Row)(n:Node)(i want:Nat):Bool:=decide (typeOf l (n.kids.getD i 0)≠want)
def Dg(l:List Row)(n:Node):Nat→List Nat→Bool
 |_,[]=>false
 |i,x::xs=>Be l n i x||Dg l n (i+1) xs
def BD(l:List Row)(n:Node)(fn:Nat):Bool:=
 if n.kind=6 then Be l n 0 n.type
 else if n.kind=7 then Be l n 0 (AL l n.ref).type
 else if n.kind=8∨n.kind=9∨n.kind=16 then Be l n 0 2
 else if n.kind=10 then Be l n 0 (AL l fn).type
 else if n.kind=17 then Be l n 0 1
 else if n.kind=18 then
  (let want := if n.num = 10 ∨ n.num = 11 then typeOf l (n.kids.getD 0 0) else if n.num < 10 then 1 else 2
   Be l n 0 want||Be l n 1 want)
 else if n.kind=19 then
  (let p := BV l n.ref
   if p.length≠n.kids.length then true else Dg l n 0 p)
 else false
structure Vis where
 hidden:Bool
 wrong:Bool
deriving Inhabited,DecidableEq
def Dz(l:List Row)(V:Vis→Nat→List Nat→Option Vis):List Nat→List Nat→Vis→Option Vis
 |[],_,v=>some v
 |k::ks,seen,v=>
   match V v k seen with
   |none=>none
   |some v=>Dz l V ks (if kindOf l k=6∨kindOf l k=4 then seen++[k] else seen) v
def Cz(l:List Row)(fn:Nat):Nat→Vis→Nat→List Nat→Option Vis
 |0,_,_,_=>none
 |f+1,v,id,seen=>
   let n:=AL l id
   Dz l (Cz l fn f) n.kids seen ⟨v.hidden||((decide (n.kind=7)||decide (n.kind=15)) && !isIn seen n.ref),v.wrong||BD l n fn⟩
def twice:List Str→Bool
 |s=>(List.range s.length).any fun i=>inL (s.take i) (s.getD i [])
def CW(l:List Row)(f:Nat):List Str:=((walk l f).filter (fun id=>kindOf l id==4||kindOf l id==6)).map (fun id=>(AL l id).name)
structure Alls where
 clash:Bool
 vis:Vis
deriving Inhabited,DecidableEq
def Cy(l:List Row):List Nat→List Str→Alls→Option (List Str×Alls)
 |[],funcs,a=>some (funcs,a)
 |f::fs,funcs,a=>
   match Cz l f 201 a.vis f [] with
   |none=>none
   |some v=>Cy l fs (funcs++[(AL l f).name]) ⟨a.clash||twice (CW l f),v⟩
def D7(l:List Row):List Nat→List Str→Alls→Option (List Str×Alls)
 |[],mods,a=>some (mods,a)
 |m::ms,mods,a=>
   match Cy l (AL l m).kids [] a with
   |none=>none
   |some (funcs,a)=>D7 l ms (mods++[(AL l m).name]) ⟨a.clash||twice funcs,a.vis⟩
def IA(l:List Row):Option Alls:=
 match D7 l (AL l 1).kids [] ⟨false,⟨false,false⟩⟩ with
 |none=>none
 |some (mods,a)=>some ⟨a.clash||twice mods,a.vis⟩
def GI(l:List Row)(m:Nat)(mod name:Str):List Nat→Option Nat
 |[]=>none
 |f::fs=>if (AL l m).name=mod∧(AL l f).name=name then some f else GI l m mod name fs
def funcOf(l:List Row)(mod name:Str):List Nat→Nat
 |[]=>0
 |m::ms=>match GI l m mod name (AL l m).kids with
   |some f=>f
   |none=>funcOf l mod name ms
def Ci:Str:=[109,97,105,110]
def IX(l:List Row):Nat:=
 let f:=funcOf l Ci Ci (AL l 1).kids
 if f=0∨(AL l f).type≠1∨0 < (BV l f).length then 0 else f
def D5(l:List Row):Option Nat:=
 match shaped l with
 |none=>none
 |some false=>some 2
 |some true=>
   match IA l with
   |none=>none
   |some a=>some (if a.clash then 10 else if a.vis.hidden then 9 else if a.vis.wrong then 11 else if IX l=0 then 3 else 0)
theorem DZ(r:Row)(l:List Row):BF (r::l)=r.node.kids.length+BF l:=by simp[BF]
theorem Od(out:List Nat)(i x:Nat):isIn (out++[i]) x=(isIn out x||(x==i)):=by
 unfold isIn;rw[List.contains_eq_any_beq,List.contains_eq_any_beq,List.any_append];simp
theorem KO(l:List Row)(out:List Nat)(i:Nat):BF (l.filter (fun r=> !isIn (out++[i]) r.id))≤BF (l.filter (fun r=> !isIn out r.id)):=by
 induction l with
 |nil=>simp
 |cons r l ih=>
   rw[List.filter_cons,List.filter_cons,Od];by_cases h1:isIn out r.id=true
   ·simp[h1];exact ih
   ·have h1':isIn out r.id=false:=by simpa using h1
    by_cases h2:r.id=i
    ·have hb:(r.id==i)=true:=by simpa using h2
     rw[h1',hb];simp[DZ];omega
    ·have hb:(r.id==i)=false:=by simpa using h2
     rw[h1',hb];simp[DZ];omega
theorem DY:∀(l:List Row) (out:List Nat) (i k:Nat),atI l i=some k→isIn out i=false→
 BF (l.filter (fun r=> !isIn (out++[i]) r.id))+(CU l k).length≤BF (l.filter (fun r=> !isIn out r.id))
 |[],out,i,k,h,ho=>by simp[atI] at h
 |r::l,out,i,k,h,ho=>by
   rw[List.filter_cons,List.filter_cons,Od];unfold atI at h;rw[List.findIdx?_cons] at h;by_cases h2:r.id=i
   ·have hb:(r.id==i)=true:=by simpa using h2
    rw[hb] at h;simp at h;subst h;have:=KO l out i;rw[h2,ho];simp only[Bool.false_or,beq_self_eq_true,Bool.not_true,Bool.false_eq_true,if_false,Bool.not_false,if_true,DZ];have e:(CU (r::l) 0).length=r.node.kids.length:=rfl;omega
   ·have hb:(r.id==i)=false:=by simpa using h2
    rw[hb] at h;simp only[Bool.false_eq_true,if_false,Option.map_eq_some_iff] at h;obtain⟨k',hk',rfl⟩:=h;have ih:=DY l out i k' hk' ho;have e:(CU (r::l) (k'+1))=CU l k':=by simp[CU,rowAt]
    rw[e];by_cases h1:isIn out r.id=true
    ·simp[h1];exact ih
    ·simp[h1,h2,DZ];omega
theorem Iw(l:List Row):∀(f:Nat) (wait out:List Nat),Dp l wait out < f→∃r,EA l f wait out=some r
 |0,wait,out,h=>by omega
 |f+1,[],out,h=>⟨out,rfl⟩
 |f+1,i::wait,out,h=>by
   rw[EA];unfold Dp at h;simp only[List.length_cons] at h;cases hk:atI l i with
   |none=>exact Iw l f wait out (by unfold Dp;omega)
   |some k=>
     dsimp only;by_cases hi:isIn out i=true
     ·rw[if_pos hi];exact Iw l f wait out (by unfold Dp;omega)
     ·rw[if_neg hi]
      have:=DY l out i k hk (by simpa using hi);exact Iw l f _ _ (by unfold Dp;rw[List.length_append];omega)
theorem O7(l:List Row)(id:Nat):EA l (BF l+2) [id] []=some (walk l id):=by
 obtain⟨r,h⟩:=Iw l (BF l+2) [id] [] (by
  unfold Dp;have:l.filter (fun r=> !isIn [] r.id)=l:=by rw[List.filter_eq_self];intro r _;rfl
  rw[this];simp;omega)
 unfold walk;rw[h];rfl
def EO(id:Nat)(n:Node):List Row→List Row→Bool→List Row
 |[],out,done=>if done=true then out else out++[⟨id,n⟩]
 |r::l,out,done=>if r.id=id then EO id n l out done
   else if id < r.id∧done=false then EO id n l (out++[⟨id,n⟩]++[r]) true
   else EO id n l (out++[r]) done
def putRow(l:List Row)(id:Nat)(n:Node):List Row:=EO id n l [] false
def Cq(a:Nat)(l:List Row):Prop:=∀(k:Nat) (r:Row),l[k]? =some r→r.id=a+k
theorem Cq.head{a:Nat}{r:Row}{l:List Row}(h:Cq a (r::l)):r.id=a:=by simpa using h 0 r rfl
theorem Cq.tail{a:Nat}{r:Row}{l:List Row}(h:Cq a (r::l)):Cq (a+1) l:=fun k x hx=>by
 have:=h (k+1) x (by simpa using hx);omega
theorem Mt(id:Nat)(n:Node):∀(l:List Row) (a:Nat) (out:List Row),Cq a l→id < a→EO id n l out true=out++l
 |[],_,out,_,_=>by simp[EO]
 |r::l,a,out,h,ha=>by
   have h0:=h.head;rw[EO,if_neg (by omega),if_neg (by simp),Mt id n l (a+1) _ h.tail (by omega)];simp
theorem QV(id:Nat)(n:Node):∀(l:List Row) (a:Nat) (out:List Row),Cq a l→id < a→EO id n l out false=out++⟨id,n⟩::l
 |[],_,out,_,_=>by simp[EO]
 |r::l,a,out,h,ha=>by
   have h0:=h.head;rw[EO,if_neg (by omega),if_pos ⟨by omega,rfl⟩,Mt id n l (a+1) _ h.tail (by omega)];simp
theorem OO(id:Nat)(n:Node):∀(l:List Row) (a:Nat) (out:List Row),Cq a l→a≤id→id < a+l.length→EO id n l out false=out++l.set (id-a) ⟨id,n⟩
 |[],a,out,_,h1,h2=>by simp at h2;omega
 |r::l,a,out,h,h1,h2=>by
   have h0:=h.head;by_cases e:a=id
   ·subst e
    rw[EO,if_pos h0,QV a n l (a+1) out h.tail (by omega)];simp
   ·rw[EO,if_neg (by omega),if_neg (fun q=>by omega),OO id n l (a+1) _ h.tail (by omega) (by simp at h2;omega)]
    rw[show id-a=(id-(a+1))+1 by omega,List.set_cons_succ];simp
theorem putRow_set{l:List Row}{k:Nat}(n:Node)(h:Cq 1 l)(hk:k < l.length):putRow l (k+1) n=l.set k ⟨k+1,n⟩:=by
 unfold putRow;rw[OO (k+1) n l 1 [] h (by omega) (by omega)];simp
structure Bend where
 k:Nat
 d:Nat
 n:Int
 name:Str
 id:Nat
def Fu(n:Int):Nat:=(n % 18446744073709551616).toNat
def Dv(x:Node)(len:Nat)(b:Bend):Node:=
 if b.d % 5=0 then(if x.ref=0 then x else {x with ref:=b.id % (len+2)})
 else if b.d % 5=1 then(if x.type=0 then x else {x with type:=1+Fu b.n % 2})
 else if b.d % 5=2 then(if x.name=[] then x else {x with name:=b.name.take 30})
 else if b.d % 5=3 then(if x.kind=18 then {x with num:=((1+Fu b.n % 13:Nat):Int)} else x)
 else {x with kids:=x.kids.reverse}
def FB(l:List Row)(b:Bend):List Row:=putRow l (rowAt l (b.k % l.length)).id (Dv (rowAt l (b.k % l.length)).node l.length b)
def bent:Nat→List Bend→List Row→List Row
 |_,[],l=>l
 |i,b::bs,l=>if 6≤i∨l.length=0 then l else bent (i+1) bs (FB l b)
structure Dy (N:Nat) (l:List Row):Prop where
 len:l.length=N
 ids:Cq 1 l
 sum:BF l≤20000
 kids:∀r∈l,∀c∈r.node.kids,c≤N
 kind:∀r∈l,r.node.kind≤20
 name:∀r∈l,r.node.name.length≤1000000
 num:∀r∈l,r.node.num≤9223372036854775807
theorem Qs(l:List Row)(k:Nat)(r:Row)(hk:k < l.length)(h:r.node.kids.length=l[k].node.kids.length):BF (l.set k r)=BF l:=by
 induction l generalizing k with
 |nil=>simp at hk
 |cons a l ih=>
   cases k with
   |zero=>simp at h;simp[BF,h]
   |succ k=>
     have:=ih k (by simpa using hk) (by simpa using h)
     simp[BF] at this⊢
     exact this
theorem Jq(x:Node)(len:Nat)(b:Bend):(Dv x len b).kind=x.kind:=by
 unfold Dv;(repeat' split) <;>rfl
theorem TH(x:Node)(len:Nat)(b:Bend):(Dv x len b).kids.length=x.kids.length∧∀c∈(Dv x len b).kids,c∈x.kids:=by
 unfold Dv;(repeat' split) <;>exact⟨by simp,fun c hc=>by simpa using hc⟩
theorem Dy.FB{N:Nat}{l:List Row}(h:Dy N l)(b:Bend)(h0:l.length≠0):Dy N (FB l b):=by
 have hk:b.k % l.length < l.length:=Nat.mod_lt _ (by omega);have hget:l[b.k % l.length]? =some l[b.k % l.length]:=AX hk;have hrow:rowAt l (b.k % l.length)=l[b.k % l.length]:=by simp[rowAt,hget]
 have hid:(rowAt l (b.k % l.length)).id=b.k % l.length+1:=by
  rw[hrow];have:=h.ids _ _ hget;omega
 have he:Hg.FB l b=l.set (b.k % l.length) ⟨b.k % l.length+1,Dv l[b.k % l.length].node l.length b⟩:=by
  unfold Hg.FB;rw[hid,hrow,putRow_set _ h.ids hk]
 have hm:l[b.k % l.length]∈l:=List.getElem_mem hk;have key:∀{P:Row→Prop},(∀r∈l,P r)→P ⟨b.k % l.length+1,Dv l[b.k % l.length].node l.length b⟩→∀r∈Hg.FB l b,P r:=by
  intro P h1 h2 r hr;rw[he] at hr;rcases List.mem_or_eq_of_mem_set hr with q|q
  ·exact h1 r q
  ·rw[q];exact h2
 have hkd:=TH l[b.k % l.length].node l.length b;generalize hx:l[b.k % l.length].node=x at*;refine⟨by rw[he,List.length_set];exact h.len, ?_, ?_,key h.kids fun c hc=>h.kids _ hm c (by rw[hx];exact hkd.2 c hc),key h.kind (by rw[Jq,←hx];exact h.kind _ hm),key h.name ?_,key h.num ?_⟩
 ·intro k r hr
  rw[he] at hr;by_cases e:b.k % l.length=k
  ·subst e
   rw[List.getElem?_set_self hk] at hr;injection hr with hr;subst hr;show _+1=_;omega
  ·rw[List.getElem?_set_ne e] at hr
   exact h.ids k r hr
 ·rw[he,Qs l _ _ hk (by rw[hx];exact hkd.1)]
  exact h.sum
 ·have:=h.name _ hm
  rw[hx] at this;unfold Dv
  (repeat' split) <;>first|exact this|(simp;omega)
 ·have:=h.num _ hm
  rw[hx] at this;unfold Dv
  (repeat' split) <;>first|exact this|(dsimp only;omega)
theorem Dy.bent{N:Nat}:∀(bs:List Bend) (i:Nat) {l:List Row},Dy N l→Dy N (bent i bs l)
 |[],_,_,h=>h
 |b::bs,i,l,h=>by
   rw[Hg.bent];split
   ·exact h
   ·rename_i hc
    exact Dy.bent bs (i+1) (h.FB b fun e=>hc (.inr e))
theorem Nc(D:Nat→Nat):∀(ks:List Nat) (m:Nat),0 < Ew D ks m↔∀k∈ks,0 < D k
 |[],m=>by simp[Ew]
 |k::ks,m=>by
   rw[Ew];by_cases h:D k=0
   ·rw[if_pos h];simp[h]
   ·rw[if_neg h,Nc D ks]
    simp only[List.mem_cons,forall_eq_or_imp];exact⟨fun x=>⟨by omega,x⟩,fun x=>x.2⟩
theorem Ee(l:List Row)(n id:Nat):0 < CQ l (n+1) id↔∀k∈CU l ((atI l id).getD 0),0 < CQ l n k:=by
 rw[CQ,Nc]
theorem Fj(l:List Row):∀(n id:Nat),0 < CQ l n id→0 < CQ l (n+1) id
 |0,id,h=>by simp[CQ] at h
 |n+1,id,h=>by
   rw[Ee] at h⊢;exact fun k hk=>Fj l n k (h k hk)
theorem Ig(l:List Row)(id:Nat):l.find? (fun r=>r.id==id)=(atI l id).bind (fun k=>l[k]?):=by
 unfold atI
 induction l with
 |nil=>rfl
 |cons r l ih=>
   rw[List.find?_cons,List.findIdx?_cons];by_cases h:(r.id==id)=true
   ·simp[h]
   ·simp only[Bool.not_eq_true] at h
    simp only[h,ih,Bool.false_eq_true,if_false];cases List.findIdx? (fun r=>r.id==id) l <;>simp
theorem DR(l:List Row)(id k:Nat)(h:atI l id=some k):AL l id=(rowAt l k).node:=by
 have hk:k < l.length:=by
  unfold atI at h;obtain⟨hk,_⟩:=List.findIdx?_eq_some_iff_getElem.1 h;exact hk
 unfold AL rowAt;rw[Ig,h]
 simp[hk]
theorem Cw(l:List Row)(id:Nat)(h:atI l id=none):AL l id=Node.zero:=by
 unfold AL;rw[Ig,h];rfl
theorem IU(l:List Row)(id:Nat):∀k∈(AL l id).kids,k∈CU l ((atI l id).getD 0):=by
 intro k hk;cases h:atI l id with
 |none=>rw[Cw l id h] at hk;simp[Node.zero] at hk
 |some i=>rw[DR l id i h] at hk;exact hk
def Good(l:List Row)(id:Nat):Prop:=0 < CQ l 200 id
theorem Good.kid{l:List Row}{id k:Nat}(h:Good l id)(hk:k∈CU l ((atI l id).getD 0)):Good l k:=
 Fj l 199 k ((Ee l 199 id).1 h k hk)
theorem Good.kid'{l:List Row}{id k:Nat}(h:Good l id)(hk:k∈(AL l id).kids):Good l k:=h.kid (IU l id k hk)
theorem Kc(l:List Row)(D:Nat→Option Nat)(kind:Nat):∀(ks:List Nat) (m:Nat),(∀k∈ks,∃d,D k=some d)→∃r,Db l D kind ks m=some r
 |[],m,h=>⟨_,rfl⟩
 |k::ks,m,h=>by
   obtain⟨d,hd⟩:=h k (by simp);rw[Db,hd];exact Kc l D kind ks _ fun k' hk'=>h k' (by simp[hk'])
theorem Ik(l:List Row):∀(n id:Nat),0 < CQ l n id→∃d,DU l n id=some d
 |0,id,h=>by simp[CQ] at h
 |n+1,id,h=>by
   rw[DU];exact Kc l _ _ _ _ fun k hk=>Ik l n k ((Ee l n id).1 h k (IU l id k hk))
theorem Jw(l:List Row)(V:Vis→Nat→List Nat→Option Vis):∀(ks seen:List Nat) (v:Vis),(∀k∈ks,∀v seen,∃r,V v k seen=some r)→∃r,Dz l V ks seen v=some r
 |[],seen,v,h=>⟨_,rfl⟩
 |k::ks,seen,v,h=>by
   obtain⟨d,hd⟩:=h k (by simp) v seen;rw[Dz,hd];exact Jw l V ks _ _ fun k' hk'=>h k' (by simp[hk'])
theorem LY(l:List Row)(fn:Nat):∀(n:Nat) (v:Vis) (id:Nat) (seen:List Nat),0 < CQ l n id→∃d,Cz l fn n v id seen=some d
 |0,v,id,seen,h=>by simp[CQ] at h
 |n+1,v,id,seen,h=>by
   rw[Cz];exact Jw l _ _ _ _ fun k hk v seen=>LY l fn n v k seen ((Ee l n id).1 h k (IU l id k hk))
theorem Gp(l:List Row)(P:Nat→Prop)(hP:∀i k,P i→atI l i=some k→∀c∈CU l k,P c):∀(f:Nat) (wait out r:List Nat),EA l f wait out=some r→(∀i∈wait,P i)→
 (∀i∈out,P i∧(atI l i).isSome=true)→out.Nodup→(∀i∈r,P i∧(atI l i).isSome=true)∧r.Nodup
 |0,wait,out,r,h,_,_,_=>by simp[EA] at h
 |f+1,[],out,r,h,hw,ho,hn=>by
   rw[EA] at h;injection h with h;subst h;exact⟨ho,hn⟩
 |f+1,i::wait,out,r,h,hw,ho,hn=>by
   rw[EA] at h;have hi:=hw i (by simp);have hw':∀j∈wait,P j:=fun j hj=>hw j (by simp[hj]);cases hk:atI l i with
   |none=>rw[hk] at h;exact Gp l P hP f _ _ _ h hw' ho hn
   |some k=>
     rw[hk] at h;dsimp only at h;by_cases hin:isIn out i=true
     ·rw[if_pos hin] at h;exact Gp l P hP f _ _ _ h hw' ho hn
     ·rw[if_neg hin] at h
      refine Gp l P hP f _ _ _ h (fun j hj=> ?_) (fun j hj=> ?_) ?_
      ·rcases List.mem_append.1 hj with hj|hj
       ·exact hP i k hi hk j hj
       ·exact hw' j hj
      ·rcases List.mem_append.1 hj with hj|hj
       ·exact ho j hj
       ·simp at hj;subst hj;exact⟨hi,by rw[hk];rfl⟩
      ·rw[List.nodup_append]
       refine⟨hn,by simp,fun a ha b hb=> ?_⟩;simp at hb;subst hb;intro e;subst e;unfold isIn at hin;rw[List.contains_iff_mem] at hin;exact hin ha
theorem Py(l:List Row)(id:Nat)(P:Nat→Prop)(hP:∀i k,P i→atI l i=some k→∀c∈CU l k,P c)(h:P id):(∀i∈walk l id,P i∧(atI l i).isSome=true)∧(walk l id).Nodup:=
 Gp l P hP _ _ _ _ (O7 l id) (fun i hi=>by simp at hi;subst hi;exact h) (fun i hi=>by simp at hi) List.nodup_nil
theorem WJ:∀(a b:List Nat),a.Nodup→(∀x∈a,x∈b)→b.length≤a.length→∀y∈b,y∈a
 |[],b,hn,hs,hl=>fun y hy=>by
   have:b=[]:=List.eq_nil_of_length_eq_zero (by simpa using hl);rw[this] at hy;exact hy
 |x::a,b,hn,hs,hl=>fun y hy=>by
   rw[List.nodup_cons] at hn;by_cases e:y=x
   ·simp[e]
   ·have hx:=hs x (by simp)
    have hlen:=List.length_erase_of_mem hx;have hpos:0 < b.length:=List.length_pos_of_mem hx;have:=WJ a (b.erase x) hn.2 (fun z hz=>by
     have hzx:z≠x:=fun e=>hn.1 (e ▸ hz);exact(List.mem_erase_of_ne hzx).2 (hs z (by simp[hz]))) (by simp at hl;omega) y ((List.mem_erase_of_ne e).2 hy)
    simp[this]
theorem MS(l:List Row)(id:Nat):(atI l id).isSome=true↔id∈l.map (fun r=>r.id):=by
 unfold atI;rw[List.findIdx?_isSome]
 simp[List.any_eq_true]
theorem Mc(l:List Row)(id:Nat):(walk l id).length≤l.length:=by
 obtain⟨h1,h2⟩:=Py l id (fun _=>True) (fun _ _ _ _ _ _=>trivial) trivial;rcases Nat.lt_or_ge l.length (walk l id).length with h|h
 ·exfalso
  have hs:∀x∈walk l id,x∈l.map (fun r=>r.id):=fun x hx=>(MS l x).1 (h1 x hx).2;have key:∀(a b:List Nat),a.Nodup→(∀x∈a,x∈b)→a.length≤b.length:=by
   intro a
   induction a with
   |nil=>intro b _ _;simp
   |cons x a ih=>
     intro b hn hs;rw[List.nodup_cons] at hn;have hx:=hs x (by simp);have hlen:=List.length_erase_of_mem hx;have hpos:0 < b.length:=List.length_pos_of_mem hx;have:=ih (b.erase x) hn.2 fun z hz=>by
      have hzx:z≠x:=fun e=>hn.1 (e ▸ hz);exact(List.mem_erase_of_ne hzx).2 (hs z (by simp[hz]))
     simp;omega
  have:=key _ _ h2 hs;simp at this;omega
 ·exact h
theorem Iz{l:List Row}(h:tree l=true):Good l 1∧∀r∈l,Good l r.id:=by
 unfold tree at h;cases hk:atI l 1 with
 |none=>rw[hk] at h;simp at h
 |some k=>
   rw[hk] at h;dsimp only at h;by_cases hc:(rowAt l k).node.kind≠1∨(walk l 1).length≠l.length
   ·rw[if_pos hc] at h;simp at h
   ·rw[if_neg hc] at h
    cases ht:CG l l 0 with
    |none=>rw[ht] at h;simp at h
    |some n=>
      rw[ht] at h;simp only[Bool.and_eq_true,decide_eq_true_eq] at h;have hg:Good l 1:=h.2;have hlen:(walk l 1).length=l.length:=Classical.byContradiction fun x=>hc (.inr x);obtain⟨h1,h2⟩:=Py l 1 (Good l) (fun i k hi hk c hc=>hi.kid (by rw[hk];exact hc)) hg;refine⟨hg,fun r hr=>(h1 r.id ?_).1⟩;exact WJ (walk l 1) (l.map (fun r=>r.id)) h2 (fun x hx=>(MS l x).1 (h1 x hx).2) (by simp[hlen]) r.id (List.mem_map.2 ⟨r,hr,rfl⟩)
theorem H5(l:List Row):∀(rs:List Row),(∀r∈rs,Good l r.id)→∃b,Bv l rs=some b
 |[],h=>⟨_,rfl⟩
 |r::rs,h=>by
   rw[Bv];have ih:=H5 l rs fun r' hr'=>h r' (by simp[hr']);by_cases hk:r.node.kind=3
   ·rw[if_pos hk]
    obtain⟨d,hd⟩:=Ik l 201 r.id (Fj l 200 _ (h r (by simp)));rw[hd];dsimp only;by_cases h9:90 < d
    ·rw[if_pos h9];exact⟨_,rfl⟩
    ·rw[if_neg h9];exact ih
   ·rw[if_neg hk];exact ih
theorem QM(l:List Row):∃b,shaped l=some b:=by
 unfold shaped;cases ht:tree l
 ·exact⟨_,rfl⟩
 ·rw[if_neg (by simp)]
  by_cases hs:Bp l l=false
  ·rw[if_pos hs];exact⟨_,rfl⟩
  ·rw[if_neg hs]
   exact H5 l l (Iz ht).2
theorem QK{l:List Row}(h:shaped l=some true):tree l=true:=by
 unfold shaped at h;cases ht:tree l
 ·rw[ht] at h;simp at h
 ·rfl
theorem JW(l:List Row):∀(fs:List Nat) (fn:List Str) (a:Alls),(∀f∈fs,Good l f)→∃r,Cy l fs fn a=some r
 |[],fn,a,h=>⟨_,rfl⟩
 |f::fs,fn,a,h=>by
   rw[Cy];obtain⟨v,hv⟩:=LY l f 201 a.vis f [] (Fj l 200 _ (h f (by simp)));rw[hv];exact JW l fs _ _ fun f' hf'=>h f' (by simp[hf'])
theorem Kk(l:List Row):∀(ms:List Nat) (mn:List Str) (a:Alls),(∀m∈ms,Good l m)→∃r,D7 l ms mn a=some r
 |[],mn,a,h=>⟨_,rfl⟩
 |m::ms,mn,a,h=>by
   rw[D7];obtain⟨r,hr⟩:=JW l (AL l m).kids [] a fun f hf=>(h m (by simp)).kid' hf;rw[hr];exact Kk l ms _ _ fun f' hf'=>h f' (by simp[hf'])
theorem Xa{l:List Row}(h:tree l=true):∃a,IA l=some a:=by
 obtain⟨r,hr⟩:=Kk l (AL l 1).kids [] ⟨false,⟨false,false⟩⟩ fun m hm=>(Iz h).1.kid' hm;unfold IA;rw[hr];exact⟨_,rfl⟩
theorem Gw(l:List Row):∃r,D5 l=some r:=by
 unfold D5;obtain⟨b,hb⟩:=QM l;rw[hb];cases b with
 |false=>exact⟨_,rfl⟩
 |true=>
   obtain⟨a,ha⟩:=Xa (QK hb);dsimp only;rw[ha];exact⟨_,rfl⟩
theorem V8(f i:Nat)(acc:List Tok):BG f i [] acc=some acc:=by cases f <;>rfl
section
variable {f i:Nat} {c:UInt8} {r:Str} {acc:List Tok}
theorem Rq(h:cls c=3):BG (f+1) i (c::r) acc=BG f (i+1) r acc:=by
 simp only[BG,h,if_true]
theorem PI(h:cls c≠3)(h':c.toNat=35):BG (f+1) i (c::r) acc=
 BG f (i+((c::r).takeWhile (fun b=>b.toNat !=10)).length) ((c::r).drop ((c::r).takeWhile (fun b=>b.toNat !=10)).length) acc:=by
 simp only[BG,h,h',if_true,if_false]
theorem Uh(h:cls c≠3)(h':c.toNat≠35)(h0:0 < cls c){w:Str}(hw:(c::r).takeWhile Ba=w)(hm:inL words w=true):BG (f+1) i (c::r) acc=
 BG f (i+w.length) ((c::r).drop w.length) (acc++[⟨3,w,i⟩]):=by
 simp only[BG,h,h',h0,if_true,if_false,hw,hm]
theorem Ui(h:cls c≠3)(h':c.toNat≠35)(h0:0 < cls c){w:Str}(hw:(c::r).takeWhile Ba=w)(hm:inL words w=false)(hn:Cb w=true):BG (f+1) i (c::r) acc=
 BG f (i+w.length) ((c::r).drop w.length) (acc++[⟨1,w,i⟩]):=by
 simp only[BG,h,h',h0,if_true,if_false,hw,hm,hn];rfl
theorem QO(h:cls c≠3)(h':c.toNat≠35)(h0:0 < cls c){w:Str}(hw:(c::r).takeWhile Ba=w)(hm:inL words w=false)(hn:Cb w=false)(hv:0≤CK w):BG (f+1) i (c::r) acc=
 BG f (i+w.length) ((c::r).drop w.length) (acc++[⟨2,w,i⟩]):=by
 simp only[BG,h,h',h0,if_true,if_false,hw,hm,hn,hv];rfl
theorem V9(h:cls c≠3)(h':c.toNat≠35)(h0:0 < cls c){w:Str}(hw:(c::r).takeWhile Ba=w)(hm:inL words w=false)(hn:Cb w=false)(hv:¬0≤CK w):BG (f+1) i (c::r) acc=none:=by
 simp only[BG,h,h',h0,if_true,if_false,hw,hm,hn,hv];rfl
theorem Rp(h:cls c≠3)(h':c.toNat≠35)(h0:¬0 < cls c)(h2:2≤(c::r).length)(hm:inL signs ((c::r).take 2)=true):BG (f+1) i (c::r) acc=
 BG f (i+2) ((c::r).drop 2) (acc++[⟨4,(c::r).take 2,i⟩]):=by
 have hl:((c::r).take 2).length=2:=by rw[List.length_take];omega
 simp only[BG,h,h',h0,if_false,hm,h2,and_self,if_true,hl]
theorem Mr(h:cls c≠3)(h':c.toNat≠35)(h0:¬0 < cls c)(h2:¬(inL signs ((c::r).take 2)=true∧2≤(c::r).length))(hm:inL signs ((c::r).take 1)=true):BG (f+1) i (c::r) acc=
 BG f (i+1) ((c::r).drop 1) (acc++[⟨4,(c::r).take 1,i⟩]):=by
 have hl:((c::r).take 1).length=1:=by simp
 simp only[BG,h,h',h0,if_false,h2,hm,if_true,hl]
theorem Ti(h:cls c≠3)(h':c.toNat≠35)(h0:¬0 < cls c)(h2:¬(inL signs ((c::r).take 2)=true∧2≤(c::r).length))(hm:inL signs ((c::r).take 1)=false):BG (f+1) i (c::r) acc=none:=by
 simp only[BG,h,h',h0,if_false,h2,hm];rfl
end
theorem JK(s:Str)(p:UInt8→Bool)(i k:Nat)(hi:i≤k)(hk:k≤s.length)(hin:∀j,i≤j→j < k→(hj:j < s.length)→p s[j]=true)
 (hend:k=s.length∨∃h:k < s.length,p s[k]=false):(s.drop i).takeWhile p=(s.drop i).take (k-i)∧((s.drop i).takeWhile p).length=k-i:=by
 have key:∀(n:Nat) (t:Str),n≤t.length→(∀j,j < n→(hj:j < t.length)→p t[j]=true)→(n=t.length∨∃h:n < t.length,p t[n]=false)→t.takeWhile p=t.take n:=by
  intro n
  induction n with
  |zero=>
    intro t _ _ h;rcases h with h|⟨h,h'⟩
    ·have:t=[]:=List.eq_nil_of_length_eq_zero h.symm
     subst this;rfl
    ·cases t with
     |nil=>simp at h
     |cons c r=>simp only[List.getElem_cons_zero] at h';simp[List.takeWhile_cons,h']
  |succ n ih=>
    intro t hn hin h;cases t with
    |nil=>simp at hn
    |cons c r=>
      have h0:=hin 0 (by omega) (by simp);simp only[List.getElem_cons_zero] at h0;rw[List.takeWhile_cons,h0,List.take_succ_cons];simp only[if_true];rw[ih r (by simpa using hn) (fun j hj hj2=>by have:=hin (j+1) (by omega) (by simp;omega);simpa using this) (by
       rcases h with h|⟨h,h'⟩
       ·left;simpa using h
       ·right;exact⟨by simpa using h,by simpa using h'⟩)]
 have h1:=key (k-i) (s.drop i) (by rw[List.length_drop];omega) (fun j hj hj2=>by
  rw[List.getElem_drop];exact hin (i+j) (by omega) (by omega) (by rw[List.length_drop] at hj2;omega)) (by
  rcases hend with h|⟨h,h'⟩
  ·left;rw[List.length_drop];omega
  ·right;refine⟨by rw[List.length_drop];omega, ?_⟩
   rw[List.getElem_drop];have:i+(k-i)=k:=by omega
   simp only[this];exact h')
 refine⟨h1, ?_⟩;rw[h1,List.length_take,List.length_drop];omega
namespace Rd
structure Grow (s s':Rd):Prop where
 L:s'.L=s.L
 at_:s.at_≤s'.at_
 bad:s.bad=true→s'.bad=true
 rows:∀(k:Nat) (r:Row),s.rows[k]? =some r→∃r',s'.rows[k]? =some r'∧r'.id=r.id∧r.node.kids.length≤r'.node.kids.length
 len:s.rows.length≤s'.rows.length
theorem Grow.refl(s:Rd):Grow s s:=⟨rfl,AA,id,fun k r h=>⟨r,h,rfl,AA⟩,AA⟩
theorem Grow.trans{a b c:Rd}(h:Grow a b)(k:Grow b c):Grow a c:=
 ⟨k.L.trans h.L, AO h.at_ k.at_, fun hb => k.bad (h.bad hb), fun i r hr => by
  obtain⟨r1,h1,h2,h3⟩:=h.rows i r hr;obtain⟨r2,k1,k2,k3⟩:=k.rows i r1 h1;exact⟨r2,k1,k2.trans h2,AO h3 k3⟩,AO h.len k.len⟩
structure Inv (s:Rd):Prop where
 mods:s.mods.length≤s.rows.length
 funcs:s.funcs.length≤s.rows.length
 ids:s.ids.length=s.funcs.length
 calls:s.calls.length≤s.rows.length
 wants:s.wants.length=s.calls.length
 used:s.used.length≤s.rows.length
 seen:s.seen.length≤s.used.length
 kids:∀(k:Nat) (r:Row),s.rows[k]? =some r→r.node.kids.length≤s.rows.length
 rid:∀(k:Nat) (r:Row),s.rows[k]? =some r→r.id=k+1
 callr:∀c∈s.calls,0 < c∧c≤s.rows.length
theorem Fg{l:List Row}{k i:Nat}{f:Row→Row}{r:Row}(h:l[i]? =some r):(l.modify k f)[i]? =some (if k=i then f r else r):=by
 rw[List.getElem?_modify,h];by_cases e:k=i <;>simp[e]
theorem EI{l:List Row}{k i:Nat}{f:Row→Row}{r':Row}(h:(l.modify k f)[i]? =some r'):∃r,l[i]? =some r∧r'=if k=i then f r else r:=by
 rw[List.getElem?_modify] at h;cases hl:l[i]? with
 |none=>rw[hl] at h;by_cases e:k=i <;>simp[e] at h
 |some r=>
   rw[hl] at h;refine⟨r,rfl, ?_⟩;by_cases e:k=i
   ·simp[e] at h⊢;exact h.symm
   ·simp[e] at h⊢;exact h.symm
section
variable {s:Rd}
theorem Bq{s':Rd}(hL:s'.L=s.L)(ha:s.at_≤s'.at_)(hb:s.bad=true→s'.bad=true)(hr:s'.rows=s.rows):Grow s s':=
 ⟨hL,ha,hb,fun k r h=>⟨r,by rw[hr];exact h,rfl,AA⟩,by rw[hr];exact AA⟩
theorem EU{s':Rd}(h:Inv s)(h1:s'.rows=s.rows)(h2:s'.mods=s.mods)(h3:s'.funcs=s.funcs)(h4:s'.ids=s.ids)(h5:s'.calls=s.calls)(h6:s'.wants=s.wants)(h7:s'.used=s.used)(h8:s'.seen.length≤s.seen.length):Inv s':=
 ⟨by rw [h1, h2]; exact h.mods, by rw [h1, h3]; exact h.funcs, by rw [h3, h4]; exact h.ids, by rw [h1, h5]; exact h.calls, by rw [h5, h6]; exact h.wants, by rw [h1, h7]; exact h.used, by rw [h7]; exact AO h8 h.seen,
  by rw[h1];exact h.kids,by rw[h1];exact h.rid,by rw[h1,h5];exact h.callr⟩
theorem grow_step(s:Rd):Grow s s.step:=Bq rfl (Nat.le_succ _) id rfl
theorem IZ(s:Rd):Grow s s.setBad:=Bq rfl AA (fun _=>rfl) rfl
theorem Cg(s:Rd)(t:Str):Grow s (s.need t):=by unfold need;split <;>first|exact grow_step s|exact IZ s
theorem LH(s:Rd):Grow s s.name:=by unfold name;split <;>first|exact IZ s|exact grow_step s
theorem NT(s:Rd):Grow s s.typed.2:=by unfold typed;split <;>first|exact grow_step s|exact Cg s _
theorem SQ(s:Rd)(e:Nat):Grow s (s.fault e):=by unfold fault;split <;>first|exact Bq rfl AA id rfl|exact Grow.refl s
theorem DD(s:Rd):Grow s s.enter:=by
 unfold enter;dsimp only;split
 ·exact Bq rfl AA (fun _=>rfl) rfl
 ·exact Bq rfl AA id rfl
theorem DC(s:Rd):Grow s s.leave:=Bq rfl AA id rfl
theorem Oi(s:Rd):Grow s s.shut:=Bq rfl AA id rfl
theorem Ep(s:Rd)(k:Nat)(f:Row→Row)(hid:∀r,(f r).id=r.id)(hk:∀r,r.node.kids.length≤(f r).node.kids.length):Grow s {s with rows:=s.rows.modify k f}:=
 ⟨rfl, AA, id, fun i r h => by
  refine⟨_,Fg h, ?_, ?_⟩
  ·(split <;>first|exact hid r|exact rfl)
  ·(split <;>first|exact hk r|exact AA),by simp⟩
theorem Hd(s:Rd)(k t:Nat):Grow s (s.BA k t):=Ep s k _ (fun _=>rfl) (fun _=>AA)
theorem Lp(s:Rd)(k t:Nat):Grow s (s.DL k t):=Ep s k _ (fun _=>rfl) (fun _=>AA)
theorem Q0(s:Rd)(k:Nat)(n:Int):Grow s (s.CX k n):=Ep s k _ (fun _=>rfl) (fun _=>AA)
theorem Oj(s:Rd)(r:Row):Grow s {s with rows:=s.rows++[r]}:=
 ⟨rfl,AA,id,fun k r' h=>⟨r',by rw[List.getElem?_append_left (Af.1 h).1];exact h,rfl,AA⟩,by simp⟩
theorem FL(s:Rd)(u:Nat)(n:Node):Grow s (s.node u n):=by
 unfold node;dsimp only;split
 ·exact(Oj s ⟨s.rows.length+1,n⟩).trans (Ep _ u (fun x=>{x with node:={x.node with kids:=x.node.kids++[s.rows.length+1]}}) (fun _=>rfl) (fun r=>by simp))
 ·exact Oj s _
theorem BK(s:Rd)(u:Nat)(n:Node):(s.node u n).rows.length=s.rows.length+1:=by
 unfold node;dsimp only;split <;>simp[Ef]
theorem He(s:Rd)(t:Str)(k:Nat):Grow s (s.declare t k):=by
 unfold declare;dsimp only;split
 ·exact(SQ s 10).trans (Bq rfl AA id rfl)
 ·exact Bq rfl AA id rfl
end
theorem JU{s s':Rd}(h:Inv s)(g:Grow s s')(hk:∀(k:Nat) (r:Row),s'.rows[k]? =some r→r.node.kids.length≤s'.rows.length)(hid:∀(k:Nat) (r:Row),s'.rows[k]? =some r→r.id=k+1)
 (h2:s'.mods=s.mods) (h3:s'.funcs=s.funcs) (h4:s'.ids=s.ids) (h5:s'.calls=s.calls) (h6:s'.wants=s.wants) (h7:s'.used=s.used) (h8:s'.seen=s.seen):Inv s':=
 ⟨by rw [h2]; exact AO h.mods g.len, by rw [h3]; exact AO h.funcs g.len, by rw [h3, h4]; exact h.ids, by rw [h5]; exact AO h.calls g.len, by rw [h5, h6]; exact h.wants,
  by rw[h7];exact AO h.used g.len,by rw[h7,h8];exact h.seen,hk,hid,fun c hc=>by rw[h5] at hc;have:=h.callr c hc;have:=g.len;omega⟩
theorem Qx{s:Rd}(h:Inv s)(u:Nat)(n:Node)(hn:n.kids=[]):Inv (s.node u n):=by
 have hg:=FL s u n;have hl:=BK s u n;have push:∀(k:Nat) (r:Row),(s.rows++[⟨s.rows.length+1,n⟩])[k]? =some r→r.node.kids.length≤s.rows.length∧r.id=k+1:=by
  intro k r hr;by_cases hk:k < s.rows.length
  ·rw[List.getElem?_append_left hk] at hr
   exact⟨h.kids k r hr,h.rid k r hr⟩
  ·rw[List.getElem?_append_right (by omega)] at hr
   by_cases e:k-s.rows.length=0
   ·rw[e] at hr
    simp only[List.getElem?_cons_zero,Option.some.injEq] at hr;subst hr;exact⟨by simp[hn],by simp;omega⟩
   ·rw[List.getElem?_eq_none (by simp;omega)] at hr;cases hr
 have all:∀(k:Nat) (r:Row),(s.node u n).rows[k]? =some r→r.node.kids.length≤s.rows.length+1∧r.id=k+1:=by
  intro k r hr;unfold node at hr;dsimp only at hr
  split at hr
  ·obtain⟨r0,h0,he⟩:=EI hr
   obtain⟨p1,p2⟩:=push k r0 h0;subst he;split
   ·exact⟨by simp;omega,p2⟩
   ·exact⟨by omega,p2⟩
  ·obtain⟨p1,p2⟩:=push k r hr
   exact⟨by omega,p2⟩
 refine JU h hg (fun k r hr=>by rw[hl];exact(all k r hr).1) (fun k r hr=>(all k r hr).2) ?_ ?_ ?_ ?_ ?_ ?_ ?_
 all_goals rfl
theorem Jj{s:Rd}(h:Inv s)(k:Nat)(f:Row→Row)(hid:∀r,(f r).id=r.id)(hk:∀r,(f r).node.kids=r.node.kids):Inv {s with rows:=s.rows.modify k f}:=by
 refine JU h (Ep s k f hid (fun r=>by rw[hk];exact AA)) (fun i r hr=> ?_) (fun i r hr=> ?_) rfl rfl rfl rfl rfl rfl rfl
 ·obtain⟨r0,h0,he⟩:=EI hr
  have:=h.kids i r0 h0;subst he;simp only[List.length_modify];split
  ·rw[hk];exact this
  ·exact this
 ·obtain⟨r0,h0,he⟩:=EI hr
  have:=h.rid i r0 h0;subst he;split
  ·rw[hid];exact this
  ·exact this
structure Ak (s s':Rd):Prop where
 grow:Grow s s'
 inv:Inv s→Inv s'
 deep:s'.deep=s.deep
 level:s'.level=s.level
 used:s'.used=s.used
 seen:s'.seen=s.seen
 mods:s'.mods=s.mods
 funcs:s'.funcs=s.funcs
 ids:s'.ids=s.ids
theorem Ak.refl(s:Rd):Ak s s:=⟨Grow.refl s,id,rfl,rfl,rfl,rfl,rfl,rfl,rfl⟩
theorem Ak.trans{a b c:Rd}(h:Ak a b)(k:Ak b c):Ak a c:=
 ⟨h.grow.trans k.grow,fun x=>k.inv (h.inv x),k.deep.trans h.deep,k.level.trans h.level,k.used.trans h.used,k.seen.trans h.seen,k.mods.trans h.mods,k.funcs.trans h.funcs,k.ids.trans h.ids⟩
theorem BN(s:Rd):Ak s s.step:=⟨grow_step s,fun h=>EU h rfl rfl rfl rfl rfl rfl rfl AA,rfl,rfl,rfl,rfl,rfl,rfl,rfl⟩
theorem Gg(s:Rd):Ak s s.setBad:=⟨IZ s,fun h=>EU h rfl rfl rfl rfl rfl rfl rfl AA,rfl,rfl,rfl,rfl,rfl,rfl,rfl⟩
theorem Al(s:Rd)(t:Str):Ak s (s.need t):=by unfold need;split <;>first|exact BN s|exact Gg s
theorem Co(s:Rd):Ak s s.name:=by unfold name;split <;>first|exact Gg s|exact BN s
theorem Fh(s:Rd):Ak s s.typed.2:=by unfold typed;split <;>first|exact BN s|exact Al s _
theorem Ih(s:Rd)(e:Nat):Ak s (s.fault e):=by
 unfold fault;split
 ·exact⟨Bq rfl AA id rfl,fun h=>EU h rfl rfl rfl rfl rfl rfl rfl AA,rfl,rfl,rfl,rfl,rfl,rfl,rfl⟩
 ·exact Ak.refl s
theorem MO(s:Rd)(t:Str):Ak s (s.find t).2:=by unfold find;split <;>first|exact Ak.refl s|exact Ih s _
theorem Av(s:Rd)(u:Nat)(n:Node)(hn:n.kids=[]):Ak s (s.node u n):=⟨FL s u n,fun h=>Qx h u n hn,rfl,rfl,rfl,rfl,rfl,rfl,rfl⟩
theorem FO(s:Rd)(k t:Nat):Ak s (s.DL k t):=⟨Lp s k t,fun h=>Jj h k _ (fun _=>rfl) (fun _=>rfl),rfl,rfl,rfl,rfl,rfl,rfl,rfl⟩
theorem LM(s:Rd)(k:Nat)(t:Int):Ak s (s.CX k t):=⟨Q0 s k t,fun h=>Jj h k _ (fun _=>rfl) (fun _=>rfl),rfl,rfl,rfl,rfl,rfl,rfl,rfl⟩
theorem EK(s:Rd)(k t:Nat):Ak s (s.BA k t):=⟨Hd s k t,fun h=>Jj h k _ (fun _=>rfl) (fun _=>rfl),rfl,rfl,rfl,rfl,rfl,rfl,rfl⟩
theorem FN{s s':Rd}(h:Ak s.enter s'):Ak s s'.leave:=by
 have hd:s.enter.deep=s.deep+1:=by unfold enter;dsimp only;split <;>rfl
 have hi:Inv s→Inv s.enter:=fun h=>by unfold enter;dsimp only;split <;>exact EU h rfl rfl rfl rfl rfl rfl rfl AA
 have he:s.enter.level=s.level∧s.enter.used=s.used∧s.enter.seen=s.seen∧s.enter.mods=s.mods∧s.enter.funcs=s.funcs∧s.enter.ids=s.ids:=by
  unfold enter;dsimp only;split <;>exact⟨rfl,rfl,rfl,rfl,rfl,rfl⟩
 refine⟨((DD s).trans h.grow).trans (DC s'),fun x=> ?_, ?_,h.level.trans he.1,h.used.trans he.2.1,h.seen.trans he.2.2.1,h.mods.trans he.2.2.2.1,h.funcs.trans he.2.2.2.2.1,h.ids.trans he.2.2.2.2.2⟩
 ·exact EU (h.inv (hi x)) rfl rfl rfl rfl rfl rfl rfl AA
 ·show s'.deep-1=s.deep
  rw[h.deep,hd];omega
theorem Oh(s:Rd)(u:Nat)(n:Node):(s.node u n).idAt s.rows.length=s.rows.length+1:=by
 unfold idAt node;dsimp only;split
 ·have:=Fg (k:=u) (f:=fun x:Row=>{x with node:={x.node with kids:=x.node.kids++[s.rows.length+1]}}) (show(s.rows++[⟨s.rows.length+1,n⟩])[s.rows.length]? =some ⟨s.rows.length+1,n⟩ by simp)
  unfold Ef;rw[this];simp only[Option.map_some,Option.getD_some]
  split <;>rfl
 ·simp
end Rd
end Hg
namespace Hg
namespace Rd
theorem XG{s a s':Rd}{c:Nat}{t:Str}(A:Ak s a)(hr:s.rows.length < a.rows.length)(hcalls:a.calls=s.calls)(hw:a.wants=s.wants)(hc:0 < c∧c≤a.rows.length)
 (B:Ak {a with calls:=a.calls++[c],wants:=a.wants++[t]} s'):Ak s s':=by
 refine⟨(A.grow.trans (Bq (s:=a) (s':={a with calls:=a.calls++[c],wants:=a.wants++[t]}) rfl AA id rfl)).trans B.grow,fun h=>B.inv ?_,B.deep.trans A.deep,B.level.trans A.level,B.used.trans A.used,B.seen.trans A.seen,B.mods.trans A.mods,B.funcs.trans A.funcs,B.ids.trans A.ids⟩;have ha:=A.inv h;refine⟨ha.mods,ha.funcs,ha.ids, ?_, ?_,ha.used,ha.seen,ha.kids,ha.rid,fun x hx=> ?_⟩
 ·have:=h.calls;simp[hcalls];omega
 ·simp[ha.wants]
 ·rcases List.mem_append.1 hx with hx|hx
  ·exact ha.callr x hx
  ·simp at hx;subst hx;exact hc
theorem EL(s:Rd)(t:Str):(s.need t).calls=s.calls∧(s.need t).wants=s.wants∧(s.need t).rows=s.rows:=by unfold need;split <;>exact⟨rfl,rfl,rfl⟩
theorem Ck(s:Rd):s.name.calls=s.calls∧s.name.wants=s.wants∧s.name.rows=s.rows:=by unfold name;split <;>exact⟨rfl,rfl,rfl⟩
theorem Og{s s':Rd}(h:s'.rows=s.rows)(k:Nat):s'.idAt k=s.idAt k:=by unfold idAt;rw[h]
theorem Cm(k:Nat):(nd k).kids=[]:=rfl
theorem ES(k:Nat)(s:Str):(Ac k s).kids=[]:=rfl
theorem NP(k:Nat)(n:Int):(Lj k n).kids=[]:=rfl
theorem CF(f:Nat):(∀s u s',expr f s u=some s'→Ak s s')∧(∀s u m s',call f s u m=some s'→Ak s s')∧(∀b s n s',args f b s n=some s'→Ak s s'):=by
 induction f with
 |zero=>exact⟨fun _ _ _ h=>by simp[expr] at h,fun _ _ _ _ h=>by simp[call] at h,fun _ _ _ _ h=>by simp[args] at h⟩
 |succ f ih=>
   obtain⟨ihe,ihc,iha⟩:=ih;refine⟨fun s u s' h=> ?_,fun s u m s' h=> ?_,fun b s n s' h=> ?_⟩
   ·rw[expr] at h
    by_cases h2:s.text 2≠[]
    ·rw[if_pos h2] at h
     injection h with h;subst h;exact(BN s).trans (Av _ _ _ (NP _ _))
    rw[if_neg h2] at h;by_cases h1:s.text 1≠[]
    ·rw[if_pos h1] at h
     dsimp only at h;by_cases hd:s.step.next [46]=true
     ·rw[if_pos hd] at h
      exact(BN s).trans (ihc _ _ _ _ h)
     ·rw[if_neg hd] at h
      injection h with h;subst h;exact(((BN s).trans (Av _ _ _ (Cm _))).trans (MO _ _)).trans (FO _ _ _)
    rw[if_neg h1] at h;by_cases ht:s.next Ju=true
    ·rw[if_pos ht] at h
     injection h with h;subst h;exact(BN s).trans (Av _ _ _ (NP _ _))
    rw[if_neg ht] at h;by_cases hf:s.next Gq=true
    ·rw[if_pos hf] at h
     injection h with h;subst h;exact(BN s).trans (Av _ _ _ (Cm _))
    rw[if_neg hf] at h;by_cases hr:s.next Jv=true
    ·rw[if_pos hr] at h
     injection h with h;subst h;exact(BN s).trans (Av _ _ _ (Cm _))
    rw[if_neg hr] at h;by_cases hn:s.next [33]=true∨s.next [45]=true
    ·rw[if_pos hn] at h
     dsimp only at h;generalize hk:(if s.next [33]=true then 16 else 17)=kind at h;by_cases hb:(s.step.node u (nd kind)).enter.bad=true
     ·rw[if_pos hb] at h
      injection h with h;subst h;exact((BN s).trans (Av _ _ _ (Cm _))).trans (FN (Ak.refl _))
     ·rw[if_neg hb] at h
      cases he:expr f (s.step.node u (nd kind)).enter s.rows.length with
      |none=>rw[he] at h;simp at h
      |some s1=>
        rw[he] at h;injection h with h;subst h;exact((BN s).trans (Av _ _ _ (Cm _))).trans (FN (ihe _ _ _ he))
    rw[if_neg hn] at h;by_cases hp:s.next [40]=true
    ·rw[if_pos hp] at h
     dsimp only at h;by_cases hb:(s.step.node u (nd 18)).enter.bad=true
     ·rw[if_pos hb] at h
      injection h with h;subst h;exact((BN s).trans (Av _ _ _ (Cm _))).trans (FN (Ak.refl _))
     ·rw[if_neg hb] at h
      cases he:expr f (s.step.node u (nd 18)).enter s.rows.length with
      |none=>rw[he] at h;simp at h
      |some s1=>
        rw[he] at h;dsimp only at h;have e1:Ak (s.step.node u (nd 18)).enter ((if opOf (s1.text 4)=0 then(s1.CX s.rows.length (opOf (s1.text 4):Nat)).setBad else s1.CX s.rows.length (opOf (s1.text 4):Nat)).step):=by
         refine(ihe _ _ _ he).trans (Ak.trans ?_ (BN _));split
         ·exact(LM _ _ _).trans (Gg _)
         ·exact LM _ _ _
        cases he2:expr f ((if opOf (s1.text 4)=0 then(s1.CX s.rows.length (opOf (s1.text 4):Nat)).setBad else s1.CX s.rows.length (opOf (s1.text 4):Nat)).step) s.rows.length with
        |none=>rw[he2] at h;simp at h
        |some s2=>
          rw[he2] at h;injection h with h;subst h;exact((BN s).trans (Av _ _ _ (Cm _))).trans (FN ((e1.trans (ihe _ _ _ he2)).trans (Al _ _)))
    rw[if_neg hp] at h;injection h with h;subst h;exact Gg s
   ·rw[call] at h
    try dsimp only at h
    have hrn:((s.node u (nd 19)).need [46]).name.rows=(s.node u (nd 19)).rows:=(Ck _).2.2.trans (EL _ _).2.2;have hid:((s.node u (nd 19)).need [46]).name.idAt s.rows.length=s.rows.length+1:=(Og hrn _).trans (Oh s u _);have A:Ak s ((s.node u (nd 19)).need [46]).name:=((Av s u _ (Cm _)).trans (Al _ _)).trans (Co _);have hl:((s.node u (nd 19)).need [46]).name.rows.length=s.rows.length+1:=by rw[hrn,BK]
    refine XG (c:=((s.node u (nd 19)).need [46]).name.idAt s.rows.length) (t:=m++[32]++((s.node u (nd 19)).need [46]).text 1) A (by omega) ((Ck _).1.trans (EL _ _).1) ((Ck _).2.1.trans (EL _ _).2.1) (by rw[hid,hl];omega) ?_;generalize({((s.node u (nd 19)).need [46]).name with calls:=((s.node u (nd 19)).need [46]).name.calls++[((s.node u (nd 19)).need [46]).name.idAt s.rows.length],wants:=((s.node u (nd 19)).need [46]).name.wants++[m++[32]++((s.node u (nd 19)).need [46]).text 1]}:Rd)=b at h⊢;by_cases hb:b.enter.bad=true
    ·rw[if_pos hb] at h
     injection h with h;subst h;exact FN (Ak.refl _)
    ·rw[if_neg hb] at h
     cases he:args f true (b.enter.need [40]) s.rows.length with
     |none=>rw[he] at h;simp at h
     |some s1=>
       rw[he] at h;injection h with h;subst h;exact FN ((Al _ _).trans (iha _ _ _ _ he))
   ·rw[args] at h
    by_cases hb:s.bad=true
    ·rw[if_pos hb] at h
     injection h with h;subst h;exact Ak.refl _
    rw[if_neg hb] at h;by_cases hn:s.next [41]=true
    ·rw[if_pos hn] at h
     injection h with h;subst h;exact BN _
    rw[if_neg hn] at h;cases he:expr f (if b=true then s else s.need [44]) n with
    |none=>rw[he] at h;simp at h
    |some s1=>
      rw[he] at h;refine Ak.trans ?_ ((ihe _ _ _ he).trans (iha _ _ _ _ h));split
      ·exact Ak.refl _
      ·exact Al _ _
end Rd
end Hg
namespace Hg
namespace Rd
structure Bw (s s':Rd):Prop where
 grow:Grow s s'
 inv:Inv s→Inv s'
 deep:s'.deep=s.deep
 level:s'.level=s.level
 mods:s'.mods=s.mods
 funcs:s'.funcs=s.funcs
 ids:s'.ids=s.ids
theorem Ak.s{a b:Rd}(h:Ak a b):Bw a b:=⟨h.grow,h.inv,h.deep,h.level,h.mods,h.funcs,h.ids⟩
theorem Bw.refl(s:Rd):Bw s s:=(Ak.refl s).s
theorem Bw.trans{a b c:Rd}(h:Bw a b)(k:Bw b c):Bw a c:=
 ⟨h.grow.trans k.grow,fun x=>k.inv (h.inv x),k.deep.trans h.deep,k.level.trans h.level,k.mods.trans h.mods,k.funcs.trans h.funcs,k.ids.trans h.ids⟩
theorem Ec(s:Rd)(e:Nat):(s.fault e).rows=s.rows∧(s.fault e).mods=s.mods∧(s.fault e).funcs=s.funcs∧(s.fault e).ids=s.ids∧(s.fault e).calls=s.calls∧(s.fault e).wants=s.wants∧(s.fault e).used=s.used∧(s.fault e).seen=s.seen∧(s.fault e).deep=s.deep∧(s.fault e).level=s.level:=by
 unfold fault;split <;>exact⟨rfl,rfl,rfl,rfl,rfl,rfl,rfl,rfl,rfl,rfl⟩
theorem Qw{s:Rd}(h:Inv s)(t:Str)(b:GA)(hu:s.used.length < s.rows.length):Inv {s with used:=s.used++[t],seen:=s.seen++[b]}:=
 ⟨h.mods,h.funcs,h.ids,h.calls,h.wants,by simp;omega,by simp;exact h.seen,h.kids,h.rid,h.callr⟩
theorem Qy{s:Rd}(h:Inv s)(t:Str)(k:Nat)(hu:s.used.length < s.rows.length):Inv (s.declare t k):=by
 unfold declare;dsimp only;split
 ·obtain⟨e1,_,_,_,_,_,e7,e8,_,_⟩:=Ec s 10
  have hf:=(Ih s 10).inv h;exact Qw hf t _ (by rw[e1,e7];exact hu)
 ·exact Qw h t _ hu
theorem Ho(s:Rd)(t:Str)(k:Nat):(s.declare t k).deep=s.deep∧(s.declare t k).level=s.level∧(s.declare t k).mods=s.mods∧(s.declare t k).funcs=s.funcs∧(s.declare t k).ids=s.ids∧(s.declare t k).rows=s.rows:=by
 unfold declare;dsimp only;split
 ·obtain⟨e1,e2,e3,e4,_,_,_,_,e9,e10⟩:=Ec s 10
  exact⟨e9,e10,e2,e3,e4,e1⟩
 ·exact⟨rfl,rfl,rfl,rfl,rfl,rfl⟩
theorem Gu{s a:Rd}(A:Ak s a)(hr:s.rows.length < a.rows.length)(t:Str)(k:Nat):Bw s (a.declare t k):=by
 obtain⟨d1,d2,d3,d4,d5,d6⟩:=Ho a t k;exact⟨A.grow.trans (He a t k),fun h=>Qy (A.inv h) t k (by rw[A.used];have:=h.used;omega),d1.trans A.deep,d2.trans A.level,d3.trans A.mods,d4.trans A.funcs,d5.trans A.ids⟩
theorem JM(s:Rd)(n:Nat):Grow s {s with level:=n}:=Bq rfl AA id rfl
theorem J7{s:Rd}(h:Inv s)(n:Nat):Inv {s with level:=n}:=EU h rfl rfl rfl rfl rfl rfl rfl AA
theorem Sm(s:Rd):s.enter.deep=s.deep+1∧s.enter.level=s.level∧s.enter.mods=s.mods∧s.enter.funcs=s.funcs∧s.enter.ids=s.ids:=by
 unfold enter;dsimp only;split <;>exact⟨rfl,rfl,rfl,rfl,rfl⟩
theorem VD{s:Rd}(h:Inv s):Inv s.enter:=by unfold enter;dsimp only;split <;>exact EU h rfl rfl rfl rfl rfl rfl rfl AA
theorem Wt{s:Rd}(h:Inv s):Inv s.leave.shut:=EU h rfl rfl rfl rfl rfl rfl rfl (List.length_filter_le _ _)
def head(s:Rd)(u:Nat):Rd:=({(s.node u (nd 5)) with level:=(s.node u (nd 5)).level+1}:Rd)
theorem QH{s s1:Rd}{u:Nat}(h:Bw (s.head u).enter s1):Bw s s1.leave.shut:=by
 have hn:=Av s u (nd 5) (Cm 5);obtain⟨e1,e2,e3,e4,e5⟩:=Sm (s.head u);refine⟨hn.grow.trans ((JM _ _).trans ((DD _).trans (h.grow.trans ((DC _).trans (Oi _))))),fun x=>Wt (h.inv (VD (J7 (hn.inv x) _))), ?_, ?_, ?_, ?_, ?_⟩
 ·show s1.deep-1=s.deep
  rw[h.deep,e1];show(s.node u (nd 5)).deep+1-1=s.deep;rw[hn.deep];omega
 ·show s1.level-1=s.level
  rw[h.level,e2];show(s.node u (nd 5)).level+1-1=s.level;rw[hn.level];omega
 ·show s1.mods=s.mods
  rw[h.mods,e3];exact hn.mods
 ·show s1.funcs=s.funcs
  rw[h.funcs,e4];exact hn.funcs
 ·show s1.ids=s.ids
  rw[h.ids,e5];exact hn.ids
theorem EN(f:Nat):(∀s u s',stmt f s u=some s'→Bw s s')∧(∀s u s',block f s u=some s'→Bw s s')∧(∀s n s',stmts f s n=some s'→Bw s s'):=by
 induction f with
 |zero=>exact⟨fun _ _ _ h=>by simp[stmt] at h,fun _ _ _ h=>by simp[block] at h,fun _ _ _ h=>by simp[stmts] at h⟩
 |succ f ih=>
   obtain⟨ihs,ihb,ihl⟩:=ih;have E:=CF f;refine⟨fun s u s' h=> ?_,fun s u s' h=> ?_,fun s n s' h=> ?_⟩
   ·rw[stmt] at h
    try dsimp only at h
    by_cases h1:s.next wLet=true
    ·rw[if_pos h1] at h
     generalize hx:((s.step.name.node u (Ac 6 (s.step.text 1))).typed.2.BA s.rows.length (s.step.name.node u (Ac 6 (s.step.text 1))).typed.1).need [61]=a at h;have A:Ak s a:=by
      rw[←hx];exact((((BN s).trans (Co _)).trans (Av _ _ _ (ES _ _))).trans (Fh _)).trans ((EK _ _ _).trans (Al _ _))
     have hr:s.rows.length < a.rows.length:=by
      have g1:Grow (s.step.name.node u (Ac 6 (s.step.text 1))) a:=by
       rw[←hx];exact(NT _).trans ((Hd _ _ _).trans (Cg _ _))
      have g2:=g1.len;rw[BK] at g2;have g3:=((grow_step s).trans (LH _)).len;omega
     cases he:expr f a s.rows.length with
     |none=>rw[he] at h;simp at h
     |some b=>
       rw[he] at h;injection h with h;subst h;have B:=E.1 _ _ _ he;exact(Gu (A.trans B) (Ae hr B.grow.len) _ _).trans (Al _ _).s
    rw[if_neg h1] at h;by_cases h2:s.next wIf=true
    ·rw[if_pos h2] at h
     cases he:expr f (s.step.node u (nd 8)) s.rows.length with
     |none=>rw[he] at h;simp at h
     |some a=>
       rw[he] at h;dsimp only at h;cases hb:block f a s.rows.length with
       |none=>rw[hb] at h;simp at h
       |some b=>
         rw[hb] at h;exact(((BN s).trans (Av _ _ _ (Cm _))).trans (E.1 _ _ _ he)).s.trans ((ihb _ _ _ hb).trans ((Al _ _).s.trans (ihb _ _ _ h)))
    rw[if_neg h2] at h;by_cases h3:s.next IC=true
    ·rw[if_pos h3] at h
     cases he:expr f (s.step.node u (nd 9)) s.rows.length with
     |none=>rw[he] at h;simp at h
     |some a=>
       rw[he] at h;exact(((BN s).trans (Av _ _ _ (Cm _))).trans (E.1 _ _ _ he)).s.trans (ihb _ _ _ h)
    rw[if_neg h3] at h;by_cases h4:s.next IE=true
    ·rw[if_pos h4] at h
     cases he:expr f (s.step.node u (nd 11)) s.rows.length with
     |none=>rw[he] at h;simp at h
     |some a=>
       rw[he] at h;injection h with h;subst h;exact((((BN s).trans (Av _ _ _ (Cm _))).trans (E.1 _ _ _ he)).trans (Al _ _)).s
    rw[if_neg h4] at h;by_cases h5:s.next wDo=true
    ·rw[if_pos h5] at h
     generalize hx:(s.step.node u (nd 12))=a at h;cases he:call f a.name s.rows.length (a.text 1) with
     |none=>rw[he] at h;simp at h
     |some b=>
       rw[he] at h;injection h with h;subst h;have A:Ak s a:=by rw[←hx];exact(BN s).trans (Av _ _ _ (Cm _))
       exact(((A.trans (Co _)).trans (E.2.1 _ _ _ _ he)).trans (Al _ _)).s
    rw[if_neg h5] at h;generalize hx:(s.name.node u (nd 7))=a at h;have A:Ak s a:=by rw[←hx];exact(Co s).trans (Av _ _ _ (Cm _))
    cases he:expr f (((a.find (s.text 1)).2.DL s.rows.length (a.find (s.text 1)).1).need [61]) s.rows.length with
    |none=>rw[he] at h;simp at h
    |some b=>
      rw[he] at h;injection h with h;subst h;exact(((((A.trans (MO _ _)).trans (FO _ _ _)).trans (Al _ _)).trans (E.1 _ _ _ he)).trans (Al _ _)).s
   ·rw[block] at h
    try dsimp only at h
    change (if (s.head u).enter.bad=true then some (s.head u).enter.leave.shut else(stmts f ((s.head u).enter.need [123]) s.rows.length).map (fun r=>r.leave.shut))=some s' at h;by_cases hb:(s.head u).enter.bad=true
    ·rw[if_pos hb] at h
     injection h with h;subst h;exact QH (Bw.refl _)
    ·rw[if_neg hb] at h
     cases he:stmts f ((s.head u).enter.need [123]) s.rows.length with
     |none=>rw[he] at h;simp at h
     |some a=>
       rw[he] at h;injection h with h;subst h;exact QH ((Al _ _).s.trans (ihl _ _ _ he))
   ·rw[stmts] at h
    by_cases hb:s.bad=true
    ·rw[if_pos hb] at h
     injection h with h;subst h;exact Bw.refl _
    rw[if_neg hb] at h;by_cases hn:s.next [125]=true
    ·rw[if_pos hn] at h
     injection h with h;subst h;exact(BN _).s
    rw[if_neg hn] at h;cases he:stmt f s n with
    |none=>rw[he] at h;simp at h
    |some a=>
      rw[he] at h;exact(ihs _ _ _ he).trans (ihl _ _ _ h)
end Rd
end Hg
namespace Hg
namespace Rd
theorem I8:∀(f:Nat) (b:Bool) (s:Rd) (k:Nat) (s':Rd),params f b s k=some s'→Bw s s':=by
 intro f
 induction f with
 |zero=>intro b s k s' h;simp[params] at h
 |succ f ih=>
   intro b s k s' h;rw[params] at h;by_cases hb:s.bad=true
   ·rw[if_pos hb] at h;injection h with h;subst h;exact Bw.refl _
   rw[if_neg hb] at h;by_cases hn:s.next [41]=true
   ·rw[if_pos hn] at h;injection h with h;subst h;exact(BN _).s
   rw[if_neg hn] at h;dsimp only at h;have A0:Ak s (if b=true then s else s.need [44]):=by split <;>first|exact Ak.refl _|exact Al _ _
   generalize(if b=true then s else s.need [44])=r at h A0;have hl:(r.name.node k (Ac 4 (r.text 1))).rows.length=r.rows.length+1:=by rw[BK,(Ck _).2.2]
   have A:Ak s ((r.name.node k (Ac 4 (r.text 1))).typed.2.BA r.rows.length (r.name.node k (Ac 4 (r.text 1))).typed.1):=
    ((A0.trans (Co _)).trans (Av _ _ _ (ES _ _))).trans ((Fh _).trans (EK _ _ _))
   have hr:s.rows.length < ((r.name.node k (Ac 4 (r.text 1))).typed.2.BA r.rows.length (r.name.node k (Ac 4 (r.text 1))).typed.1).rows.length:=by
    have g1:=((NT (r.name.node k (Ac 4 (r.text 1)))).trans (Hd _ r.rows.length (r.name.node k (Ac 4 (r.text 1))).typed.1)).len;have g2:=A0.grow.len;omega
   exact(Gu A hr _ _).trans (ih _ _ _ _ h)
theorem MQ:∀(f:Nat) (s:Rd) (n:Nat) (s':Rd),body f s n=some s'→Bw s s':=by
 intro f
 induction f with
 |zero=>intro s n s' h;simp[body] at h
 |succ f ih=>
   intro s n s' h;rw[body] at h;by_cases hb:s.bad=true∨s.next Br=true
   ·rw[if_pos hb] at h;injection h with h;subst h;exact Bw.refl _
   rw[if_neg hb] at h;cases he:stmt f s n with
   |none=>rw[he] at h;simp at h
   |some a=>
     rw[he] at h;exact((EN f).1 _ _ _ he).trans (ih _ _ _ h)
structure EX (s s':Rd):Prop where
 grow:Grow s s'
 inv:Inv s→Inv s'
 deep:s'.deep=s.deep
 mods:s'.mods=s.mods
theorem Bw.f{a b:Rd}(h:Bw a b):EX a b:=⟨h.grow,h.inv,h.deep,h.mods⟩
theorem EX.refl(s:Rd):EX s s:=(Bw.refl s).f
theorem EX.trans{a b c:Rd}(h:EX a b)(k:EX b c):EX a c:=⟨h.grow.trans k.grow,fun x=>k.inv (h.inv x),k.deep.trans h.deep,k.mods.trans h.mods⟩
def Ff(s:Rd)(t:Str)(k:Nat):Rd:={s with funcs:=s.funcs++[t],ids:=s.ids++[s.idAt k],used:=[],seen:=[],level:=0}
theorem UB{s a:Rd}(A:EX s a)(hf:a.funcs=s.funcs)(hr:s.rows.length < a.rows.length)(t:Str)(k:Nat):EX s (a.Ff t k):=by
 refine⟨A.grow.trans (Bq rfl AA id rfl),fun h=> ?_,A.deep,A.mods⟩;have ha:=A.inv h;exact⟨ha.mods,by show(a.funcs++[t]).length≤_;rw[hf];have:=h.funcs;simp only[List.length_append,List.length_singleton];show _≤a.rows.length;omega,by show(a.ids++[_]).length=(a.funcs++[t]).length;simp[ha.ids],ha.calls,ha.wants,by simp[Ff],by simp[Ff],ha.kids,ha.rid,ha.callr⟩
theorem Kg(s:Rd)(b:Bool):Ak s (if b=true then s.fault 10 else s):=by split <;>first|exact Ih _ _|exact Ak.refl _
theorem UA(f:Nat)(s:Rd)(u:Nat)(m:Str)(s':Rd)(h:func f s u m=some s'):EX s s':=by
 unfold func at h;dsimp only at h;have A1:Ak s (s.need Df).name:=(Al _ _).trans (Co _);generalize(s.need Df).text 1=t at h;generalize(s.need Df).name=a at h A1;have A2:Ak s (if inL a.funcs (m++[32]++t)=true then a.fault 10 else a):=A1.trans (Kg _ _);generalize(if inL a.funcs (m++[32]++t)=true then a.fault 10 else a)=b at h A2;change (match params f true (((b.node u (Ac 3 t)).Ff (m++[32]++t) b.rows.length).need [40]) b.rows.length with
  |none=>none
  |some r=>_)=some s' at h
 have A3:=A2.trans (Av b u (Ac 3 t) (ES _ _));have hl:s.rows.length < (b.node u (Ac 3 t)).rows.length:=by rw[BK];have:=A2.grow.len;omega
 have A4:EX s ((b.node u (Ac 3 t)).Ff (m++[32]++t) b.rows.length):=UB A3.s.f A3.funcs hl _ _;generalize(b.node u (Ac 3 t)).Ff (m++[32]++t) b.rows.length=c at h A4;cases hp:params f true (c.need [40]) b.rows.length with
 |none=>rw[hp] at h;simp at h
 |some p=>
   rw[hp] at h;dsimp only at h;have A5:EX s p:=A4.trans ((Al _ _).s.trans (I8 _ _ _ _ _ hp)).f;have A6:EX s (((p.typed.2.BA b.rows.length p.typed.1).node b.rows.length (nd 5)).need [123]):=
    A5.trans ((((Fh p).trans (EK _ _ _)).trans (Av _ _ _ (Cm _))).trans (Al _ _)).s.f
   generalize((p.typed.2.BA b.rows.length p.typed.1).node b.rows.length (nd 5)).need [123]=q at h A6;cases hq:body f q (p.typed.2.BA b.rows.length p.typed.1).rows.length with
   |none=>rw[hq] at h;simp at h
   |some v=>
     rw[hq] at h;dsimp only at h;have A7:=A6.trans (MQ _ _ _ _ hq).f;cases hx:expr f ((v.need Br).node (p.typed.2.BA b.rows.length p.typed.1).rows.length (nd 10)) (v.need Br).rows.length with
     |none=>rw[hx] at h;simp at h
     |some x=>
       rw[hx] at h;injection h with h;subst h;exact A7.trans (((((Al v Br).trans (Av _ _ _ (Cm _))).trans ((CF f).1 _ _ _ hx)).trans (Al _ _)).trans (Al _ _)).s.f
end Rd
end Hg
namespace Hg
namespace Rd
theorem Hf(f:Nat):∀(g:Nat) (s:Rd) (m:Nat) (t:Str) (s':Rd),CB f g s m t=some s'→EX s s':=by
 intro g
 induction g with
 |zero=>intro s m t s' h;simp[CB] at h
 |succ g ih=>
   intro s m t s' h;rw[CB] at h;by_cases hb:s.bad=true
   ·rw[if_pos hb] at h;injection h with h;subst h;exact EX.refl _
   rw[if_neg hb] at h;by_cases hn:s.next [125]=true
   ·rw[if_pos hn] at h;injection h with h;subst h;exact(BN _).s.f
   rw[if_neg hn] at h;cases he:func f s m t with
   |none=>rw[he] at h;simp at h
   |some a=>
     rw[he] at h;exact(UA _ _ _ _ _ he).trans (ih _ _ _ _ h)
structure MInv (s:Rd):Prop where
 inv:Inv s
 lt:s.mods.length < s.rows.length
theorem ML{s a:Rd}(h:MInv s)(e:Ak s a):MInv a:=⟨e.inv h.inv,by rw[e.mods];exact Ae h.lt e.grow.len⟩
theorem OY{s:Rd}(h:MInv s)(t:Str):Inv {s with mods:=s.mods++[t]}:=
 ⟨by simp;exact h.lt,h.inv.funcs,h.inv.ids,h.inv.calls,h.inv.wants,h.inv.used,h.inv.seen,h.inv.kids,h.inv.rid,h.inv.callr⟩
theorem LA{s:Rd}(h:Inv s)(u:Nat)(n:Node)(hn:n.kids=[]):MInv (s.node u n):=⟨Qx h u n hn,by rw[BK];have:=h.mods;show s.mods.length < _;omega⟩
theorem Tq{s a:Rd}(h:MInv s)(e:EX s a):MInv a:=⟨e.inv h.inv,by rw[e.mods];exact Ae h.lt e.grow.len⟩
theorem IW(f:Nat):∀(g:Nat) (s:Rd) (root:Nat) (s':Rd),CZ f g s root=some s'→Grow s s'∧s'.deep=s.deep∧(MInv s→MInv s'):=by
 intro g
 induction g with
 |zero=>intro s r s' h;simp[CZ] at h
 |succ g ih=>
   intro s root s' h;rw[CZ] at h;by_cases hb:s.bad=true∨s.L.length≤s.at_
   ·rw[if_pos hb] at h;injection h with h;subst h;exact⟨Grow.refl _,rfl,id⟩
   rw[if_neg hb] at h;dsimp only at h;have A1:Ak s (s.need DI).name:=(Al _ _).trans (Co _);generalize(s.need DI).text 1=t at h;generalize(s.need DI).name=a at h A1;have A2:Ak s (if inL a.mods t=true then a.fault 10 else a):=A1.trans (Kg _ _);generalize(if inL a.mods t=true then a.fault 10 else a)=b at h A2;generalize hc:({b with mods:=b.mods++[t]}:Rd)=c at h;have gc:Grow b c:=by rw[←hc];exact Bq rfl AA id rfl
   have dc:c.deep=b.deep:=by rw[←hc]
   cases he:CB f f ((c.node root (Ac 2 t)).need [123]) b.rows.length t with
   |none=>rw[he] at h;simp at h
   |some d=>
     rw[he] at h;obtain⟨g1,d1,m1⟩:=ih _ _ _ h;have F:=Hf _ _ _ _ _ _ he;have N:=Av c root (Ac 2 t) (ES _ _);have D:=Al (c.node root (Ac 2 t)) [123];refine⟨A2.grow.trans (gc.trans (N.grow.trans (D.grow.trans (F.grow.trans g1)))), ?_,fun hm=>m1 (Tq (ML (LA ?_ _ _ (ES _ _)) D) F)⟩
     ·rw[d1,F.deep,D.deep,N.deep,dc,A2.deep]
     ·rw[←hc];exact OY (ML hm A2) t
theorem Tv:∀(is:List Nat) (ws:List Str) (s:Rd),Ak s (link is ws s):=by
 intro is
 induction is with
 |nil=>intro ws s;cases ws <;>exact Ak.refl _
 |cons i is ih=>
   intro ws s;cases ws with
   |nil=>exact Ak.refl _
   |cons t ws=>
     rw[link];refine Ak.trans ?_ (ih ws _);refine Ak.trans ?_ (FO _ _ _)
     split <;>first|exact Ih _ _|exact Ak.refl _
end Rd
end Hg
namespace Hg
namespace Rd
def mu(s:Rd):Nat:=if s.bad=true then 0 else s.L.length-s.at_+1
theorem Y7{s:Rd}(h:s.bad=true):s.mu=0:=by unfold mu;rw[if_pos h]
theorem MK{s:Rd}(h:¬s.bad=true):s.mu=s.L.length-s.at_+1:=by unfold mu;rw[if_neg h]
theorem GG{s:Rd}(h:¬s.bad=true):1≤s.mu:=by rw[MK h];omega
def Q(d e:Nat)(s s':Rd):Prop:=s'.mu≤s.mu-d∧s'.rows.length≤s.rows.length+e∧s'.at_+2*s'.mu≤s.at_+2*s.mu
def W(d e:Nat)(s s':Rd):Prop:=s'.mu≤s.mu-d∧s'.rows.length+3*s'.mu≤s.rows.length+3*s.mu+e∧s'.at_+2*s'.mu≤s.at_+2*s.mu
theorem Eb{s s':Rd}(hL:s'.L=s.L)(ha:s'.at_=s.at_)(hb:s.bad=true→s'.bad=true)(hr:s'.rows.length=s.rows.length):Q 0 0 s s':=by
 have h:s'.mu≤s.mu:=by
  unfold mu;rw[hL,ha];by_cases h1:s.bad=true
  ·rw[if_pos h1,if_pos (hb h1)];omega
  ·rw[if_neg h1];split <;>omega
 refine⟨by omega,by omega,by rw[ha];omega⟩
theorem UZ{s:Rd}{k:Nat}(h:s.text k≠[]):¬s.bad=true∧s.at_ < s.L.length:=by
 unfold text at h;by_cases hb:s.bad=true
 ·rw[if_pos hb] at h;exact absurd rfl h
 ·rw[if_neg hb] at h
  refine⟨hb, ?_⟩;cases hg:s.L[s.at_]? with
  |none=>rw[hg] at h;exact absurd rfl h
  |some t=>exact(Af.1 hg).1
theorem GQ{s:Rd}{k:Nat}(h:s.text k≠[]):s.step.mu+1=s.mu∧s.step.at_=s.at_+1∧s.step.rows.length=s.rows.length:=by
 obtain⟨hb,ha⟩:=UZ h;refine⟨?_,rfl,rfl⟩;rw[MK hb,MK (s:=s.step) hb];show s.L.length-(s.at_+1)+1+1=s.L.length-s.at_+1;omega
theorem Vy(s:Rd):s.step.mu≤s.mu∧s.step.at_=s.at_+1∧s.step.rows.length=s.rows.length:=by
 refine⟨?_,rfl,rfl⟩;unfold mu;show(if s.bad=true then 0 else s.L.length-(s.at_+1)+1)≤_
 split <;>omega
theorem U0{s:Rd}{t:Str}(ht:t≠[])(h:s.next t=true):∃k,s.text k≠[]:=by
 unfold next at h;rw[Bool.or_eq_true] at h;rcases h with h|h
 ·exact⟨3,by rw[beq_iff_eq.1 h];exact ht⟩
 ·exact⟨4,by rw[beq_iff_eq.1 h];exact ht⟩
theorem Bn{s:Rd}{t:Str}(ht:t≠[])(h:s.next t=true):s.step.mu+1=s.mu∧s.step.at_=s.at_+1∧s.step.rows.length=s.rows.length:=by
 obtain⟨k,hk⟩:=U0 ht h;exact GQ hk
theorem J8(s:Rd):s.setBad.mu=0∧s.setBad.rows.length=s.rows.length∧s.setBad.at_=s.at_:=⟨Y7 rfl,rfl,rfl⟩
theorem Ct(s:Rd){t:Str}(ht:t≠[]):Q 1 0 s (s.need t):=by
 unfold need;split
 ·rename_i h
  obtain⟨h1,h2,h3⟩:=Bn ht h;exact⟨by omega,by omega,by omega⟩
 ·obtain⟨h1,h2,h3⟩:=J8 s
  exact⟨by omega,by omega,by omega⟩
theorem Jg(s:Rd):Q 1 0 s s.name:=by
 unfold name;split
 ·obtain⟨h1,h2,h3⟩:=J8 s
  exact⟨by omega,by omega,by omega⟩
 ·rename_i h
  obtain⟨h1,h2,h3⟩:=GQ h;exact⟨by omega,by omega,by omega⟩
theorem O9(s:Rd):Q 1 0 s s.typed.2:=by
 unfold typed;split
 ·rename_i h
  obtain⟨h1,h2,h3⟩:=Bn (by decide) h;show Q 1 0 s s.step;exact⟨by omega,by omega,by omega⟩
 ·exact Ct s (by decide)
theorem C9(s:Rd)(u:Nat)(n:Node):(s.node u n).mu=s.mu∧(s.node u n).rows.length=s.rows.length+1∧(s.node u n).at_=s.at_:=⟨rfl,BK s u n,rfl⟩
theorem KX(s:Rd)(e:Nat):Q 0 0 s (s.fault e):=by
 unfold fault;split
 ·exact Eb rfl rfl id rfl
 ·exact Eb rfl rfl id rfl
theorem XD(s:Rd)(t:Str):Q 0 0 s (s.find t).2:=by
 unfold find;split
 ·exact Eb rfl rfl id rfl
 ·exact KX s _
theorem Kq(s:Rd)(k t:Nat):Q 0 0 s (s.BA k t):=Eb rfl rfl id (by simp[BA])
theorem Mo(s:Rd)(k t:Nat):Q 0 0 s (s.DL k t):=Eb rfl rfl id (by simp[DL])
theorem V4(s:Rd)(k:Nat)(t:Int):Q 0 0 s (s.CX k t):=Eb rfl rfl id (by simp[CX])
theorem Ox(s:Rd)(t:Str)(k:Nat):Q 0 0 s (s.declare t k):=by
 unfold declare;dsimp only;split
 ·have h:=KX s 10
  exact⟨h.1,h.2.1,h.2.2⟩
 ·exact Eb rfl rfl id rfl
theorem MP(s:Rd):Q 0 0 s s.enter:=by
 unfold enter;dsimp only;split
 ·exact Eb rfl rfl (fun _=>rfl) rfl
 ·exact Eb rfl rfl id rfl
theorem Fz(s:Rd):s.leave.mu=s.mu∧s.leave.rows=s.rows∧s.leave.at_=s.at_:=⟨rfl,rfl,rfl⟩
theorem WQ:opOf []=0:=by decide
theorem Om(f:Nat):(∀s u,3*s.mu+1≤f→∃s',expr f s u=some s'∧W 1 0 s s')∧(∀s u m,3*s.mu+3≤f→∃s',call f s u m=some s'∧W 1 1 s s')∧
 (∀b s n,3*s.mu+2≤f→∃s',args f b s n=some s'∧W 0 0 s s'):=by
 induction f with
 |zero=>exact⟨fun s _ h=>by omega,fun s _ _ h=>by omega,fun _ s _ h=>by omega⟩
 |succ f ih=>
   obtain⟨ihe,ihc,iha⟩:=ih;refine⟨fun s u hf=> ?_,fun s u m hf=> ?_,fun b s n hf=> ?_⟩
   ·rw[expr]
    by_cases h2:s.text 2≠[]
    ·rw[if_pos h2]
     obtain⟨a1,a2,a3⟩:=GQ h2;obtain⟨b1,b2,b3⟩:=C9 s.step u (Lj 13 (CK (s.text 2)));exact⟨_,rfl,by omega,by omega,by omega⟩
    rw[if_neg h2];by_cases h1:s.text 1≠[]
    ·rw[if_pos h1]
     try dsimp only
     obtain⟨a1,a2,a3⟩:=GQ h1;by_cases hd:s.step.next [46]=true
     ·rw[if_pos hd]
      obtain⟨s',e,c1,c2,c3⟩:=ihc s.step u (s.text 1) (by omega);exact⟨s',e,by omega,by omega,by omega⟩
     ·rw[if_neg hd]
      obtain⟨b1,b2,b3⟩:=C9 s.step u (nd 15);obtain⟨c1,c2,c3⟩:=XD (s.step.node u (nd 15)) (s.text 1);obtain⟨d1,d2,d3⟩:=Mo ((s.step.node u (nd 15)).find (s.text 1)).2 s.step.rows.length ((s.step.node u (nd 15)).find (s.text 1)).1;exact⟨_,rfl,by omega,by omega,by omega⟩
    rw[if_neg h1];by_cases ht:s.next Ju=true
    ·rw[if_pos ht]
     obtain⟨a1,a2,a3⟩:=Bn (by decide) ht;obtain⟨b1,b2,b3⟩:=C9 s.step u (Lj 14 1);exact⟨_,rfl,by omega,by omega,by omega⟩
    rw[if_neg ht];by_cases hfa:s.next Gq=true
    ·rw[if_pos hfa]
     obtain⟨a1,a2,a3⟩:=Bn (by decide) hfa;obtain⟨b1,b2,b3⟩:=C9 s.step u (nd 14);exact⟨_,rfl,by omega,by omega,by omega⟩
    rw[if_neg hfa];by_cases hr:s.next Jv=true
    ·rw[if_pos hr]
     obtain⟨a1,a2,a3⟩:=Bn (by decide) hr;obtain⟨b1,b2,b3⟩:=C9 s.step u (nd 20);exact⟨_,rfl,by omega,by omega,by omega⟩
    rw[if_neg hr];by_cases hn:s.next [33]=true∨s.next [45]=true
    ·rw[if_pos hn]
     have hst:s.step.mu+1=s.mu∧s.step.at_=s.at_+1∧s.step.rows.length=s.rows.length:=by
      rcases hn with h|h
      ·exact Bn (by decide) h
      ·exact Bn (by decide) h
     obtain⟨a1,a2,a3⟩:=hst
     try dsimp only
     generalize(if s.next [33]=true then 16 else 17)=kind;obtain⟨b1,b2,b3⟩:=C9 s.step u (nd kind);obtain⟨c1,c2,c3⟩:=MP (s.step.node u (nd kind));by_cases hb:(s.step.node u (nd kind)).enter.bad=true
     ·rw[if_pos hb]
      obtain⟨d1,d2,d3⟩:=Fz (s.step.node u (nd kind)).enter;exact⟨_,rfl,by omega,by rw[d2];omega,by omega⟩
     ·rw[if_neg hb]
      obtain⟨s',e,e1,e2,e3⟩:=ihe (s.step.node u (nd kind)).enter s.rows.length (by omega);rw[e];obtain⟨d1,d2,d3⟩:=Fz s';exact⟨_,rfl,by omega,by rw[d2];omega,by omega⟩
    rw[if_neg hn];by_cases hp:s.next [40]=true
    ·rw[if_pos hp]
     obtain⟨a1,a2,a3⟩:=Bn (by decide) hp
     try dsimp only
     obtain⟨b1,b2,b3⟩:=C9 s.step u (nd 18);obtain⟨c1,c2,c3⟩:=MP (s.step.node u (nd 18));by_cases hb:(s.step.node u (nd 18)).enter.bad=true
     ·rw[if_pos hb]
      obtain⟨d1,d2,d3⟩:=Fz (s.step.node u (nd 18)).enter;exact⟨_,rfl,by omega,by rw[d2];omega,by omega⟩
     ·rw[if_neg hb]
      obtain⟨s1,e,e1,e2,e3⟩:=ihe (s.step.node u (nd 18)).enter s.rows.length (by omega);rw[e]
      try dsimp only
      obtain⟨g1,g2,g3⟩:=V4 s1 s.rows.length (opOf (s1.text 4):Nat);have hmid:∀m,m=(if opOf (s1.text 4)=0 then(s1.CX s.rows.length (opOf (s1.text 4):Nat)).setBad else s1.CX s.rows.length (opOf (s1.text 4):Nat)).step→
       m.mu≤s1.mu∧m.rows.length≤s1.rows.length∧m.at_+2*m.mu≤s1.at_+2*s1.mu+1:=by
       intro m hm;subst hm;by_cases h0:opOf (s1.text 4)=0
       ·rw[if_pos h0]
        obtain⟨k1,k2,k3⟩:=J8 (s1.CX s.rows.length (opOf (s1.text 4):Nat));obtain⟨l1,l2,l3⟩:=Vy (s1.CX s.rows.length (opOf (s1.text 4):Nat)).setBad;exact⟨by omega,by omega,by omega⟩
       ·rw[if_neg h0]
        have h4:s1.text 4≠[]:=fun hh=>by rw[hh] at h0;exact h0 WQ
        obtain⟨l1,l2,l3⟩:=GQ (s:=s1.CX s.rows.length (opOf (s1.text 4):Nat)) (k:=4) h4;exact⟨by omega,by omega,by omega⟩
      obtain⟨m1,m2,m3⟩:=hmid _ rfl;generalize(if opOf (s1.text 4)=0 then(s1.CX s.rows.length (opOf (s1.text 4):Nat)).setBad else s1.CX s.rows.length (opOf (s1.text 4):Nat)).step=m at m1 m2 m3⊢;obtain⟨s2,n,n1,n2,n3⟩:=ihe m s.rows.length (by omega);rw[n];obtain⟨o1,o2,o3⟩:=Ct s2 (t:=[41]) (by decide);obtain⟨d1,d2,d3⟩:=Fz (s2.need [41]);exact⟨_,rfl,by omega,by rw[d2];omega,by omega⟩
    rw[if_neg hp];obtain⟨k1,k2,k3⟩:=J8 s;exact⟨_,rfl,by omega,by omega,by omega⟩
   ·rw[call]
    try dsimp only
    obtain⟨a1,a2,a3⟩:=C9 s u (nd 19);obtain⟨b1,b2,b3⟩:=Ct (s.node u (nd 19)) (t:=[46]) (by decide);obtain⟨c1,c2,c3⟩:=Jg ((s.node u (nd 19)).need [46]);have hq:∀(cl:List Nat) (wl:List Str),Q 0 0 ((s.node u (nd 19)).need [46]).name {((s.node u (nd 19)).need [46]).name with calls:=cl,wants:=wl}:=fun _ _=>Eb rfl rfl id rfl;obtain⟨d1,d2,d3⟩:=hq (((s.node u (nd 19)).need [46]).name.calls++[((s.node u (nd 19)).need [46]).name.idAt s.rows.length]) (((s.node u (nd 19)).need [46]).name.wants++[m++[32]++((s.node u (nd 19)).need [46]).text 1]);generalize({((s.node u (nd 19)).need [46]).name with calls:=((s.node u (nd 19)).need [46]).name.calls++[((s.node u (nd 19)).need [46]).name.idAt s.rows.length],wants:=((s.node u (nd 19)).need [46]).name.wants++[m++[32]++((s.node u (nd 19)).need [46]).text 1]}:Rd)=b at d1 d2 d3⊢;obtain⟨e1,e2,e3⟩:=MP b;by_cases hb:b.enter.bad=true
    ·rw[if_pos hb]
     obtain⟨g1,g2,g3⟩:=Fz b.enter;exact⟨_,rfl,by omega,by rw[g2];omega,by omega⟩
    ·rw[if_neg hb]
     obtain⟨k1,k2,k3⟩:=Ct b.enter (t:=[40]) (by decide);have:=GG hb;obtain⟨s1,e,l1,l2,l3⟩:=iha true (b.enter.need [40]) s.rows.length (by omega);rw[e];obtain⟨g1,g2,g3⟩:=Fz s1;exact⟨_,rfl,by omega,by rw[g2];omega,by omega⟩
   ·rw[args]
    by_cases hb:s.bad=true
    ·rw[if_pos hb]
     exact⟨_,rfl,by omega,by omega,by omega⟩
    rw[if_neg hb];by_cases hn:s.next [41]=true
    ·rw[if_pos hn]
     obtain⟨a1,a2,a3⟩:=Bn (by decide) hn;exact⟨_,rfl,by omega,by omega,by omega⟩
    rw[if_neg hn];have hq:Q 0 0 s (if b=true then s else s.need [44]):=by
     split
     ·exact⟨by omega,by omega,by omega⟩
     ·obtain⟨k1,k2,k3⟩:=Ct s (t:=[44]) (by decide)
      exact⟨by omega,by omega,by omega⟩
    obtain⟨a1,a2,a3⟩:=hq;have:=GG hb;obtain⟨s1,e,b1,b2,b3⟩:=ihe (if b=true then s else s.need [44]) n (by omega);rw[e]
    try dsimp only
    obtain⟨s2,e2,c1,c2,c3⟩:=iha false s1 n (by omega);exact⟨s2,e2,by omega,by omega,by omega⟩
theorem Uc(f:Nat):(∀s u,3*s.mu+3≤f→∃s',stmt f s u=some s'∧W 1 (if s.bad=true then 1 else 0) s s')∧(∀s u,3*s.mu+3≤f→∃s',block f s u=some s'∧W 0 1 s s')∧
 (∀s n,3*s.mu+4≤f→∃s',stmts f s n=some s'∧W 0 0 s s'):=by
 induction f with
 |zero=>exact⟨fun s _ h=>by omega,fun s _ h=>by omega,fun s _ h=>by omega⟩
 |succ f ih=>
   obtain⟨ihs,ihb,ihl⟩:=ih;obtain⟨ihe,ihc,_⟩:=Om f;refine⟨fun s u hf=> ?_,fun s u hf=> ?_,fun s n hf=> ?_⟩
   ·rw[stmt]
    try dsimp only
    have hw:(0:Nat)≤(if s.bad=true then 1 else 0):=Nat.zero_le _;generalize hwe:(if s.bad=true then 1 else 0)=wx at hw⊢;by_cases h1:s.next wLet=true
    ·rw[if_pos h1]
     obtain⟨a1,a2,a3⟩:=Bn (by decide) h1;obtain⟨b1,b2,b3⟩:=Jg s.step;obtain⟨c1,c2,c3⟩:=C9 s.step.name u (Ac 6 (s.step.text 1));obtain⟨d1,d2,d3⟩:=O9 (s.step.name.node u (Ac 6 (s.step.text 1)));obtain⟨e1,e2,e3⟩:=Kq (s.step.name.node u (Ac 6 (s.step.text 1))).typed.2 s.rows.length (s.step.name.node u (Ac 6 (s.step.text 1))).typed.1;obtain⟨g1,g2,g3⟩:=Ct ((s.step.name.node u (Ac 6 (s.step.text 1))).typed.2.BA s.rows.length (s.step.name.node u (Ac 6 (s.step.text 1))).typed.1) (t:=[61]) (by decide);generalize(((s.step.name.node u (Ac 6 (s.step.text 1))).typed.2.BA s.rows.length (s.step.name.node u (Ac 6 (s.step.text 1))).typed.1).need [61])=a at g1 g2 g3⊢;obtain⟨b,e,k1,k2,k3⟩:=ihe a s.rows.length (by omega);rw[e];obtain⟨l1,l2,l3⟩:=Ox b (s.step.text 1) s.rows.length;obtain⟨m1,m2,m3⟩:=Ct (b.declare (s.step.text 1) s.rows.length) (t:=[59]) (by decide);exact⟨_,rfl,by omega,by omega,by omega⟩
    rw[if_neg h1];by_cases h2:s.next wIf=true
    ·rw[if_pos h2]
     obtain⟨a1,a2,a3⟩:=Bn (by decide) h2;obtain⟨c1,c2,c3⟩:=C9 s.step u (nd 8);obtain⟨a,e,k1,k2,k3⟩:=ihe (s.step.node u (nd 8)) s.rows.length (by omega);rw[e]
     try dsimp only
     obtain⟨b,e2,l1,l2,l3⟩:=ihb a s.rows.length (by omega);rw[e2]
     try dsimp only
     obtain⟨m1,m2,m3⟩:=Ct b (t:=LV) (by decide);obtain⟨c,e4,n1,n2,n3⟩:=ihb (b.need LV) s.rows.length (by omega);exact⟨c,e4,by omega,by omega,by omega⟩
    rw[if_neg h2];by_cases h3:s.next IC=true
    ·rw[if_pos h3]
     obtain⟨a1,a2,a3⟩:=Bn (by decide) h3;obtain⟨c1,c2,c3⟩:=C9 s.step u (nd 9);obtain⟨a,e,k1,k2,k3⟩:=ihe (s.step.node u (nd 9)) s.rows.length (by omega);rw[e]
     try dsimp only
     obtain⟨b,e2,l1,l2,l3⟩:=ihb a s.rows.length (by omega);exact⟨b,e2,by omega,by omega,by omega⟩
    rw[if_neg h3];by_cases h4:s.next IE=true
    ·rw[if_pos h4]
     obtain⟨a1,a2,a3⟩:=Bn (by decide) h4;obtain⟨c1,c2,c3⟩:=C9 s.step u (nd 11);obtain⟨a,e,k1,k2,k3⟩:=ihe (s.step.node u (nd 11)) s.rows.length (by omega);rw[e];obtain⟨m1,m2,m3⟩:=Ct a (t:=[59]) (by decide);exact⟨a.need [59],rfl,by omega,by omega,by omega⟩
    rw[if_neg h4];by_cases h5:s.next wDo=true
    ·rw[if_pos h5]
     obtain⟨a1,a2,a3⟩:=Bn (by decide) h5;obtain⟨c1,c2,c3⟩:=C9 s.step u (nd 12);obtain⟨d1,d2,d3⟩:=Jg (s.step.node u (nd 12));obtain⟨a,e,k1,k2,k3⟩:=ihc (s.step.node u (nd 12)).name s.rows.length ((s.step.node u (nd 12)).text 1) (by omega);rw[e];obtain⟨m1,m2,m3⟩:=Ct a (t:=[59]) (by decide);exact⟨a.need [59],rfl,by omega,by omega,by omega⟩
    rw[if_neg h5];have hx:s.mu=0→wx=1:=fun h0=>by
     rw[←hwe];by_cases hb:s.bad=true
     ·rw[if_pos hb]
     ·have:=GG hb;omega
    obtain⟨a1,a2,a3⟩:=Jg s;obtain⟨c1,c2,c3⟩:=C9 s.name u (nd 7);obtain⟨d1,d2,d3⟩:=XD (s.name.node u (nd 7)) (s.text 1);obtain⟨e1,e2,e3⟩:=Mo ((s.name.node u (nd 7)).find (s.text 1)).2 s.rows.length ((s.name.node u (nd 7)).find (s.text 1)).1;obtain⟨g1,g2,g3⟩:=Ct (((s.name.node u (nd 7)).find (s.text 1)).2.DL s.rows.length ((s.name.node u (nd 7)).find (s.text 1)).1) (t:=[61]) (by decide);generalize((((s.name.node u (nd 7)).find (s.text 1)).2.DL s.rows.length ((s.name.node u (nd 7)).find (s.text 1)).1).need [61])=a at g1 g2 g3⊢;obtain⟨b,e,k1,k2,k3⟩:=ihe a s.rows.length (by omega);rw[e];obtain⟨m1,m2,m3⟩:=Ct b (t:=[59]) (by decide);refine⟨b.need [59],rfl,by omega, ?_,by omega⟩;by_cases h0:s.mu=0
    ·have:=hx h0;omega
    ·omega
   ·rw[block]
    try dsimp only
    obtain⟨a1,a2,a3⟩:=C9 s u (nd 5);have hq:Q 0 0 (s.node u (nd 5)) ({(s.node u (nd 5)) with level:=(s.node u (nd 5)).level+1}:Rd):=Eb rfl rfl id rfl;obtain⟨b1,b2,b3⟩:=hq;generalize({(s.node u (nd 5)) with level:=(s.node u (nd 5)).level+1}:Rd)=b at b1 b2 b3⊢;obtain⟨c1,c2,c3⟩:=MP b;by_cases hb:b.enter.bad=true
    ·rw[if_pos hb]
     obtain⟨d1,d2,d3⟩:=Fz b.enter;exact⟨_,rfl,by show b.enter.leave.mu≤_;omega,by show b.enter.leave.rows.length+3*b.enter.leave.mu≤_;rw[d2];omega,by show b.enter.leave.at_+2*b.enter.leave.mu≤_;omega⟩
    ·rw[if_neg hb]
     have:=GG hb;obtain⟨k1,k2,k3⟩:=Ct b.enter (t:=[123]) (by decide);obtain⟨a,e,l1,l2,l3⟩:=ihl (b.enter.need [123]) s.rows.length (by omega);rw[e];obtain⟨d1,d2,d3⟩:=Fz a;exact⟨_,rfl,by show a.leave.mu≤_;omega,by show a.leave.rows.length+3*a.leave.mu≤_;rw[d2];omega,by show a.leave.at_+2*a.leave.mu≤_;omega⟩
   ·rw[stmts]
    by_cases hb:s.bad=true
    ·rw[if_pos hb]
     exact⟨_,rfl,by omega,by omega,by omega⟩
    rw[if_neg hb];by_cases hn:s.next [125]=true
    ·rw[if_pos hn]
     obtain⟨a1,a2,a3⟩:=Bn (by decide) hn;exact⟨_,rfl,by omega,by omega,by omega⟩
    rw[if_neg hn];have:=GG hb;obtain⟨a,e,k1,k2,k3⟩:=ihs s n (by omega);rw[if_neg hb] at k2;rw[e]
    try dsimp only
    obtain⟨b,e2,l1,l2,l3⟩:=ihl a n (by omega);exact⟨b,e2,by omega,by omega,by omega⟩
theorem QY:∀(f:Nat) (b:Bool) (s:Rd) (k:Nat),s.mu+1≤f→∃s',params f b s k=some s'∧W 0 0 s s':=by
 intro f
 induction f with
 |zero=>intro b s k h;omega
 |succ f ih=>
   intro b s k hf;rw[params];by_cases hb:s.bad=true
   ·rw[if_pos hb]
    exact⟨_,rfl,by omega,by omega,by omega⟩
   rw[if_neg hb];by_cases hn:s.next [41]=true
   ·rw[if_pos hn]
    obtain⟨a1,a2,a3⟩:=Bn (by decide) hn;exact⟨_,rfl,by omega,by omega,by omega⟩
   rw[if_neg hn]
   try dsimp only
   have hm:=GG hb;have hq:Q 0 0 s (if b=true then s else s.need [44]):=by
    split
    ·exact⟨by omega,by omega,by omega⟩
    ·obtain⟨k1,k2,k3⟩:=Ct s (t:=[44]) (by decide)
     exact⟨by omega,by omega,by omega⟩
   have hx:(if b=true then s else s.need [44]).mu=0→(if b=true then s else s.need [44]).mu < s.mu:=fun h=>by omega
   obtain⟨z1,z2,z3⟩:=hq;generalize(if b=true then s else s.need [44])=r at z1 z2 z3 hx⊢;obtain⟨b1,b2,b3⟩:=Jg r;obtain⟨c1,c2,c3⟩:=C9 r.name k (Ac 4 (r.text 1));obtain⟨d1,d2,d3⟩:=O9 (r.name.node k (Ac 4 (r.text 1)));obtain⟨e1,e2,e3⟩:=Kq (r.name.node k (Ac 4 (r.text 1))).typed.2 r.rows.length (r.name.node k (Ac 4 (r.text 1))).typed.1;obtain⟨l1,l2,l3⟩:=Ox ((r.name.node k (Ac 4 (r.text 1))).typed.2.BA r.rows.length (r.name.node k (Ac 4 (r.text 1))).typed.1) (r.text 1) r.rows.length;obtain⟨s',e,m1,m2,m3⟩:=ih false (((r.name.node k (Ac 4 (r.text 1))).typed.2.BA r.rows.length (r.name.node k (Ac 4 (r.text 1))).typed.1).declare (r.text 1) r.rows.length) k (by omega);exact⟨s',e,by omega,by omega,by omega⟩
theorem VX:∀(f:Nat) (s:Rd) (n:Nat),3*s.mu+4≤f→∃s',body f s n=some s'∧W 0 0 s s':=by
 intro f
 induction f with
 |zero=>intro s n h;omega
 |succ f ih=>
   intro s n hf;rw[body];by_cases hb:s.bad=true∨s.next Br=true
   ·rw[if_pos hb]
    exact⟨_,rfl,by omega,by omega,by omega⟩
   rw[if_neg hb];have hbb:¬s.bad=true:=fun h=>hb (.inl h);have:=GG hbb;obtain⟨a,e,k1,k2,k3⟩:=(Uc f).1 s n (by omega);rw[if_neg hbb] at k2;rw[e]
   try dsimp only
   obtain⟨b,e2,l1,l2,l3⟩:=ih a n (by omega);exact⟨b,e2,by omega,by omega,by omega⟩
theorem VF(f:Nat)(s:Rd)(u:Nat)(m:Str)(hb:¬s.bad=true)(hf:3*s.mu+4≤f):∃s',func f s u m=some s'∧W 1 0 s s':=by
 unfold func
 try dsimp only
 have hm:=GG hb;obtain⟨a1,a2,a3⟩:=Ct s (t:=Df) (by decide);obtain⟨b1,b2,b3⟩:=Jg (s.need Df);generalize(s.need Df).text 1=t;generalize(s.need Df).name=a at b1 b2 b3⊢;have hq:Q 0 0 a (if inL a.funcs (m++[32]++t)=true then a.fault 10 else a):=by
  split
  ·exact KX a 10
  ·exact⟨by omega,by omega,by omega⟩
 obtain⟨c1,c2,c3⟩:=hq;generalize(if inL a.funcs (m++[32]++t)=true then a.fault 10 else a)=b at c1 c2 c3⊢;change∃s',(match params f true (((b.node u (Ac 3 t)).Ff (m++[32]++t) b.rows.length).need [40]) b.rows.length with
  |none=>none
  |some r=>_)=some s'∧_
 obtain⟨d1,d2,d3⟩:=C9 b u (Ac 3 t);have hq2:Q 0 0 (b.node u (Ac 3 t)) ((b.node u (Ac 3 t)).Ff (m++[32]++t) b.rows.length):=Eb rfl rfl id rfl;obtain⟨e1,e2,e3⟩:=hq2;generalize(b.node u (Ac 3 t)).Ff (m++[32]++t) b.rows.length=c at e1 e2 e3⊢;obtain⟨g1,g2,g3⟩:=Ct c (t:=[40]) (by decide);obtain⟨p,hp,k1,k2,k3⟩:=QY f true (c.need [40]) b.rows.length (by omega);rw[hp]
 try dsimp only
 obtain⟨l1,l2,l3⟩:=O9 p;obtain⟨m1,m2,m3⟩:=Kq p.typed.2 b.rows.length p.typed.1;obtain⟨n1,n2,n3⟩:=C9 (p.typed.2.BA b.rows.length p.typed.1) b.rows.length (nd 5);obtain⟨o1,o2,o3⟩:=Ct ((p.typed.2.BA b.rows.length p.typed.1).node b.rows.length (nd 5)) (t:=[123]) (by decide);generalize((p.typed.2.BA b.rows.length p.typed.1).node b.rows.length (nd 5)).need [123]=q at o1 o2 o3⊢;obtain⟨v,hv,p1,p2,p3⟩:=VX f q (p.typed.2.BA b.rows.length p.typed.1).rows.length (by omega);rw[hv]
 try dsimp only
 obtain⟨q1,q2,q3⟩:=Ct v (t:=Br) (by decide);obtain⟨r1,r2,r3⟩:=C9 (v.need Br) (p.typed.2.BA b.rows.length p.typed.1).rows.length (nd 10);obtain⟨x,hx,s1,s2,s3⟩:=(Om f).1 ((v.need Br).node (p.typed.2.BA b.rows.length p.typed.1).rows.length (nd 10)) (v.need Br).rows.length (by omega);rw[hx];obtain⟨t1,t2,t3⟩:=Ct x (t:=[59]) (by decide);obtain⟨u1,u2,u3⟩:=Ct (x.need [59]) (t:=[125]) (by decide);exact⟨_,rfl,by omega,by omega,by omega⟩
theorem NV(f:Nat):∀(g:Nat) (s:Rd) (m:Nat) (t:Str),3*s.mu+4≤f→s.mu+1≤g→∃s',CB f g s m t=some s'∧W 0 0 s s':=by
 intro g
 induction g with
 |zero=>intro s m t h h2;omega
 |succ g ih=>
   intro s m t hf hg;rw[CB];by_cases hb:s.bad=true
   ·rw[if_pos hb]
    exact⟨_,rfl,by omega,by omega,by omega⟩
   rw[if_neg hb];by_cases hn:s.next [125]=true
   ·rw[if_pos hn]
    obtain⟨a1,a2,a3⟩:=Bn (by decide) hn;exact⟨_,rfl,by omega,by omega,by omega⟩
   rw[if_neg hn];have:=GG hb;obtain⟨a,e,k1,k2,k3⟩:=VF f s m t hb hf;rw[e]
   try dsimp only
   obtain⟨b,e2,l1,l2,l3⟩:=ih a m t (by omega) (by omega);exact⟨b,e2,by omega,by omega,by omega⟩
theorem Ny(f:Nat):∀(g:Nat) (s:Rd) (root:Nat),3*s.mu+4≤f→s.mu+1≤g→∃s',CZ f g s root=some s'∧W 0 0 s s':=by
 intro g
 induction g with
 |zero=>intro s r h h2;omega
 |succ g ih=>
   intro s root hf hg;rw[CZ];by_cases hb:s.bad=true∨s.L.length≤s.at_
   ·rw[if_pos hb]
    exact⟨_,rfl,by omega,by omega,by omega⟩
   rw[if_neg hb]
   try dsimp only
   have hbb:¬s.bad=true:=fun h=>hb (.inl h);have:=GG hbb;obtain⟨a1,a2,a3⟩:=Ct s (t:=DI) (by decide);obtain⟨b1,b2,b3⟩:=Jg (s.need DI);generalize(s.need DI).text 1=t;generalize(s.need DI).name=a at b1 b2 b3⊢;have hq:Q 0 0 a (if inL a.mods t=true then a.fault 10 else a):=by
    split
    ·exact KX a 10
    ·exact⟨by omega,by omega,by omega⟩
   obtain⟨c1,c2,c3⟩:=hq;generalize(if inL a.mods t=true then a.fault 10 else a)=b at c1 c2 c3⊢;have hq2:Q 0 0 b ({b with mods:=b.mods++[t]}:Rd):=Eb rfl rfl id rfl;obtain⟨d1,d2,d3⟩:=hq2;generalize({b with mods:=b.mods++[t]}:Rd)=c at d1 d2 d3⊢;obtain⟨e1,e2,e3⟩:=C9 c root (Ac 2 t);obtain⟨g1,g2,g3⟩:=Ct (c.node root (Ac 2 t)) (t:=[123]) (by decide);obtain⟨d,hd,k1,k2,k3⟩:=NV f f ((c.node root (Ac 2 t)).need [123]) b.rows.length t (by omega) (by omega);rw[hd]
   try dsimp only
   obtain⟨x,hx,l1,l2,l3⟩:=ih d root (by omega) (by omega);exact⟨x,hx,by omega,by omega,by omega⟩
theorem Y8:∀(is:List Nat) (ws:List Str) (s:Rd),Q 0 0 s (link is ws s):=by
 intro is
 induction is with
 |nil=>intro ws s;cases ws <;>exact⟨by simp[link],by simp[link],by simp[link]⟩
 |cons i is ih=>
   intro ws s;cases ws with
   |nil=>exact⟨by simp[link],by simp[link],by simp[link]⟩
   |cons t ws=>
     rw[link]
     try dsimp only
     have hq:Q 0 0 s (if lastOf s.funcs s.ids t=0 then s.fault 9 else s):=by
      split
      ·exact KX s 9
      ·exact⟨by omega,by omega,by omega⟩
     obtain⟨a1,a2,a3⟩:=hq;obtain⟨b1,b2,b3⟩:=Mo (if lastOf s.funcs s.ids t=0 then s.fault 9 else s) (i-1) (lastOf s.funcs s.ids t);obtain⟨c1,c2,c3⟩:=ih ws ((if lastOf s.funcs s.ids t=0 then s.fault 9 else s).DL (i-1) (lastOf s.funcs s.ids t));exact⟨by omega,by omega,by omega⟩
theorem PM(f:Nat)(l:List Tok)(hf:3*l.length+10≤f):∃s',program f (Bd l)=some s'∧s'.rows.length≤3*l.length+4∧s'.at_≤2*l.length+2:=by
 unfold program
 try dsimp only
 have h0:(Bd l).mu=l.length+1:=MK (by simp[Bd]);have h1:(Bd l).rows.length=0:=rfl;have h2:(Bd l).at_=0:=rfl;obtain⟨a1,a2,a3⟩:=C9 (Bd l) 0 (nd 1);obtain⟨s1,e,b1,b2,b3⟩:=Ny f f ((Bd l).node 0 (nd 1)) (Bd l).rows.length (by omega) (by omega);rw[e];obtain⟨c1,c2,c3⟩:=Y8 s1.calls s1.wants s1;exact⟨_,rfl,by omega,by omega⟩
end Rd
end Hg
