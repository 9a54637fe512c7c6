/-
  A part of the proof.
-/
set_option linter.all false
namespace Hg
abbrev Str:=List UInt8
structure Tok where
 kind:Nat
 text:Str
 pos:Nat
deriving Inhabited,DecidableEq
structure Node where
 kind:Nat
 name:Str
 num:Int
 type:Nat
 ref:Nat
 kids:List Nat
deriving Inhabited,DecidableEq
structure Row where
 id:Nat
 node:Node
deriving Inhabited,DecidableEq
def Node.zero:Node:=⟨0,[],0,0,0,[]⟩
def cls(c:UInt8):Nat:=
 if (97≤c.toNat∧c.toNat≤122)∨(65≤c.toNat∧c.toNat≤90)∨c.toNat=95 then 1
 else if 48≤c.toNat∧c.toNat≤57 then 2
 else if c.toNat=32∨c.toNat=9∨c.toNat=10 then 3 else 0
def Be(c:UInt8):Bool:=cls c==1||cls c==2
def inL(l:List Str)(s:Str):Bool:=l.any (· ==s)
def Ce(s:Str):Bool:=
 match s with
 |[]=>false
 |c::_=>s.length≤64 && cls c==1 && s.all Be
def valOf(s:Str):Nat:=s.foldl (fun n c=>10*n+(c.toNat-48)) 0
def CQ(s:Str):Int:=
 match s with
 |[]=> -1
 |c::r=>
   if 19 < s.length∨(c.toNat=48∧r≠[]) then -1
   else if s.all (fun c=>cls c==2) then(if 9223372036854775807 < valOf s then -1 else(valOf s:Int)) else -1
def P8:Str:=[98,111,111,108]
def wDo:Str:=[100,111]
def J3:Str:=[101,108,115,101]
def GK:Str:=[102,97,108,115,101]
def DJ:Str:=[102,117,110,99]
def wIf:Str:=[105,102]
def wInt:Str:=[105,110,116]
def wLet:Str:=[108,101,116]
def Cb:Str:=[109,111,100,117,108,101]
def Gu:Str:=[112,114,105,110,116]
def JQ:Str:=[114,101,97,100]
def BN:Str:=[114,101,116,117,114,110]
def JP:Str:=[116,114,117,101]
def Gt:Str:=[119,104,105,108,101]
def words:List Str:=[P8,wDo,J3,GK,DJ,wIf,wInt,wLet,Cb,Gu,JQ,BN,JP,Gt]
def signs:List Str:=[[40],[41],[123],[125],[46],[44],[59],[61],[33],[43],[45],[42],[47],[37],[60],[60,61],[62],[62,61],[61,61],[33,61],[38,38],[124,124]]
def BD:Nat→Nat→Str→List Tok→Option (List Tok)
 |0,_,_,acc=>some acc
 |f+1,i,s,acc=>
   match s with
   |[]=>some acc
   |c::r=>
     if cls c=3 then BD f (i+1) r acc
     else if c.toNat=35 then
      let k:=(s.takeWhile (fun b=>b.toNat !=10)).length
      BD f (i+k) (s.drop k) acc
     else if 0 < cls c then
      let w:=s.takeWhile Be
      let nx:=fun t=>BD f (i+w.length) (s.drop w.length) (acc++[t])
      if inL words w then nx ⟨3,w,i⟩
      else if Ce w then nx ⟨1,w,i⟩
      else if 0≤CQ w then nx ⟨2,w,i⟩
      else none
     else
      let w:=if inL signs (s.take 2)∧2≤s.length then s.take 2 else s.take 1
      if inL signs w then BD f (i+w.length) (s.drop w.length) (acc++[⟨4,w,i⟩]) else none
def Dj(s:Str):Option (List Tok):=BD s.length 0 s []
structure GJ where
 name:Str
 id:Nat
 deep:Nat
deriving Inhabited,DecidableEq
structure Rd where
 L:List Tok
 at_:Nat
 deep:Nat
 bad:Bool
 rows:List Row
 names:Nat
 mods:List Str
 funcs:List Str
 ids:List Nat
 calls:List Nat
 wants:List Str
 used:List Str
 seen:List GJ
 level:Nat
deriving Inhabited,DecidableEq
namespace Rd
def BF(l:List Tok):Rd:=⟨l,0,0,false,[],0,[],[],[],[],[],[],[],0⟩
def fault(r:Rd)(e:Nat):Rd:=if r.names=0∧r.bad=false then {r with names:=e} else r
def Eg(l:List Row)(under id:Nat):List Row:=
 l.modify under fun x=>{x with node:={x.node with kids:=x.node.kids++[id]}}
def node(r:Rd)(under:Nat)(n:Node):Rd:=
 let id:=r.rows.length+1
 let rows:=r.rows++[⟨id,n⟩]
 {r with rows:=if 1 < id then Eg rows under id else rows}
def text(r:Rd)(kind:Nat):Str:=
 if r.bad then[] else
  match r.L[r.at_]? with
  |some t=>if t.kind=kind then t.text else[]
  |none=>[]
def next(r:Rd)(s:Str):Bool:=r.text 3==s||r.text 4==s
def step(r:Rd):Rd:={r with at_:=r.at_+1}
def eat(r:Rd)(s:Str):Rd:=if r.next s then r.step else r
def setBad(r:Rd):Rd:={r with bad:=true}
def need(r:Rd)(s:Str):Rd:=if r.next s then r.step else r.setBad
def name(r:Rd):Rd:=if r.text 1=[] then r.setBad else r.step
def typed(r:Rd):Nat×Rd:=if r.next wInt then(1,r.step) else(2,r.need P8)
def Ar(r:Rd)(k t:Nat):Rd:={r with rows:=r.rows.modify k fun x=>{x with node:={x.node with type:=t}}}
def DN(r:Rd)(k id:Nat):Rd:={r with rows:=r.rows.modify k fun x=>{x with node:={x.node with ref:=id}}}
def CF(r:Rd)(k:Nat)(n:Int):Rd:={r with rows:=r.rows.modify k fun x=>{x with node:={x.node with num:=n}}}
def idAt(r:Rd)(k:Nat):Nat:=((r.rows[k]?).map (·.id)).getD 0
def declare(r:Rd)(s:Str)(k:Nat):Rd:=
 let r:=if inL r.used s then r.fault 10 else r
 {r with used:=r.used++[s],seen:=r.seen++[⟨s,r.idAt k,r.level⟩]}
def Js(l:List GJ)(s:Str):Option Nat:=(l.reverse.find? (fun b=>b.name==s)).map (·.id)
def find(r:Rd)(s:Str):Nat×Rd:=
 match Js r.seen s with
 |some id=>(id,r)
 |none=>(0,r.fault 9)
def enter(r:Rd):Rd:=
 let r:={r with deep:=r.deep+1}
 if 90 < r.deep then r.setBad else r
def leave(r:Rd):Rd:={r with deep:=r.deep-1}
end Rd
end Hg
namespace Hg
namespace Rd
def ops:List Str:=[[43],[45],[42],[47],[37],[60],[60,61],[62],[62,61],[61,61],[33,61],[38,38],[124,124]]
def opOf(s:Str):Nat:=match ops.findIdx? (· ==s) with|some i=>i+1|none=>0
def nd(kind:Nat):Node:=⟨kind,[],0,0,0,[]⟩
def AX(kind:Nat)(s:Str):Node:=⟨kind,s,0,0,0,[]⟩
def Lp(kind:Nat)(n:Int):Node:=⟨kind,[],n,0,0,[]⟩
def shut(r:Rd):Rd:={r with seen:=r.seen.filter (fun b=>b.deep < r.level),level:=r.level-1}
mutual
def expr:Nat→Rd→Nat→Option Rd
 |0,_,_=>none
 |f+1,r,under=>
   if r.text 2≠[] then some (r.step.node under (Lp 13 (CQ (r.text 2))))
   else if r.text 1≠[] then
    let s:=r.text 1
    let r:=r.step
    if r.next [46] then call f r under s
    else
     let n:=r.rows.length
     let r:=r.node under (nd 15)
     some ((r.find s).2.DN n (r.find s).1)
   else if r.next JP then some (r.step.node under (Lp 14 1))
   else if r.next GK then some (r.step.node under (nd 14))
   else if r.next JQ then some (r.step.node under (nd 20))
   else if r.next [33]∨r.next [45] then
    let kind:=if r.next [33] then 16 else 17
    let n:=r.rows.length
    let r:=(r.step.node under (nd kind)).enter
    if r.bad then some r.leave else(expr f r n).map leave
   else if r.next [40] then
    let n:=r.rows.length
    let r:=(r.step.node under (nd 18)).enter
    if r.bad then some r.leave else
     match expr f r n with
     |none=>none
     |some r=>
       let op:=opOf (r.text 4)
       let r:=r.CF n op
       let r:=if op=0 then r.setBad else r
       match expr f r.step n with
       |none=>none
       |some r=>some (r.need [41]).leave
   else some r.setBad
def call:Nat→Rd→Nat→Str→Option Rd
 |0,_,_,_=>none
 |f+1,r,under,mod=>
   let n:=r.rows.length
   let r:=(r.node under (nd 19)).need [46]
   let s:=r.text 1
   let r:=r.name
   let r:={r with calls:=r.calls++[r.idAt n],wants:=r.wants++[mod++[32]++s]}
   let r:=r.enter
   if r.bad then some r.leave else(args f true (r.need [40]) n).map leave
def args:Nat→Bool→Rd→Nat→Option Rd
 |0,_,_,_=>none
 |f+1,first,r,n=>
   if r.bad then some r
   else if r.next [41] then some r.step
   else
    match expr f (if first then r else r.need [44]) n with
    |none=>none
    |some r=>args f false r n
end
mutual
def stmt:Nat→Rd→Nat→Option Rd
 |0,_,_=>none
 |f+1,r,under=>
   let n:=r.rows.length
   if r.next wLet then
    let r:=r.step
    let s:=r.text 1
    let r:=r.name.node under (AX 6 s)
    let t:=r.typed
    let r:=(t.2.Ar n t.1).need [61]
    match expr f r n with
    |none=>none
    |some r=>some ((r.declare s n).need [59])
   else if r.next wIf then
    match expr f (r.step.node under (nd 8)) n with
    |none=>none
    |some r=>
      match block f r n with
      |none=>none
      |some r=>block f (r.need J3) n
   else if r.next Gt then
    match expr f (r.step.node under (nd 9)) n with
    |none=>none
    |some r=>block f r n
   else if r.next Gu then
    (expr f (r.step.node under (nd 11)) n).map (·.need [59])
   else if r.next wDo then
    let r:=r.step.node under (nd 12)
    (call f r.name n (r.text 1)).map (·.need [59])
   else
    let s:=r.text 1
    let r:=r.name.node under (nd 7)
    let r:=((r.find s).2.DN n (r.find s).1).need [61]
    (expr f r n).map (·.need [59])
def block:Nat→Rd→Nat→Option Rd
 |0,_,_=>none
 |f+1,r,under=>
   let n:=r.rows.length
   let r:=r.node under (nd 5)
   let r:=({r with level:=r.level+1}:Rd).enter
   if r.bad then some r.leave.shut else(stmts f (r.need [123]) n).map (fun r=>r.leave.shut)
def stmts:Nat→Rd→Nat→Option Rd
 |0,_,_=>none
 |f+1,r,n=>
   if r.bad then some r
   else if r.next [125] then some r.step
   else
    match stmt f r n with
    |none=>none
    |some r=>stmts f r n
end
def params:Nat→Bool→Rd→Nat→Option Rd
 |0,_,_,_=>none
 |f+1,first,r,k=>
   if r.bad then some r
   else if r.next [41] then some r.step
   else
    let r:=if first then r else r.need [44]
    let x:=r.text 1
    let p:=r.rows.length
    let r:=r.name.node k (AX 4 x)
    let t:=r.typed
    params f false ((t.2.Ar p t.1).declare x p) k
def body:Nat→Rd→Nat→Option Rd
 |0,_,_=>none
 |f+1,r,n=>
   if r.bad∨r.next BN then some r
   else
    match stmt f r n with
    |none=>none
    |some r=>body f r n
def func(f:Nat)(r:Rd)(under:Nat)(mod:Str):Option Rd:=
 let r:=r.need DJ
 let s:=r.text 1
 let r:=r.name
 let r:=if inL r.funcs (mod++[32]++s) then r.fault 10 else r
 let k:=r.rows.length
 let r:=r.node under (AX 3 s)
 let r:={r with funcs:=r.funcs++[mod++[32]++s],ids:=r.ids++[r.idAt k],used:=[],seen:=[],level:=0}
 match params f true (r.need [40]) k with
 |none=>none
 |some r=>
   let t:=r.typed
   let r:=t.2.Ar k t.1
   let b:=r.rows.length
   let r:=(r.node k (nd 5)).need [123]
   match body f r b with
   |none=>none
   |some r=>
     let r:=r.need BN
     let n:=r.rows.length
     match expr f (r.node b (nd 10)) n with
     |none=>none
     |some r=>some ((r.need [59]).need [125])
def Ba(f:Nat):Nat→Rd→Nat→Str→Option Rd
 |0,_,_,_=>none
 |g+1,r,m,s=>
   if r.bad then some r
   else if r.next [125] then some r.step
   else
    match func f r m s with
    |none=>none
    |some r=>Ba f g r m s
def Bh(f:Nat):Nat→Rd→Nat→Option Rd
 |0,_,_=>none
 |g+1,r,root=>
   if r.bad∨r.L.length≤r.at_ then some r
   else
    let r:=r.need Cb
    let s:=r.text 1
    let r:=r.name
    let r:=if inL r.mods s then r.fault 10 else r
    let r:={r with mods:=r.mods++[s]}
    let m:=r.rows.length
    let r:=(r.node root (AX 2 s)).need [123]
    match Ba f f r m s with
    |none=>none
    |some r=>Bh f g r root
def DU:List Str→List Nat→Str→Nat→Nat
 |f::fs,i::is,s,t=>DU fs is s (if f=s then i else t)
 |_,_,_,t=>t
def lastOf(fs:List Str)(is:List Nat)(s:Str):Nat:=DU fs is s 0
def link:List Nat→List Str→Rd→Rd
 |id::is,s::ws,r=>
   let to:=lastOf r.funcs r.ids s
   let r:=if to=0 then r.fault 9 else r
   link is ws (r.DN (id-1) to)
 |_,_,r=>r
def program(f:Nat)(r:Rd):Option Rd:=
 let root:=r.rows.length
 match Bh f f (r.node 0 (nd 1)) root with
 |none=>none
 |some r=>some (link r.calls r.wants r)
end Rd
def PO(f:Nat)(s:Str):Option (List Row×Nat):=
 match Dj s with
 |none=>some ([],20)
 |some l=>
   match Rd.program f (Rd.BF l) with
   |none=>none
   |some r=>
     if r.bad then some ([],20)
     else if 20000 < r.rows.length then some ([],5)
     else if r.names≠0 then some ([],r.names)
     else some (r.rows,0)
end Hg
theorem AA{n:Nat}:n≤n:=Nat.le_refl n
abbrev AO:= @Nat.le_trans
abbrev Ad:= @Nat.lt_of_lt_of_le
abbrev AZ:= @Array.getElem?_eq_some_iff
abbrev Ah:= @List.getElem?_eq_some_iff
abbrev Aa:= @List.getElem?_eq_getElem
abbrev Aw:= @List.drop_eq_getElem_cons
namespace Hg
def atI(l:List Row)(id:Nat):Option Nat:=l.findIdx? (fun r=>r.id==id)
def Kj(l:List Row)(id:Nat):Int:=match atI l id with|some k=>(k:Int)|none=> -1
def parentOf:List Row→Nat→Nat×Nat
 |[],_=>(0,0)
 |r::rs,id=>match r.node.kids.findIdx? (· ==id) with
   |some k=>(r.id,k)
   |none=>parentOf rs id
def AL(l:List Row)(id:Nat):Node:=match l.find? (fun r=>r.id==id) with|some r=>r.node|none=>Node.zero
def isIn(l:List Nat)(x:Nat):Bool:=l.contains x
def numT(n:Nat):Str:=if n < 10 then[UInt8.ofNat (48+n)] else if n < 100 then[UInt8.ofNat (48+n / 10),UInt8.ofNat (48+n % 10)] else[UInt8.ofNat (48+n / 100),UInt8.ofNat (48+n / 10 % 10),UInt8.ofNat (48+n % 10)]
def rowAt(l:List Row)(k:Nat):Row:=l.getD k default
def CX(l:List Row)(k:Nat):List Nat:=(rowAt l k).node.kids
def D8(l:List Row):Nat→List Nat→List Nat→Option (List Nat)
 |0,_,_=>none
 |_+1,[],out=>some out
 |f+1,i::wait,out=>
   match atI l i with
   |none=>D8 l f wait out
   |some k=>if isIn out i=true then D8 l f wait out else D8 l f (CX l k++wait) (out++[i])
def BO(l:List Row):Nat:=(l.map (fun r=>r.node.kids.length)).sum
def Dm(l:List Row)(wait out:List Nat):Nat:=wait.length+BO (l.filter (fun r=> !isIn out r.id))
def walk(l:List Row)(id:Nat):List Nat:=(D8 l (BO l+2) [id] []).getD []
def FB(D:Nat→Nat):List Nat→Nat→Nat
 |[],most=>most+1
 |k::ks,most=>if D k=0 then 0 else FB D ks (max most (D k))
def CU(l:List Row):Nat→Nat→Nat
 |0,_=>0
 |n+1,id=>FB (CU l n) (CX l ((atI l id).getD 0)) 0
def CP(l:List Row):List Nat→Nat→Option Nat
 |[],n=>some n
 |k::ks,n=>if atI l k=none∨k=1 then none else CP l ks (n+1)
def CO(l:List Row):List Row→Nat→Option Nat
 |[],n=>some n
 |r::rs,n=>if r.node.ref≠0∧atI l r.node.ref=none then none else
   match CP l r.node.kids n with
   |none=>none
   |some n=>CO l rs n
def tree(l:List Row):Bool:=
 match atI l 1 with
 |none=>false
 |some k=>if (rowAt l k).node.kind≠1∨(walk l 1).length≠l.length then false else
   match CO l l 0 with
   |none=>false
   |some n=>decide (n+1=l.length) && decide (0 < CU l 200 1)
def EB(kind:Nat):Bool:=decide (13≤kind) && decide (kind≤20)
def BU(kind:Nat):UInt8:=
 if kind=19 then 67 else if EB kind then 69 else if kind=10 then 82 else if 6≤kind∧kind≤12 then 83 else if kind=5 then 66 else if kind=4 then 80 else if kind=3 then 70 else if kind=2 then 77 else 88
def only (s letters:Str):Bool:=s.all (fun c=>letters.any (fun x=>c==x))
def fits(kind:Nat)(s:Str)(body:Bool):Bool:=
 if kind=1 then only s [77]
 else if kind=2 then only s [70]
 else if kind=3 then decide (0 < s.length) && only (s.take (s.length-1)) [80] && s.drop (s.length-1)==[66]
 else if kind=5 then(if body then decide (0 < s.length) && only (s.take (s.length-1)) [83] && s.drop (s.length-1)==[82] else only s [83])
 else if kind=6∨kind=7∨kind=10∨kind=11∨kind=16∨kind=17 then decide (s.length=1) && only s [69,67]
 else if kind=8 then decide (s.length=3) && only (s.take 1) [69,67] && s.drop 1==[66,66]
 else if kind=9 then decide (s.length=2) && only (s.take 1) [69,67] && s.drop 1==[66]
 else if kind=12 then s==[67]
 else if kind=18 then decide (s.length=2) && only s [69,67]
 else if kind=19 then only s [69,67]
 else decide (s.length=0)
def kindOf(l:List Row)(id:Nat):Nat:=(AL l id).kind
def classes(l:List Row)(kids:List Nat):Str:=kids.map (fun k=>BU (kindOf l k))
def isNamed(k:Nat):Bool:=decide (k=2)||decide (k=3)||decide (k=4)||decide (k=6)
def Bu(l:List Row)(r:Row):Bool:=
 let n:=r.node
 if n.kind < 1∨20 < n.kind∨decide (n.kind=1)≠decide (r.id=1)∨fits n.kind (classes l n.kids) (decide (kindOf l (parentOf l r.id).1=3))=false then false
 else if isNamed n.kind≠(n.name !=[])∨isNamed n.kind=true∧(Ce n.name=false∨inL words n.name=true) then false
 else if (isNamed n.kind && decide (n.kind≠2))≠(decide (n.type=1)||decide (n.type=2))∨(isNamed n.kind && decide (n.kind≠2))=false∧n.type≠0 then false
 else if n.kind=7∨n.kind=15 then
  (if kindOf l n.ref≠4∧kindOf l n.ref≠6 then false else decide (n.num=0))
 else if n.kind=19 then
  (if kindOf l n.ref≠3 then false else decide (n.num=0))
 else if n.ref≠0 then false
 else if n.kind=13 then decide (0≤n.num)
 else if n.kind=14 then decide (0≤n.num∧n.num≤1)
 else if n.kind=18 then decide (1≤n.num∧n.num≤13)
 else decide (n.num=0)
def Db(l:List Row)(D:Nat→Option Nat)(kind:Nat):List Nat→Nat→Option Nat
 |[],most=>some (if 16≤kind∧kind≤19 then most+1 else most)
 |k::ks,most=>
   match D k with
   |none=>none
   |some d=>Db l D kind ks (max most (if kindOf l k=5∧kind≠3 then d+1 else d))
def DV(l:List Row):Nat→Nat→Option Nat
 |0,_=>none
 |f+1,id=>Db l (DV l f) (kindOf l id) (AL l id).kids 0
def CE(l:List Row):List Row→Option Bool
 |[]=>some true
 |r::rs=>if r.node.kind=3 then
     (match DV l 201 r.id with
      |none=>none
      |some d=>if 90 < d then some false else CE l rs)
   else CE l rs
def Bv(l:List Row):List Row→Bool
 |[]=>true
 |r::rs=>if Bu l r=false then false else Bv l rs
def shaped(l:List Row):Option Bool:=if tree l=false then some false else if Bv l l=false then some false else CE l l
def typeOf(l:List Row)(id:Nat):Nat:=
 let n:=AL l id
 if n.kind=13∨n.kind=17∨n.kind=20 then 1
 else if n.kind=14∨n.kind=16 then 2
 else if n.kind=18 then(if 5 < n.num then 2 else 1)
 else if n.kind=15∨n.kind=19 then(AL l n.ref).type
 else 0
def Bc(l:List Row)(f:Nat):List Nat:=(((AL l f).kids.filter (fun k=>kindOf l k==4)).map (fun k=>(AL l k).type))
def Bj(l:List Row)(n:Node)(i want:Nat):Bool:=decide (typeOf l (n.kids.getD i 0)≠want)
def Df(l:List Row)(n:Node):Nat→List Nat→Bool
 |_,[]=>false
 |i,x::xs=>Bj l n i x||Df l n (i+1) xs
def BC(l:List Row)(n:Node)(fn:Nat):Bool:=
 if n.kind=6 then Bj l n 0 n.type
 else if n.kind=7 then Bj l n 0 (AL l n.ref).type
 else if n.kind=8∨n.kind=9∨n.kind=16 then Bj l n 0 2
 else if n.kind=10 then Bj l n 0 (AL l fn).type
 else if n.kind=17 then Bj l n 0 1
 else if n.kind=18 then
  (let want := if n.num = 10 ∨ n.num = 11 then typeOf l (n.kids.getD 0 0) else if n.num < 10 then 1 else 2
   Bj l n 0 want||Bj l n 1 want)
 else if n.kind=19 then
  (let p := Bc l n.ref
   if p.length≠n.kids.length then true else Df l n 0 p)
 else false
structure Vis where
 hidden:Bool
 wrong:Bool
deriving Inhabited,DecidableEq
def Dv(l:List Row)(V:Vis→Nat→List Nat→Option Vis):List Nat→List Nat→Vis→Option Vis
 |[],_,v=>some v
 |k::ks,seen,v=>
   match V v k seen with
   |none=>none
   |some v=>Dv l V ks (if kindOf l k=6∨kindOf l k=4 then seen++[k] else seen) v
def C8(l:List Row)(fn:Nat):Nat→Vis→Nat→List Nat→Option Vis
 |0,_,_,_=>none
 |f+1,v,id,seen=>
   let n:=AL l id
   Dv l (C8 l fn f) n.kids seen ⟨v.hidden||((decide (n.kind=7)||decide (n.kind=15)) && !isIn seen n.ref),v.wrong||BC l n fn⟩
def twice:List Str→Bool
 |s=>(List.range s.length).any fun i=>inL (s.take i) (s.getD i [])
def CZ(l:List Row)(f:Nat):List Str:=((walk l f).filter (fun id=>kindOf l id==4||kindOf l id==6)).map (fun id=>(AL l id).name)
structure Alls where
 clash:Bool
 vis:Vis
deriving Inhabited,DecidableEq
def Cz(l:List Row):List Nat→List Str→Alls→Option (List Str×Alls)
 |[],funcs,a=>some (funcs,a)
 |f::fs,funcs,a=>
   match C8 l f 201 a.vis f [] with
   |none=>none
   |some v=>Cz l fs (funcs++[(AL l f).name]) ⟨a.clash||twice (CZ l f),v⟩
def D6(l:List Row):List Nat→List Str→Alls→Option (List Str×Alls)
 |[],mods,a=>some (mods,a)
 |m::ms,mods,a=>
   match Cz l (AL l m).kids [] a with
   |none=>none
   |some (funcs,a)=>D6 l ms (mods++[(AL l m).name]) ⟨a.clash||twice funcs,a.vis⟩
def IE(l:List Row):Option Alls:=
 match D6 l (AL l 1).kids [] ⟨false,⟨false,false⟩⟩ with
 |none=>none
 |some (mods,a)=>some ⟨a.clash||twice mods,a.vis⟩
def GQ(l:List Row)(m:Nat)(mod name:Str):List Nat→Option Nat
 |[]=>none
 |f::fs=>if (AL l m).name=mod∧(AL l f).name=name then some f else GQ l m mod name fs
def funcOf(l:List Row)(mod name:Str):List Nat→Nat
 |[]=>0
 |m::ms=>match GQ l m mod name (AL l m).kids with
   |some f=>f
   |none=>funcOf l mod name ms
def Cj:Str:=[109,97,105,110]
def Ib(l:List Row):Nat:=
 let f:=funcOf l Cj Cj (AL l 1).kids
 if f=0∨(AL l f).type≠1∨0 < (Bc l f).length then 0 else f
def Dw(l:List Row):Option Nat:=
 match shaped l with
 |none=>none
 |some false=>some 2
 |some true=>
   match IE l with
   |none=>none
   |some a=>some (if a.clash then 10 else if a.vis.hidden then 9 else if a.vis.wrong then 11 else if Ib l=0 then 3 else 0)
theorem Dz(r:Row)(l:List Row):BO (r::l)=r.node.kids.length+BO l:=by simp[BO]
theorem Oh(out:List Nat)(i x:Nat):isIn (out++[i]) x=(isIn out x||(x==i)):=by
 unfold isIn;rw[List.contains_eq_any_beq,List.contains_eq_any_beq,List.any_append];simp
theorem KT(l:List Row)(out:List Nat)(i:Nat):BO (l.filter (fun r=> !isIn (out++[i]) r.id))≤BO (l.filter (fun r=> !isIn out r.id)):=by
 induction l with
 |nil=>simp
 |cons r l ih=>
   rw[List.filter_cons,List.filter_cons,Oh];by_cases h1:isIn out r.id=true
   ·simp[h1];exact ih
   ·have h1':isIn out r.id=false:=by simpa using h1
    by_cases h2:r.id=i
    ·have hb:(r.id==i)=true:=by simpa using h2
     rw[h1',hb];simp[Dz];omega
    ·have hb:(r.id==i)=false:=by simpa using h2
     rw[h1',hb];simp[Dz];omega
theorem DZ:∀(l:List Row) (out:List Nat) (i k:Nat),atI l i=some k→isIn out i=false→
 BO (l.filter (fun r=> !isIn (out++[i]) r.id))+(CX l k).length≤BO (l.filter (fun r=> !isIn out r.id))
 |[],out,i,k,h,ho=>by simp[atI] at h
 |r::l,out,i,k,h,ho=>by
   rw[List.filter_cons,List.filter_cons,Oh];unfold atI at h;rw[List.findIdx?_cons] at h;by_cases h2:r.id=i
   ·have hb:(r.id==i)=true:=by simpa using h2
    rw[hb] at h;simp at h;subst h;have:=KT l out i;rw[h2,ho];simp only[Bool.false_or,beq_self_eq_true,Bool.not_true,Bool.false_eq_true,if_false,Bool.not_false,if_true,Dz];have e:(CX (r::l) 0).length=r.node.kids.length:=rfl;omega
   ·have hb:(r.id==i)=false:=by simpa using h2
    rw[hb] at h;simp only[Bool.false_eq_true,if_false,Option.map_eq_some_iff] at h;obtain⟨k',hk',rfl⟩:=h;have ih:=DZ l out i k' hk' ho;have e:(CX (r::l) (k'+1))=CX l k':=by simp[CX,rowAt]
    rw[e];by_cases h1:isIn out r.id=true
    ·simp[h1];exact ih
    ·simp[h1,h2,Dz];omega
theorem I6(l:List Row):∀(f:Nat) (wait out:List Nat),Dm l wait out < f→∃r,D8 l f wait out=some r
 |0,wait,out,h=>by omega
 |f+1,[],out,h=>⟨out,rfl⟩
 |f+1,i::wait,out,h=>by
   rw[D8];unfold Dm at h;simp only[List.length_cons] at h;cases hk:atI l i with
   |none=>exact I6 l f wait out (by unfold Dm;omega)
   |some k=>
     dsimp only;by_cases hi:isIn out i=true
     ·rw[if_pos hi];exact I6 l f wait out (by unfold Dm;omega)
     ·rw[if_neg hi]
      have:=DZ l out i k hk (by simpa using hi);exact I6 l f _ _ (by unfold Dm;rw[List.length_append];omega)
theorem PE(l:List Row)(id:Nat):D8 l (BO l+2) [id] []=some (walk l id):=by
 obtain⟨r,h⟩:=I6 l (BO l+2) [id] [] (by
  unfold Dm;have:l.filter (fun r=> !isIn [] r.id)=l:=by rw[List.filter_eq_self];intro r _;rfl
  rw[this];simp;omega)
 unfold walk;rw[h];rfl
theorem Ni(D:Nat→Nat):∀(ks:List Nat) (m:Nat),0 < FB D ks m↔∀k∈ks,0 < D k
 |[],m=>by simp[FB]
 |k::ks,m=>by
   rw[FB];by_cases h:D k=0
   ·rw[if_pos h];simp[h]
   ·rw[if_neg h,Ni D ks]
    simp only[List.mem_cons,forall_eq_or_imp];exact⟨fun x=>⟨by omega,x⟩,fun x=>x.2⟩
theorem Ee(l:List Row)(n id:Nat):0 < CU l (n+1) id↔∀k∈CX l ((atI l id).getD 0),0 < CU l n k:=by
 rw[CU,Ni]
theorem Fx(l:List Row):∀(n id:Nat),0 < CU l n id→0 < CU l (n+1) id
 |0,id,h=>by simp[CU] at h
 |n+1,id,h=>by
   rw[Ee] at h⊢;exact fun k hk=>Fx l n k (h k hk)
theorem Il(l:List Row)(id:Nat):l.find? (fun r=>r.id==id)=(atI l id).bind (fun k=>l[k]?):=by
 unfold atI
 induction l with
 |nil=>rfl
 |cons r l ih=>
   rw[List.find?_cons,List.findIdx?_cons];by_cases h:(r.id==id)=true
   ·simp[h]
   ·simp only[Bool.not_eq_true] at h
    simp only[h,ih,Bool.false_eq_true,if_false];cases List.findIdx? (fun r=>r.id==id) l <;>simp
theorem DT(l:List Row)(id k:Nat)(h:atI l id=some k):AL l id=(rowAt l k).node:=by
 have hk:k < l.length:=by
  unfold atI at h;obtain⟨hk,_⟩:=List.findIdx?_eq_some_iff_getElem.1 h;exact hk
 unfold AL rowAt;rw[Il,h]
 simp[hk]
theorem Cx(l:List Row)(id:Nat)(h:atI l id=none):AL l id=Node.zero:=by
 unfold AL;rw[Il,h];rfl
theorem IX(l:List Row)(id:Nat):∀k∈(AL l id).kids,k∈CX l ((atI l id).getD 0):=by
 intro k hk;cases h:atI l id with
 |none=>rw[Cx l id h] at hk;simp[Node.zero] at hk
 |some i=>rw[DT l id i h] at hk;exact hk
def Good(l:List Row)(id:Nat):Prop:=0 < CU l 200 id
theorem Good.kid{l:List Row}{id k:Nat}(h:Good l id)(hk:k∈CX l ((atI l id).getD 0)):Good l k:=
 Fx l 199 k ((Ee l 199 id).1 h k hk)
theorem Good.kid'{l:List Row}{id k:Nat}(h:Good l id)(hk:k∈(AL l id).kids):Good l k:=h.kid (IX l id k hk)
theorem Kg(l:List Row)(D:Nat→Option Nat)(kind:Nat):∀(ks:List Nat) (m:Nat),(∀k∈ks,∃d,D k=some d)→∃r,Db l D kind ks m=some r
 |[],m,h=>⟨_,rfl⟩
 |k::ks,m,h=>by
   obtain⟨d,hd⟩:=h k (by simp);rw[Db,hd];exact Kg l D kind ks _ fun k' hk'=>h k' (by simp[hk'])
theorem Iq(l:List Row):∀(n id:Nat),0 < CU l n id→∃d,DV l n id=some d
 |0,id,h=>by simp[CU] at h
 |n+1,id,h=>by
   rw[DV];exact Kg l _ _ _ _ fun k hk=>Iq l n k ((Ee l n id).1 h k (IX l id k hk))
theorem J4(l:List Row)(V:Vis→Nat→List Nat→Option Vis):∀(ks seen:List Nat) (v:Vis),(∀k∈ks,∀v seen,∃r,V v k seen=some r)→∃r,Dv l V ks seen v=some r
 |[],seen,v,h=>⟨_,rfl⟩
 |k::ks,seen,v,h=>by
   obtain⟨d,hd⟩:=h k (by simp) v seen;rw[Dv,hd];exact J4 l V ks _ _ fun k' hk'=>h k' (by simp[hk'])
theorem Lc(l:List Row)(fn:Nat):∀(n:Nat) (v:Vis) (id:Nat) (seen:List Nat),0 < CU l n id→∃d,C8 l fn n v id seen=some d
 |0,v,id,seen,h=>by simp[CU] at h
 |n+1,v,id,seen,h=>by
   rw[C8];exact J4 l _ _ _ _ fun k hk v seen=>Lc l fn n v k seen ((Ee l n id).1 h k (IX l id k hk))
theorem Gs(l:List Row)(P:Nat→Prop)(hP:∀i k,P i→atI l i=some k→∀c∈CX l k,P c):∀(f:Nat) (wait out r:List Nat),D8 l f wait out=some r→(∀i∈wait,P i)→
 (∀i∈out,P i∧(atI l i).isSome=true)→out.Nodup→(∀i∈r,P i∧(atI l i).isSome=true)∧r.Nodup
 |0,wait,out,r,h,_,_,_=>by simp[D8] at h
 |f+1,[],out,r,h,hw,ho,hn=>by
   rw[D8] at h;injection h with h;subst h;exact⟨ho,hn⟩
 |f+1,i::wait,out,r,h,hw,ho,hn=>by
   rw[D8] at h;have hi:=hw i (by simp);have hw':∀j∈wait,P j:=fun j hj=>hw j (by simp[hj]);cases hk:atI l i with
   |none=>rw[hk] at h;exact Gs l P hP f _ _ _ h hw' ho hn
   |some k=>
     rw[hk] at h;dsimp only at h;by_cases hin:isIn out i=true
     ·rw[if_pos hin] at h;exact Gs l P hP f _ _ _ h hw' ho hn
     ·rw[if_neg hin] at h
      refine Gs l P hP f _ _ _ h (fun j hj=> ?_) (fun j hj=> ?_) ?_
      ·rcases List.mem_append.1 hj with hj|hj
       ·exact hP i k hi hk j hj
       ·exact hw' j hj
      ·rcases List.mem_append.1 hj with hj|hj
       ·exact ho j hj
       ·simp at hj;subst hj;exact⟨hi,by rw[hk];rfl⟩
      ·rw[List.nodup_append]
       refine⟨hn,by simp,fun a ha b hb=> ?_⟩;simp at hb;subst hb;intro e;subst e;unfold isIn at hin;rw[List.contains_iff_mem] at hin;exact hin ha
theorem P7(l:List Row)(id:Nat)(P:Nat→Prop)(hP:∀i k,P i→atI l i=some k→∀c∈CX l k,P c)(h:P id):(∀i∈walk l id,P i∧(atI l i).isSome=true)∧(walk l id).Nodup:=
 Gs l P hP _ _ _ _ (PE l id) (fun i hi=>by simp at hi;subst hi;exact h) (fun i hi=>by simp at hi) List.nodup_nil
theorem WL:∀(a b:List Nat),a.Nodup→(∀x∈a,x∈b)→b.length≤a.length→∀y∈b,y∈a
 |[],b,hn,hs,hl=>fun y hy=>by
   have:b=[]:=List.eq_nil_of_length_eq_zero (by simpa using hl);rw[this] at hy;exact hy
 |x::a,b,hn,hs,hl=>fun y hy=>by
   rw[List.nodup_cons] at hn;by_cases e:y=x
   ·simp[e]
   ·have hx:=hs x (by simp)
    have hlen:=List.length_erase_of_mem hx;have hpos:0 < b.length:=List.length_pos_of_mem hx;have:=WL a (b.erase x) hn.2 (fun z hz=>by
     have hzx:z≠x:=fun e=>hn.1 (e ▸ hz);exact(List.mem_erase_of_ne hzx).2 (hs z (by simp[hz]))) (by simp at hl;omega) y ((List.mem_erase_of_ne e).2 hy)
    simp[this]
theorem MU(l:List Row)(id:Nat):(atI l id).isSome=true↔id∈l.map (fun r=>r.id):=by
 unfold atI;rw[List.findIdx?_isSome]
 simp[List.any_eq_true]
theorem Me(l:List Row)(id:Nat):(walk l id).length≤l.length:=by
 obtain⟨h1,h2⟩:=P7 l id (fun _=>True) (fun _ _ _ _ _ _=>trivial) trivial;rcases Nat.lt_or_ge l.length (walk l id).length with h|h
 ·exfalso
  have hs:∀x∈walk l id,x∈l.map (fun r=>r.id):=fun x hx=>(MU l x).1 (h1 x hx).2;have key:∀(a b:List Nat),a.Nodup→(∀x∈a,x∈b)→a.length≤b.length:=by
   intro a
   induction a with
   |nil=>intro b _ _;simp
   |cons x a ih=>
     intro b hn hs;rw[List.nodup_cons] at hn;have hx:=hs x (by simp);have hlen:=List.length_erase_of_mem hx;have hpos:0 < b.length:=List.length_pos_of_mem hx;have:=ih (b.erase x) hn.2 fun z hz=>by
      have hzx:z≠x:=fun e=>hn.1 (e ▸ hz);exact(List.mem_erase_of_ne hzx).2 (hs z (by simp[hz]))
     simp;omega
  have:=key _ _ h2 hs;simp at this;omega
 ·exact h
theorem I8{l:List Row}(h:tree l=true):Good l 1∧∀r∈l,Good l r.id:=by
 unfold tree at h;cases hk:atI l 1 with
 |none=>rw[hk] at h;simp at h
 |some k=>
   rw[hk] at h;dsimp only at h;by_cases hc:(rowAt l k).node.kind≠1∨(walk l 1).length≠l.length
   ·rw[if_pos hc] at h;simp at h
   ·rw[if_neg hc] at h
    cases ht:CO l l 0 with
    |none=>rw[ht] at h;simp at h
    |some n=>
      rw[ht] at h;simp only[Bool.and_eq_true,decide_eq_true_eq] at h;have hg:Good l 1:=h.2;have hlen:(walk l 1).length=l.length:=Classical.byContradiction fun x=>hc (.inr x);obtain⟨h1,h2⟩:=P7 l 1 (Good l) (fun i k hi hk c hc=>hi.kid (by rw[hk];exact hc)) hg;refine⟨hg,fun r hr=>(h1 r.id ?_).1⟩;exact WL (walk l 1) (l.map (fun r=>r.id)) h2 (fun x hx=>(MU l x).1 (h1 x hx).2) (by simp[hlen]) r.id (List.mem_map.2 ⟨r,hr,rfl⟩)
theorem H7(l:List Row):∀(rs:List Row),(∀r∈rs,Good l r.id)→∃b,CE l rs=some b
 |[],h=>⟨_,rfl⟩
 |r::rs,h=>by
   rw[CE];have ih:=H7 l rs fun r' hr'=>h r' (by simp[hr']);by_cases hk:r.node.kind=3
   ·rw[if_pos hk]
    obtain⟨d,hd⟩:=Iq l 201 r.id (Fx l 200 _ (h r (by simp)));rw[hd];dsimp only;by_cases h9:90 < d
    ·rw[if_pos h9];exact⟨_,rfl⟩
    ·rw[if_neg h9];exact ih
   ·rw[if_neg hk];exact ih
theorem QP(l:List Row):∃b,shaped l=some b:=by
 unfold shaped;cases ht:tree l
 ·exact⟨_,rfl⟩
 ·rw[if_neg (by simp)]
  by_cases hs:Bv l l=false
  ·rw[if_pos hs];exact⟨_,rfl⟩
  ·rw[if_neg hs]
   exact H7 l l (I8 ht).2
theorem QN{l:List Row}(h:shaped l=some true):tree l=true:=by
 unfold shaped at h;cases ht:tree l
 ·rw[ht] at h;simp at h
 ·rfl
theorem Jd(l:List Row):∀(fs:List Nat) (fn:List Str) (a:Alls),(∀f∈fs,Good l f)→∃r,Cz l fs fn a=some r
 |[],fn,a,h=>⟨_,rfl⟩
 |f::fs,fn,a,h=>by
   rw[Cz];obtain⟨v,hv⟩:=Lc l f 201 a.vis f [] (Fx l 200 _ (h f (by simp)));rw[hv];exact Jd l fs _ _ fun f' hf'=>h f' (by simp[hf'])
theorem Kl(l:List Row):∀(ms:List Nat) (mn:List Str) (a:Alls),(∀m∈ms,Good l m)→∃r,D6 l ms mn a=some r
 |[],mn,a,h=>⟨_,rfl⟩
 |m::ms,mn,a,h=>by
   rw[D6];obtain⟨r,hr⟩:=Jd l (AL l m).kids [] a fun f hf=>(h m (by simp)).kid' hf;rw[hr];exact Kl l ms _ _ fun f' hf'=>h f' (by simp[hf'])
theorem Xa{l:List Row}(h:tree l=true):∃a,IE l=some a:=by
 obtain⟨r,hr⟩:=Kl l (AL l 1).kids [] ⟨false,⟨false,false⟩⟩ fun m hm=>(I8 h).1.kid' hm;unfold IE;rw[hr];exact⟨_,rfl⟩
theorem KE(l:List Row):∃r,Dw l=some r:=by
 unfold Dw;obtain⟨b,hb⟩:=QP l;rw[hb];cases b with
 |false=>exact⟨_,rfl⟩
 |true=>
   obtain⟨a,ha⟩:=Xa (QN hb);dsimp only;rw[ha];exact⟨_,rfl⟩
theorem V9(f i:Nat)(acc:List Tok):BD f i [] acc=some acc:=by cases f <;>rfl
section
variable {f i:Nat} {c:UInt8} {r:Str} {acc:List Tok}
theorem R5(h:cls c=3):BD (f+1) i (c::r) acc=BD f (i+1) r acc:=by
 simp only[BD,h,if_true]
theorem PN(h:cls c≠3)(h':c.toNat=35):BD (f+1) i (c::r) acc=
 BD f (i+((c::r).takeWhile (fun b=>b.toNat !=10)).length) ((c::r).drop ((c::r).takeWhile (fun b=>b.toNat !=10)).length) acc:=by
 simp only[BD,h,h',if_true,if_false]
theorem Uo(h:cls c≠3)(h':c.toNat≠35)(h0:0 < cls c){w:Str}(hw:(c::r).takeWhile Be=w)(hm:inL words w=true):BD (f+1) i (c::r) acc=
 BD f (i+w.length) ((c::r).drop w.length) (acc++[⟨3,w,i⟩]):=by
 simp only[BD,h,h',h0,if_true,if_false,hw,hm]
theorem Uq(h:cls c≠3)(h':c.toNat≠35)(h0:0 < cls c){w:Str}(hw:(c::r).takeWhile Be=w)(hm:inL words w=false)(hn:Ce w=true):BD (f+1) i (c::r) acc=
 BD f (i+w.length) ((c::r).drop w.length) (acc++[⟨1,w,i⟩]):=by
 simp only[BD,h,h',h0,if_true,if_false,hw,hm,hn];rfl
theorem QS(h:cls c≠3)(h':c.toNat≠35)(h0:0 < cls c){w:Str}(hw:(c::r).takeWhile Be=w)(hm:inL words w=false)(hn:Ce w=false)(hv:0≤CQ w):BD (f+1) i (c::r) acc=
 BD f (i+w.length) ((c::r).drop w.length) (acc++[⟨2,w,i⟩]):=by
 simp only[BD,h,h',h0,if_true,if_false,hw,hm,hn,hv];rfl
theorem WA(h:cls c≠3)(h':c.toNat≠35)(h0:0 < cls c){w:Str}(hw:(c::r).takeWhile Be=w)(hm:inL words w=false)(hn:Ce w=false)(hv:¬0≤CQ w):BD (f+1) i (c::r) acc=none:=by
 simp only[BD,h,h',h0,if_true,if_false,hw,hm,hn,hv];rfl
theorem R4(h:cls c≠3)(h':c.toNat≠35)(h0:¬0 < cls c)(h2:2≤(c::r).length)(hm:inL signs ((c::r).take 2)=true):BD (f+1) i (c::r) acc=
 BD f (i+2) ((c::r).drop 2) (acc++[⟨4,(c::r).take 2,i⟩]):=by
 have hl:((c::r).take 2).length=2:=by rw[List.length_take];omega
 simp only[BD,h,h',h0,if_false,hm,h2,and_self,if_true,hl]
theorem Mv(h:cls c≠3)(h':c.toNat≠35)(h0:¬0 < cls c)(h2:¬(inL signs ((c::r).take 2)=true∧2≤(c::r).length))(hm:inL signs ((c::r).take 1)=true):BD (f+1) i (c::r) acc=
 BD f (i+1) ((c::r).drop 1) (acc++[⟨4,(c::r).take 1,i⟩]):=by
 have hl:((c::r).take 1).length=1:=by simp
 simp only[BD,h,h',h0,if_false,h2,hm,if_true,hl]
theorem Tn(h:cls c≠3)(h':c.toNat≠35)(h0:¬0 < cls c)(h2:¬(inL signs ((c::r).take 2)=true∧2≤(c::r).length))(hm:inL signs ((c::r).take 1)=false):BD (f+1) i (c::r) acc=none:=by
 simp only[BD,h,h',h0,if_false,h2,hm];rfl
end
theorem JR(s:Str)(p:UInt8→Bool)(i k:Nat)(hi:i≤k)(hk:k≤s.length)(hin:∀j,i≤j→j < k→(hj:j < s.length)→p s[j]=true)
 (hend:k=s.length∨∃h:k < s.length,p s[k]=false):(s.drop i).takeWhile p=(s.drop i).take (k-i)∧((s.drop i).takeWhile p).length=k-i:=by
 have key:∀(n:Nat) (t:Str),n≤t.length→(∀j,j < n→(hj:j < t.length)→p t[j]=true)→(n=t.length∨∃h:n < t.length,p t[n]=false)→t.takeWhile p=t.take n:=by
  intro n
  induction n with
  |zero=>
    intro t _ _ h;rcases h with h|⟨h,h'⟩
    ·have:t=[]:=List.eq_nil_of_length_eq_zero h.symm
     subst this;rfl
    ·cases t with
     |nil=>simp at h
     |cons c r=>simp only[List.getElem_cons_zero] at h';simp[List.takeWhile_cons,h']
  |succ n ih=>
    intro t hn hin h;cases t with
    |nil=>simp at hn
    |cons c r=>
      have h0:=hin 0 (by omega) (by simp);simp only[List.getElem_cons_zero] at h0;rw[List.takeWhile_cons,h0,List.take_succ_cons];simp only[if_true];rw[ih r (by simpa using hn) (fun j hj hj2=>by have:=hin (j+1) (by omega) (by simp;omega);simpa using this) (by
       rcases h with h|⟨h,h'⟩
       ·left;simpa using h
       ·right;exact⟨by simpa using h,by simpa using h'⟩)]
 have h1:=key (k-i) (s.drop i) (by rw[List.length_drop];omega) (fun j hj hj2=>by
  rw[List.getElem_drop];exact hin (i+j) (by omega) (by omega) (by rw[List.length_drop] at hj2;omega)) (by
  rcases hend with h|⟨h,h'⟩
  ·left;rw[List.length_drop];omega
  ·right;refine⟨by rw[List.length_drop];omega, ?_⟩
   rw[List.getElem_drop];have:i+(k-i)=k:=by omega
   simp only[this];exact h')
 refine⟨h1, ?_⟩;rw[h1,List.length_take,List.length_drop];omega
namespace Rd
structure Grow (s s':Rd):Prop where
 L:s'.L=s.L
 at_:s.at_≤s'.at_
 bad:s.bad=true→s'.bad=true
 rows:∀(k:Nat) (r:Row),s.rows[k]? =some r→∃r',s'.rows[k]? =some r'∧r'.id=r.id∧r.node.kids.length≤r'.node.kids.length
 len:s.rows.length≤s'.rows.length
theorem Grow.refl(s:Rd):Grow s s:=⟨rfl,AA,id,fun k r h=>⟨r,h,rfl,AA⟩,AA⟩
theorem Grow.trans{a b c:Rd}(h:Grow a b)(k:Grow b c):Grow a c:=
 ⟨k.L.trans h.L, AO h.at_ k.at_, fun hb => k.bad (h.bad hb), fun i r hr => by
  obtain⟨r1,h1,h2,h3⟩:=h.rows i r hr;obtain⟨r2,k1,k2,k3⟩:=k.rows i r1 h1;exact⟨r2,k1,k2.trans h2,AO h3 k3⟩,AO h.len k.len⟩
structure Inv (s:Rd):Prop where
 mods:s.mods.length≤s.rows.length
 funcs:s.funcs.length≤s.rows.length
 ids:s.ids.length=s.funcs.length
 calls:s.calls.length≤s.rows.length
 wants:s.wants.length=s.calls.length
 used:s.used.length≤s.rows.length
 seen:s.seen.length≤s.used.length
 kids:∀(k:Nat) (r:Row),s.rows[k]? =some r→r.node.kids.length≤s.rows.length
 rid:∀(k:Nat) (r:Row),s.rows[k]? =some r→r.id=k+1
 callr:∀c∈s.calls,0 < c∧c≤s.rows.length
theorem Fu{l:List Row}{k i:Nat}{f:Row→Row}{r:Row}(h:l[i]? =some r):(l.modify k f)[i]? =some (if k=i then f r else r):=by
 rw[List.getElem?_modify,h];by_cases e:k=i <;>simp[e]
theorem EJ{l:List Row}{k i:Nat}{f:Row→Row}{r':Row}(h:(l.modify k f)[i]? =some r'):∃r,l[i]? =some r∧r'=if k=i then f r else r:=by
 rw[List.getElem?_modify] at h;cases hl:l[i]? with
 |none=>rw[hl] at h;by_cases e:k=i <;>simp[e] at h
 |some r=>
   rw[hl] at h;refine⟨r,rfl, ?_⟩;by_cases e:k=i
   ·simp[e] at h⊢;exact h.symm
   ·simp[e] at h⊢;exact h.symm
section
variable {s:Rd}
theorem Bw{s':Rd}(hL:s'.L=s.L)(ha:s.at_≤s'.at_)(hb:s.bad=true→s'.bad=true)(hr:s'.rows=s.rows):Grow s s':=
 ⟨hL,ha,hb,fun k r h=>⟨r,by rw[hr];exact h,rfl,AA⟩,by rw[hr];exact AA⟩
theorem ES{s':Rd}(h:Inv s)(h1:s'.rows=s.rows)(h2:s'.mods=s.mods)(h3:s'.funcs=s.funcs)(h4:s'.ids=s.ids)(h5:s'.calls=s.calls)(h6:s'.wants=s.wants)(h7:s'.used=s.used)(h8:s'.seen.length≤s.seen.length):Inv s':=
 ⟨by rw [h1, h2]; exact h.mods, by rw [h1, h3]; exact h.funcs, by rw [h3, h4]; exact h.ids, by rw [h1, h5]; exact h.calls, by rw [h5, h6]; exact h.wants, by rw [h1, h7]; exact h.used, by rw [h7]; exact AO h8 h.seen,
  by rw[h1];exact h.kids,by rw[h1];exact h.rid,by rw[h1,h5];exact h.callr⟩
theorem grow_step(s:Rd):Grow s s.step:=Bw rfl (Nat.le_succ _) id rfl
theorem Ig(s:Rd):Grow s s.setBad:=Bw rfl AA (fun _=>rfl) rfl
theorem Ch(s:Rd)(t:Str):Grow s (s.need t):=by unfold need;split <;>first|exact grow_step s|exact Ig s
theorem LQ(s:Rd):Grow s s.name:=by unfold name;split <;>first|exact Ig s|exact grow_step s
theorem NZ(s:Rd):Grow s s.typed.2:=by unfold typed;split <;>first|exact grow_step s|exact Ch s _
theorem Sd(s:Rd)(e:Nat):Grow s (s.fault e):=by unfold fault;split <;>first|exact Bw rfl AA id rfl|exact Grow.refl s
theorem DF(s:Rd):Grow s s.enter:=by
 unfold enter;dsimp only;split
 ·exact Bw rfl AA (fun _=>rfl) rfl
 ·exact Bw rfl AA id rfl
theorem DD(s:Rd):Grow s s.leave:=Bw rfl AA id rfl
theorem Oo(s:Rd):Grow s s.shut:=Bw rfl AA id rfl
theorem Ew(s:Rd)(k:Nat)(f:Row→Row)(hid:∀r,(f r).id=r.id)(hk:∀r,r.node.kids.length≤(f r).node.kids.length):Grow s {s with rows:=s.rows.modify k f}:=
 ⟨rfl, AA, id, fun i r h => by
  refine⟨_,Fu h, ?_, ?_⟩
  ·(split <;>first|exact hid r|exact rfl)
  ·(split <;>first|exact hk r|exact AA),by simp⟩
theorem Hm(s:Rd)(k t:Nat):Grow s (s.Ar k t):=Ew s k _ (fun _=>rfl) (fun _=>AA)
theorem Lt(s:Rd)(k t:Nat):Grow s (s.DN k t):=Ew s k _ (fun _=>rfl) (fun _=>AA)
theorem Q8(s:Rd)(k:Nat)(n:Int):Grow s (s.CF k n):=Ew s k _ (fun _=>rfl) (fun _=>AA)
theorem Oq(s:Rd)(r:Row):Grow s {s with rows:=s.rows++[r]}:=
 ⟨rfl,AA,id,fun k r' h=>⟨r',by rw[List.getElem?_append_left (Ah.1 h).1];exact h,rfl,AA⟩,by simp⟩
theorem FU(s:Rd)(u:Nat)(n:Node):Grow s (s.node u n):=by
 unfold node;dsimp only;split
 ·exact(Oq s ⟨s.rows.length+1,n⟩).trans (Ew _ u (fun x=>{x with node:={x.node with kids:=x.node.kids++[s.rows.length+1]}}) (fun _=>rfl) (fun r=>by simp))
 ·exact Oq s _
theorem BL(s:Rd)(u:Nat)(n:Node):(s.node u n).rows.length=s.rows.length+1:=by
 unfold node;dsimp only;split <;>simp[Eg]
theorem Ho(s:Rd)(t:Str)(k:Nat):Grow s (s.declare t k):=by
 unfold declare;dsimp only;split
 ·exact(Sd s 10).trans (Bw rfl AA id rfl)
 ·exact Bw rfl AA id rfl
end
theorem Ja{s s':Rd}(h:Inv s)(g:Grow s s')(hk:∀(k:Nat) (r:Row),s'.rows[k]? =some r→r.node.kids.length≤s'.rows.length)(hid:∀(k:Nat) (r:Row),s'.rows[k]? =some r→r.id=k+1)
 (h2:s'.mods=s.mods) (h3:s'.funcs=s.funcs) (h4:s'.ids=s.ids) (h5:s'.calls=s.calls) (h6:s'.wants=s.wants) (h7:s'.used=s.used) (h8:s'.seen=s.seen):Inv s':=
 ⟨by rw [h2]; exact AO h.mods g.len, by rw [h3]; exact AO h.funcs g.len, by rw [h3, h4]; exact h.ids, by rw [h5]; exact AO h.calls g.len, by rw [h5, h6]; exact h.wants,
  by rw[h7];exact AO h.used g.len,by rw[h7,h8];exact h.seen,hk,hid,fun c hc=>by rw[h5] at hc;have:=h.callr c hc;have:=g.len;omega⟩
theorem Q5{s:Rd}(h:Inv s)(u:Nat)(n:Node)(hn:n.kids=[]):Inv (s.node u n):=by
 have hg:=FU s u n;have hl:=BL s u n;have push:∀(k:Nat) (r:Row),(s.rows++[⟨s.rows.length+1,n⟩])[k]? =some r→r.node.kids.length≤s.rows.length∧r.id=k+1:=by
  intro k r hr;by_cases hk:k < s.rows.length
  ·rw[List.getElem?_append_left hk] at hr
   exact⟨h.kids k r hr,h.rid k r hr⟩
  ·rw[List.getElem?_append_right (by omega)] at hr
   by_cases e:k-s.rows.length=0
   ·rw[e] at hr
    simp only[List.getElem?_cons_zero,Option.some.injEq] at hr;subst hr;exact⟨by simp[hn],by simp;omega⟩
   ·rw[List.getElem?_eq_none (by simp;omega)] at hr;cases hr
 have all:∀(k:Nat) (r:Row),(s.node u n).rows[k]? =some r→r.node.kids.length≤s.rows.length+1∧r.id=k+1:=by
  intro k r hr;unfold node at hr;dsimp only at hr
  split at hr
  ·obtain⟨r0,h0,he⟩:=EJ hr
   obtain⟨p1,p2⟩:=push k r0 h0;subst he;split
   ·exact⟨by simp;omega,p2⟩
   ·exact⟨by omega,p2⟩
  ·obtain⟨p1,p2⟩:=push k r hr
   exact⟨by omega,p2⟩
 refine Ja h hg (fun k r hr=>by rw[hl];exact(all k r hr).1) (fun k r hr=>(all k r hr).2) ?_ ?_ ?_ ?_ ?_ ?_ ?_
 all_goals rfl
theorem Jq{s:Rd}(h:Inv s)(k:Nat)(f:Row→Row)(hid:∀r,(f r).id=r.id)(hk:∀r,(f r).node.kids=r.node.kids):Inv {s with rows:=s.rows.modify k f}:=by
 refine Ja h (Ew s k f hid (fun r=>by rw[hk];exact AA)) (fun i r hr=> ?_) (fun i r hr=> ?_) rfl rfl rfl rfl rfl rfl rfl
 ·obtain⟨r0,h0,he⟩:=EJ hr
  have:=h.kids i r0 h0;subst he;simp only[List.length_modify];split
  ·rw[hk];exact this
  ·exact this
 ·obtain⟨r0,h0,he⟩:=EJ hr
  have:=h.rid i r0 h0;subst he;split
  ·rw[hid];exact this
  ·exact this
structure Ak (s s':Rd):Prop where
 grow:Grow s s'
 inv:Inv s→Inv s'
 deep:s'.deep=s.deep
 level:s'.level=s.level
 used:s'.used=s.used
 seen:s'.seen=s.seen
 mods:s'.mods=s.mods
 funcs:s'.funcs=s.funcs
 ids:s'.ids=s.ids
theorem Ak.refl(s:Rd):Ak s s:=⟨Grow.refl s,id,rfl,rfl,rfl,rfl,rfl,rfl,rfl⟩
theorem Ak.trans{a b c:Rd}(h:Ak a b)(k:Ak b c):Ak a c:=
 ⟨h.grow.trans k.grow,fun x=>k.inv (h.inv x),k.deep.trans h.deep,k.level.trans h.level,k.used.trans h.used,k.seen.trans h.seen,k.mods.trans h.mods,k.funcs.trans h.funcs,k.ids.trans h.ids⟩
theorem BS(s:Rd):Ak s s.step:=⟨grow_step s,fun h=>ES h rfl rfl rfl rfl rfl rfl rfl AA,rfl,rfl,rfl,rfl,rfl,rfl,rfl⟩
theorem Gl(s:Rd):Ak s s.setBad:=⟨Ig s,fun h=>ES h rfl rfl rfl rfl rfl rfl rfl AA,rfl,rfl,rfl,rfl,rfl,rfl,rfl⟩
theorem Al(s:Rd)(t:Str):Ak s (s.need t):=by unfold need;split <;>first|exact BS s|exact Gl s
theorem Cr(s:Rd):Ak s s.name:=by unfold name;split <;>first|exact Gl s|exact BS s
theorem Fw(s:Rd):Ak s s.typed.2:=by unfold typed;split <;>first|exact BS s|exact Al s _
theorem Im(s:Rd)(e:Nat):Ak s (s.fault e):=by
 unfold fault;split
 ·exact⟨Bw rfl AA id rfl,fun h=>ES h rfl rfl rfl rfl rfl rfl rfl AA,rfl,rfl,rfl,rfl,rfl,rfl,rfl⟩
 ·exact Ak.refl s
theorem MP(s:Rd)(t:Str):Ak s (s.find t).2:=by unfold find;split <;>first|exact Ak.refl s|exact Im s _
theorem Au(s:Rd)(u:Nat)(n:Node)(hn:n.kids=[]):Ak s (s.node u n):=⟨FU s u n,fun h=>Q5 h u n hn,rfl,rfl,rfl,rfl,rfl,rfl,rfl⟩
theorem FZ(s:Rd)(k t:Nat):Ak s (s.DN k t):=⟨Lt s k t,fun h=>Jq h k _ (fun _=>rfl) (fun _=>rfl),rfl,rfl,rfl,rfl,rfl,rfl,rfl⟩
theorem LW(s:Rd)(k:Nat)(t:Int):Ak s (s.CF k t):=⟨Q8 s k t,fun h=>Jq h k _ (fun _=>rfl) (fun _=>rfl),rfl,rfl,rfl,rfl,rfl,rfl,rfl⟩
theorem EL(s:Rd)(k t:Nat):Ak s (s.Ar k t):=⟨Hm s k t,fun h=>Jq h k _ (fun _=>rfl) (fun _=>rfl),rfl,rfl,rfl,rfl,rfl,rfl,rfl⟩
theorem FY{s s':Rd}(h:Ak s.enter s'):Ak s s'.leave:=by
 have hd:s.enter.deep=s.deep+1:=by unfold enter;dsimp only;split <;>rfl
 have hi:Inv s→Inv s.enter:=fun h=>by unfold enter;dsimp only;split <;>exact ES h rfl rfl rfl rfl rfl rfl rfl AA
 have he:s.enter.level=s.level∧s.enter.used=s.used∧s.enter.seen=s.seen∧s.enter.mods=s.mods∧s.enter.funcs=s.funcs∧s.enter.ids=s.ids:=by
  unfold enter;dsimp only;split <;>exact⟨rfl,rfl,rfl,rfl,rfl,rfl⟩
 refine⟨((DF s).trans h.grow).trans (DD s'),fun x=> ?_, ?_,h.level.trans he.1,h.used.trans he.2.1,h.seen.trans he.2.2.1,h.mods.trans he.2.2.2.1,h.funcs.trans he.2.2.2.2.1,h.ids.trans he.2.2.2.2.2⟩
 ·exact ES (h.inv (hi x)) rfl rfl rfl rfl rfl rfl rfl AA
 ·show s'.deep-1=s.deep
  rw[h.deep,hd];omega
theorem Om(s:Rd)(u:Nat)(n:Node):(s.node u n).idAt s.rows.length=s.rows.length+1:=by
 unfold idAt node;dsimp only;split
 ·have:=Fu (k:=u) (f:=fun x:Row=>{x with node:={x.node with kids:=x.node.kids++[s.rows.length+1]}}) (show(s.rows++[⟨s.rows.length+1,n⟩])[s.rows.length]? =some ⟨s.rows.length+1,n⟩ by simp)
  unfold Eg;rw[this];simp only[Option.map_some,Option.getD_some]
  split <;>rfl
 ·simp
end Rd
end Hg
namespace Hg
namespace Rd
theorem XJ{s a s':Rd}{c:Nat}{t:Str}(A:Ak s a)(hr:s.rows.length < a.rows.length)(hcalls:a.calls=s.calls)(hw:a.wants=s.wants)(hc:0 < c∧c≤a.rows.length)
 (B:Ak {a with calls:=a.calls++[c],wants:=a.wants++[t]} s'):Ak s s':=by
 refine⟨(A.grow.trans (Bw (s:=a) (s':={a with calls:=a.calls++[c],wants:=a.wants++[t]}) rfl AA id rfl)).trans B.grow,fun h=>B.inv ?_,B.deep.trans A.deep,B.level.trans A.level,B.used.trans A.used,B.seen.trans A.seen,B.mods.trans A.mods,B.funcs.trans A.funcs,B.ids.trans A.ids⟩;have ha:=A.inv h;refine⟨ha.mods,ha.funcs,ha.ids, ?_, ?_,ha.used,ha.seen,ha.kids,ha.rid,fun x hx=> ?_⟩
 ·have:=h.calls;simp[hcalls];omega
 ·simp[ha.wants]
 ·rcases List.mem_append.1 hx with hx|hx
  ·exact ha.callr x hx
  ·simp at hx;subst hx;exact hc
theorem EM(s:Rd)(t:Str):(s.need t).calls=s.calls∧(s.need t).wants=s.wants∧(s.need t).rows=s.rows:=by unfold need;split <;>exact⟨rfl,rfl,rfl⟩
theorem Cm(s:Rd):s.name.calls=s.calls∧s.name.wants=s.wants∧s.name.rows=s.rows:=by unfold name;split <;>exact⟨rfl,rfl,rfl⟩
theorem Ol{s s':Rd}(h:s'.rows=s.rows)(k:Nat):s'.idAt k=s.idAt k:=by unfold idAt;rw[h]
theorem Co(k:Nat):(nd k).kids=[]:=rfl
theorem EQ(k:Nat)(s:Str):(AX k s).kids=[]:=rfl
theorem NU(k:Nat)(n:Int):(Lp k n).kids=[]:=rfl
theorem CL(f:Nat):(∀s u s',expr f s u=some s'→Ak s s')∧(∀s u m s',call f s u m=some s'→Ak s s')∧(∀b s n s',args f b s n=some s'→Ak s s'):=by
 induction f with
 |zero=>exact⟨fun _ _ _ h=>by simp[expr] at h,fun _ _ _ _ h=>by simp[call] at h,fun _ _ _ _ h=>by simp[args] at h⟩
 |succ f ih=>
   obtain⟨ihe,ihc,iha⟩:=ih;refine⟨fun s u s' h=> ?_,fun s u m s' h=> ?_,fun b s n s' h=> ?_⟩
   ·rw[expr] at h
    by_cases h2:s.text 2≠[]
    ·rw[if_pos h2] at h
     injection h with h;subst h;exact(BS s).trans (Au _ _ _ (NU _ _))
    rw[if_neg h2] at h;by_cases h1:s.text 1≠[]
    ·rw[if_pos h1] at h
     dsimp only at h;by_cases hd:s.step.next [46]=true
     ·rw[if_pos hd] at h
      exact(BS s).trans (ihc _ _ _ _ h)
     ·rw[if_neg hd] at h
      injection h with h;subst h;exact(((BS s).trans (Au _ _ _ (Co _))).trans (MP _ _)).trans (FZ _ _ _)
    rw[if_neg h1] at h;by_cases ht:s.next JP=true
    ·rw[if_pos ht] at h
     injection h with h;subst h;exact(BS s).trans (Au _ _ _ (NU _ _))
    rw[if_neg ht] at h;by_cases hf:s.next GK=true
    ·rw[if_pos hf] at h
     injection h with h;subst h;exact(BS s).trans (Au _ _ _ (Co _))
    rw[if_neg hf] at h;by_cases hr:s.next JQ=true
    ·rw[if_pos hr] at h
     injection h with h;subst h;exact(BS s).trans (Au _ _ _ (Co _))
    rw[if_neg hr] at h;by_cases hn:s.next [33]=true∨s.next [45]=true
    ·rw[if_pos hn] at h
     dsimp only at h;generalize hk:(if s.next [33]=true then 16 else 17)=kind at h;by_cases hb:(s.step.node u (nd kind)).enter.bad=true
     ·rw[if_pos hb] at h
      injection h with h;subst h;exact((BS s).trans (Au _ _ _ (Co _))).trans (FY (Ak.refl _))
     ·rw[if_neg hb] at h
      cases he:expr f (s.step.node u (nd kind)).enter s.rows.length with
      |none=>rw[he] at h;simp at h
      |some s1=>
        rw[he] at h;injection h with h;subst h;exact((BS s).trans (Au _ _ _ (Co _))).trans (FY (ihe _ _ _ he))
    rw[if_neg hn] at h;by_cases hp:s.next [40]=true
    ·rw[if_pos hp] at h
     dsimp only at h;by_cases hb:(s.step.node u (nd 18)).enter.bad=true
     ·rw[if_pos hb] at h
      injection h with h;subst h;exact((BS s).trans (Au _ _ _ (Co _))).trans (FY (Ak.refl _))
     ·rw[if_neg hb] at h
      cases he:expr f (s.step.node u (nd 18)).enter s.rows.length with
      |none=>rw[he] at h;simp at h
      |some s1=>
        rw[he] at h;dsimp only at h;have e1:Ak (s.step.node u (nd 18)).enter ((if opOf (s1.text 4)=0 then(s1.CF s.rows.length (opOf (s1.text 4):Nat)).setBad else s1.CF s.rows.length (opOf (s1.text 4):Nat)).step):=by
         refine(ihe _ _ _ he).trans (Ak.trans ?_ (BS _));split
         ·exact(LW _ _ _).trans (Gl _)
         ·exact LW _ _ _
        cases he2:expr f ((if opOf (s1.text 4)=0 then(s1.CF s.rows.length (opOf (s1.text 4):Nat)).setBad else s1.CF s.rows.length (opOf (s1.text 4):Nat)).step) s.rows.length with
        |none=>rw[he2] at h;simp at h
        |some s2=>
          rw[he2] at h;injection h with h;subst h;exact((BS s).trans (Au _ _ _ (Co _))).trans (FY ((e1.trans (ihe _ _ _ he2)).trans (Al _ _)))
    rw[if_neg hp] at h;injection h with h;subst h;exact Gl s
   ·rw[call] at h
    try dsimp only at h
    have hrn:((s.node u (nd 19)).need [46]).name.rows=(s.node u (nd 19)).rows:=(Cm _).2.2.trans (EM _ _).2.2;have hid:((s.node u (nd 19)).need [46]).name.idAt s.rows.length=s.rows.length+1:=(Ol hrn _).trans (Om s u _);have A:Ak s ((s.node u (nd 19)).need [46]).name:=((Au s u _ (Co _)).trans (Al _ _)).trans (Cr _);have hl:((s.node u (nd 19)).need [46]).name.rows.length=s.rows.length+1:=by rw[hrn,BL]
    refine XJ (c:=((s.node u (nd 19)).need [46]).name.idAt s.rows.length) (t:=m++[32]++((s.node u (nd 19)).need [46]).text 1) A (by omega) ((Cm _).1.trans (EM _ _).1) ((Cm _).2.1.trans (EM _ _).2.1) (by rw[hid,hl];omega) ?_;generalize({((s.node u (nd 19)).need [46]).name with calls:=((s.node u (nd 19)).need [46]).name.calls++[((s.node u (nd 19)).need [46]).name.idAt s.rows.length],wants:=((s.node u (nd 19)).need [46]).name.wants++[m++[32]++((s.node u (nd 19)).need [46]).text 1]}:Rd)=b at h⊢;by_cases hb:b.enter.bad=true
    ·rw[if_pos hb] at h
     injection h with h;subst h;exact FY (Ak.refl _)
    ·rw[if_neg hb] at h
     cases he:args f true (b.enter.need [40]) s.rows.length with
     |none=>rw[he] at h;simp at h
     |some s1=>
       rw[he] at h;injection h with h;subst h;exact FY ((Al _ _).trans (iha _ _ _ _ he))
   ·rw[args] at h
    by_cases hb:s.bad=true
    ·rw[if_pos hb] at h
     injection h with h;subst h;exact Ak.refl _
    rw[if_neg hb] at h;by_cases hn:s.next [41]=true
    ·rw[if_pos hn] at h
     injection h with h;subst h;exact BS _
    rw[if_neg hn] at h;cases he:expr f (if b=true then s else s.need [44]) n with
    |none=>rw[he] at h;simp at h
    |some s1=>
      rw[he] at h;refine Ak.trans ?_ ((ihe _ _ _ he).trans (iha _ _ _ _ h));split
      ·exact Ak.refl _
      ·exact Al _ _
end Rd
end Hg
namespace Hg
namespace Rd
structure CG (s s':Rd):Prop where
 grow:Grow s s'
 inv:Inv s→Inv s'
 deep:s'.deep=s.deep
 level:s'.level=s.level
 mods:s'.mods=s.mods
 funcs:s'.funcs=s.funcs
 ids:s'.ids=s.ids
theorem Ak.s{a b:Rd}(h:Ak a b):CG a b:=⟨h.grow,h.inv,h.deep,h.level,h.mods,h.funcs,h.ids⟩
theorem CG.refl(s:Rd):CG s s:=(Ak.refl s).s
theorem CG.trans{a b c:Rd}(h:CG a b)(k:CG b c):CG a c:=
 ⟨h.grow.trans k.grow,fun x=>k.inv (h.inv x),k.deep.trans h.deep,k.level.trans h.level,k.mods.trans h.mods,k.funcs.trans h.funcs,k.ids.trans h.ids⟩
theorem Fv(s:Rd)(e:Nat):(s.fault e).rows=s.rows∧(s.fault e).mods=s.mods∧(s.fault e).funcs=s.funcs∧(s.fault e).ids=s.ids∧(s.fault e).calls=s.calls∧(s.fault e).wants=s.wants∧(s.fault e).used=s.used∧(s.fault e).seen=s.seen∧(s.fault e).deep=s.deep∧(s.fault e).level=s.level:=by
 unfold fault;split <;>exact⟨rfl,rfl,rfl,rfl,rfl,rfl,rfl,rfl,rfl,rfl⟩
theorem Q4{s:Rd}(h:Inv s)(t:Str)(b:GJ)(hu:s.used.length < s.rows.length):Inv {s with used:=s.used++[t],seen:=s.seen++[b]}:=
 ⟨h.mods,h.funcs,h.ids,h.calls,h.wants,by simp;omega,by simp;exact h.seen,h.kids,h.rid,h.callr⟩
theorem Q6{s:Rd}(h:Inv s)(t:Str)(k:Nat)(hu:s.used.length < s.rows.length):Inv (s.declare t k):=by
 unfold declare;dsimp only;split
 ·obtain⟨e1,_,_,_,_,_,e7,e8,_,_⟩:=Fv s 10
  have hf:=(Im s 10).inv h;exact Q4 hf t _ (by rw[e1,e7];exact hu)
 ·exact Q4 h t _ hu
theorem Hu(s:Rd)(t:Str)(k:Nat):(s.declare t k).deep=s.deep∧(s.declare t k).level=s.level∧(s.declare t k).mods=s.mods∧(s.declare t k).funcs=s.funcs∧(s.declare t k).ids=s.ids∧(s.declare t k).rows=s.rows:=by
 unfold declare;dsimp only;split
 ·obtain⟨e1,e2,e3,e4,_,_,_,_,e9,e10⟩:=Fv s 10
  exact⟨e9,e10,e2,e3,e4,e1⟩
 ·exact⟨rfl,rfl,rfl,rfl,rfl,rfl⟩
theorem Gy{s a:Rd}(A:Ak s a)(hr:s.rows.length < a.rows.length)(t:Str)(k:Nat):CG s (a.declare t k):=by
 obtain⟨d1,d2,d3,d4,d5,d6⟩:=Hu a t k;exact⟨A.grow.trans (Ho a t k),fun h=>Q6 (A.inv h) t k (by rw[A.used];have:=h.used;omega),d1.trans A.deep,d2.trans A.level,d3.trans A.mods,d4.trans A.funcs,d5.trans A.ids⟩
theorem JU(s:Rd)(n:Nat):Grow s {s with level:=n}:=Bw rfl AA id rfl
theorem KA{s:Rd}(h:Inv s)(n:Nat):Inv {s with level:=n}:=ES h rfl rfl rfl rfl rfl rfl rfl AA
theorem Sy(s:Rd):s.enter.deep=s.deep+1∧s.enter.level=s.level∧s.enter.mods=s.mods∧s.enter.funcs=s.funcs∧s.enter.ids=s.ids:=by
 unfold enter;dsimp only;split <;>exact⟨rfl,rfl,rfl,rfl,rfl⟩
theorem VH{s:Rd}(h:Inv s):Inv s.enter:=by unfold enter;dsimp only;split <;>exact ES h rfl rfl rfl rfl rfl rfl rfl AA
theorem Wv{s:Rd}(h:Inv s):Inv s.leave.shut:=ES h rfl rfl rfl rfl rfl rfl rfl (List.length_filter_le _ _)
def head(s:Rd)(u:Nat):Rd:=({(s.node u (nd 5)) with level:=(s.node u (nd 5)).level+1}:Rd)
theorem QK{s s1:Rd}{u:Nat}(h:CG (s.head u).enter s1):CG s s1.leave.shut:=by
 have hn:=Au s u (nd 5) (Co 5);obtain⟨e1,e2,e3,e4,e5⟩:=Sy (s.head u);refine⟨hn.grow.trans ((JU _ _).trans ((DF _).trans (h.grow.trans ((DD _).trans (Oo _))))),fun x=>Wv (h.inv (VH (KA (hn.inv x) _))), ?_, ?_, ?_, ?_, ?_⟩
 ·show s1.deep-1=s.deep
  rw[h.deep,e1];show(s.node u (nd 5)).deep+1-1=s.deep;rw[hn.deep];omega
 ·show s1.level-1=s.level
  rw[h.level,e2];show(s.node u (nd 5)).level+1-1=s.level;rw[hn.level];omega
 ·show s1.mods=s.mods
  rw[h.mods,e3];exact hn.mods
 ·show s1.funcs=s.funcs
  rw[h.funcs,e4];exact hn.funcs
 ·show s1.ids=s.ids
  rw[h.ids,e5];exact hn.ids
theorem EO(f:Nat):(∀s u s',stmt f s u=some s'→CG s s')∧(∀s u s',block f s u=some s'→CG s s')∧(∀s n s',stmts f s n=some s'→CG s s'):=by
 induction f with
 |zero=>exact⟨fun _ _ _ h=>by simp[stmt] at h,fun _ _ _ h=>by simp[block] at h,fun _ _ _ h=>by simp[stmts] at h⟩
 |succ f ih=>
   obtain⟨ihs,ihb,ihl⟩:=ih;have E:=CL f;refine⟨fun s u s' h=> ?_,fun s u s' h=> ?_,fun s n s' h=> ?_⟩
   ·rw[stmt] at h
    try dsimp only at h
    by_cases h1:s.next wLet=true
    ·rw[if_pos h1] at h
     generalize hx:((s.step.name.node u (AX 6 (s.step.text 1))).typed.2.Ar s.rows.length (s.step.name.node u (AX 6 (s.step.text 1))).typed.1).need [61]=a at h;have A:Ak s a:=by
      rw[←hx];exact((((BS s).trans (Cr _)).trans (Au _ _ _ (EQ _ _))).trans (Fw _)).trans ((EL _ _ _).trans (Al _ _))
     have hr:s.rows.length < a.rows.length:=by
      have g1:Grow (s.step.name.node u (AX 6 (s.step.text 1))) a:=by
       rw[←hx];exact(NZ _).trans ((Hm _ _ _).trans (Ch _ _))
      have g2:=g1.len;rw[BL] at g2;have g3:=((grow_step s).trans (LQ _)).len;omega
     cases he:expr f a s.rows.length with
     |none=>rw[he] at h;simp at h
     |some b=>
       rw[he] at h;injection h with h;subst h;have B:=E.1 _ _ _ he;exact(Gy (A.trans B) (Ad hr B.grow.len) _ _).trans (Al _ _).s
    rw[if_neg h1] at h;by_cases h2:s.next wIf=true
    ·rw[if_pos h2] at h
     cases he:expr f (s.step.node u (nd 8)) s.rows.length with
     |none=>rw[he] at h;simp at h
     |some a=>
       rw[he] at h;dsimp only at h;cases hb:block f a s.rows.length with
       |none=>rw[hb] at h;simp at h
       |some b=>
         rw[hb] at h;exact(((BS s).trans (Au _ _ _ (Co _))).trans (E.1 _ _ _ he)).s.trans ((ihb _ _ _ hb).trans ((Al _ _).s.trans (ihb _ _ _ h)))
    rw[if_neg h2] at h;by_cases h3:s.next Gt=true
    ·rw[if_pos h3] at h
     cases he:expr f (s.step.node u (nd 9)) s.rows.length with
     |none=>rw[he] at h;simp at h
     |some a=>
       rw[he] at h;exact(((BS s).trans (Au _ _ _ (Co _))).trans (E.1 _ _ _ he)).s.trans (ihb _ _ _ h)
    rw[if_neg h3] at h;by_cases h4:s.next Gu=true
    ·rw[if_pos h4] at h
     cases he:expr f (s.step.node u (nd 11)) s.rows.length with
     |none=>rw[he] at h;simp at h
     |some a=>
       rw[he] at h;injection h with h;subst h;exact((((BS s).trans (Au _ _ _ (Co _))).trans (E.1 _ _ _ he)).trans (Al _ _)).s
    rw[if_neg h4] at h;by_cases h5:s.next wDo=true
    ·rw[if_pos h5] at h
     generalize hx:(s.step.node u (nd 12))=a at h;cases he:call f a.name s.rows.length (a.text 1) with
     |none=>rw[he] at h;simp at h
     |some b=>
       rw[he] at h;injection h with h;subst h;have A:Ak s a:=by rw[←hx];exact(BS s).trans (Au _ _ _ (Co _))
       exact(((A.trans (Cr _)).trans (E.2.1 _ _ _ _ he)).trans (Al _ _)).s
    rw[if_neg h5] at h;generalize hx:(s.name.node u (nd 7))=a at h;have A:Ak s a:=by rw[←hx];exact(Cr s).trans (Au _ _ _ (Co _))
    cases he:expr f (((a.find (s.text 1)).2.DN s.rows.length (a.find (s.text 1)).1).need [61]) s.rows.length with
    |none=>rw[he] at h;simp at h
    |some b=>
      rw[he] at h;injection h with h;subst h;exact(((((A.trans (MP _ _)).trans (FZ _ _ _)).trans (Al _ _)).trans (E.1 _ _ _ he)).trans (Al _ _)).s
   ·rw[block] at h
    try dsimp only at h
    change (if (s.head u).enter.bad=true then some (s.head u).enter.leave.shut else(stmts f ((s.head u).enter.need [123]) s.rows.length).map (fun r=>r.leave.shut))=some s' at h;by_cases hb:(s.head u).enter.bad=true
    ·rw[if_pos hb] at h
     injection h with h;subst h;exact QK (CG.refl _)
    ·rw[if_neg hb] at h
     cases he:stmts f ((s.head u).enter.need [123]) s.rows.length with
     |none=>rw[he] at h;simp at h
     |some a=>
       rw[he] at h;injection h with h;subst h;exact QK ((Al _ _).s.trans (ihl _ _ _ he))
   ·rw[stmts] at h
    by_cases hb:s.bad=true
    ·rw[if_pos hb] at h
     injection h with h;subst h;exact CG.refl _
    rw[if_neg hb] at h;by_cases hn:s.next [125]=true
    ·rw[if_pos hn] at h
     injection h with h;subst h;exact(BS _).s
    rw[if_neg hn] at h;cases he:stmt f s n with
    |none=>rw[he] at h;simp at h
    |some a=>
      rw[he] at h;exact(ihs _ _ _ he).trans (ihl _ _ _ h)
end Rd
end Hg
namespace Hg
namespace Rd
theorem JD:∀(f:Nat) (b:Bool) (s:Rd) (k:Nat) (s':Rd),params f b s k=some s'→CG s s':=by
 intro f
 induction f with
 |zero=>intro b s k s' h;simp[params] at h
 |succ f ih=>
   intro b s k s' h;rw[params] at h;by_cases hb:s.bad=true
   ·rw[if_pos hb] at h;injection h with h;subst h;exact CG.refl _
   rw[if_neg hb] at h;by_cases hn:s.next [41]=true
   ·rw[if_pos hn] at h;injection h with h;subst h;exact(BS _).s
   rw[if_neg hn] at h;dsimp only at h;have A0:Ak s (if b=true then s else s.need [44]):=by split <;>first|exact Ak.refl _|exact Al _ _
   generalize(if b=true then s else s.need [44])=r at h A0;have hl:(r.name.node k (AX 4 (r.text 1))).rows.length=r.rows.length+1:=by rw[BL,(Cm _).2.2]
   have A:Ak s ((r.name.node k (AX 4 (r.text 1))).typed.2.Ar r.rows.length (r.name.node k (AX 4 (r.text 1))).typed.1):=
    ((A0.trans (Cr _)).trans (Au _ _ _ (EQ _ _))).trans ((Fw _).trans (EL _ _ _))
   have hr:s.rows.length < ((r.name.node k (AX 4 (r.text 1))).typed.2.Ar r.rows.length (r.name.node k (AX 4 (r.text 1))).typed.1).rows.length:=by
    have g1:=((NZ (r.name.node k (AX 4 (r.text 1)))).trans (Hm _ r.rows.length (r.name.node k (AX 4 (r.text 1))).typed.1)).len;have g2:=A0.grow.len;omega
   exact(Gy A hr _ _).trans (ih _ _ _ _ h)
theorem MS:∀(f:Nat) (s:Rd) (n:Nat) (s':Rd),body f s n=some s'→CG s s':=by
 intro f
 induction f with
 |zero=>intro s n s' h;simp[body] at h
 |succ f ih=>
   intro s n s' h;rw[body] at h;by_cases hb:s.bad=true∨s.next BN=true
   ·rw[if_pos hb] at h;injection h with h;subst h;exact CG.refl _
   rw[if_neg hb] at h;cases he:stmt f s n with
   |none=>rw[he] at h;simp at h
   |some a=>
     rw[he] at h;exact((EO f).1 _ _ _ he).trans (ih _ _ _ h)
structure EX (s s':Rd):Prop where
 grow:Grow s s'
 inv:Inv s→Inv s'
 deep:s'.deep=s.deep
 mods:s'.mods=s.mods
theorem CG.f{a b:Rd}(h:CG a b):EX a b:=⟨h.grow,h.inv,h.deep,h.mods⟩
theorem EX.refl(s:Rd):EX s s:=(CG.refl s).f
theorem EX.trans{a b c:Rd}(h:EX a b)(k:EX b c):EX a c:=⟨h.grow.trans k.grow,fun x=>k.inv (h.inv x),k.deep.trans h.deep,k.mods.trans h.mods⟩
def EU(s:Rd)(t:Str)(k:Nat):Rd:={s with funcs:=s.funcs++[t],ids:=s.ids++[s.idAt k],used:=[],seen:=[],level:=0}
theorem UH{s a:Rd}(A:EX s a)(hf:a.funcs=s.funcs)(hr:s.rows.length < a.rows.length)(t:Str)(k:Nat):EX s (a.EU t k):=by
 refine⟨A.grow.trans (Bw rfl AA id rfl),fun h=> ?_,A.deep,A.mods⟩;have ha:=A.inv h;exact⟨ha.mods,by show(a.funcs++[t]).length≤_;rw[hf];have:=h.funcs;simp only[List.length_append,List.length_singleton];show _≤a.rows.length;omega,by show(a.ids++[_]).length=(a.funcs++[t]).length;simp[ha.ids],ha.calls,ha.wants,by simp[EU],by simp[EU],ha.kids,ha.rid,ha.callr⟩
theorem Ki(s:Rd)(b:Bool):Ak s (if b=true then s.fault 10 else s):=by split <;>first|exact Im _ _|exact Ak.refl _
theorem UG(f:Nat)(s:Rd)(u:Nat)(m:Str)(s':Rd)(h:func f s u m=some s'):EX s s':=by
 unfold func at h;dsimp only at h;have A1:Ak s (s.need DJ).name:=(Al _ _).trans (Cr _);generalize(s.need DJ).text 1=t at h;generalize(s.need DJ).name=a at h A1;have A2:Ak s (if inL a.funcs (m++[32]++t)=true then a.fault 10 else a):=A1.trans (Ki _ _);generalize(if inL a.funcs (m++[32]++t)=true then a.fault 10 else a)=b at h A2;change (match params f true (((b.node u (AX 3 t)).EU (m++[32]++t) b.rows.length).need [40]) b.rows.length with
  |none=>none
  |some r=>_)=some s' at h
 have A3:=A2.trans (Au b u (AX 3 t) (EQ _ _));have hl:s.rows.length < (b.node u (AX 3 t)).rows.length:=by rw[BL];have:=A2.grow.len;omega
 have A4:EX s ((b.node u (AX 3 t)).EU (m++[32]++t) b.rows.length):=UH A3.s.f A3.funcs hl _ _;generalize(b.node u (AX 3 t)).EU (m++[32]++t) b.rows.length=c at h A4;cases hp:params f true (c.need [40]) b.rows.length with
 |none=>rw[hp] at h;simp at h
 |some p=>
   rw[hp] at h;dsimp only at h;have A5:EX s p:=A4.trans ((Al _ _).s.trans (JD _ _ _ _ _ hp)).f;have A6:EX s (((p.typed.2.Ar b.rows.length p.typed.1).node b.rows.length (nd 5)).need [123]):=
    A5.trans ((((Fw p).trans (EL _ _ _)).trans (Au _ _ _ (Co _))).trans (Al _ _)).s.f
   generalize((p.typed.2.Ar b.rows.length p.typed.1).node b.rows.length (nd 5)).need [123]=q at h A6;cases hq:body f q (p.typed.2.Ar b.rows.length p.typed.1).rows.length with
   |none=>rw[hq] at h;simp at h
   |some v=>
     rw[hq] at h;dsimp only at h;have A7:=A6.trans (MS _ _ _ _ hq).f;cases hx:expr f ((v.need BN).node (p.typed.2.Ar b.rows.length p.typed.1).rows.length (nd 10)) (v.need BN).rows.length with
     |none=>rw[hx] at h;simp at h
     |some x=>
       rw[hx] at h;injection h with h;subst h;exact A7.trans (((((Al v BN).trans (Au _ _ _ (Co _))).trans ((CL f).1 _ _ _ hx)).trans (Al _ _)).trans (Al _ _)).s.f
end Rd
end Hg
namespace Hg
namespace Rd
theorem Hq(f:Nat):∀(g:Nat) (s:Rd) (m:Nat) (t:Str) (s':Rd),Ba f g s m t=some s'→EX s s':=by
 intro g
 induction g with
 |zero=>intro s m t s' h;simp[Ba] at h
 |succ g ih=>
   intro s m t s' h;rw[Ba] at h;by_cases hb:s.bad=true
   ·rw[if_pos hb] at h;injection h with h;subst h;exact EX.refl _
   rw[if_neg hb] at h;by_cases hn:s.next [125]=true
   ·rw[if_pos hn] at h;injection h with h;subst h;exact(BS _).s.f
   rw[if_neg hn] at h;cases he:func f s m t with
   |none=>rw[he] at h;simp at h
   |some a=>
     rw[he] at h;exact(UG _ _ _ _ _ he).trans (ih _ _ _ _ h)
structure MInv (s:Rd):Prop where
 inv:Inv s
 lt:s.mods.length < s.rows.length
theorem MN{s a:Rd}(h:MInv s)(e:Ak s a):MInv a:=⟨e.inv h.inv,by rw[e.mods];exact Ad h.lt e.grow.len⟩
theorem Ob{s:Rd}(h:MInv s)(t:Str):Inv {s with mods:=s.mods++[t]}:=
 ⟨by simp;exact h.lt,h.inv.funcs,h.inv.ids,h.inv.calls,h.inv.wants,h.inv.used,h.inv.seen,h.inv.kids,h.inv.rid,h.inv.callr⟩
theorem LD{s:Rd}(h:Inv s)(u:Nat)(n:Node)(hn:n.kids=[]):MInv (s.node u n):=⟨Q5 h u n hn,by rw[BL];have:=h.mods;show s.mods.length < _;omega⟩
theorem Tx{s a:Rd}(h:MInv s)(e:EX s a):MInv a:=⟨e.inv h.inv,by rw[e.mods];exact Ad h.lt e.grow.len⟩
theorem IZ(f:Nat):∀(g:Nat) (s:Rd) (root:Nat) (s':Rd),Bh f g s root=some s'→Grow s s'∧s'.deep=s.deep∧(MInv s→MInv s'):=by
 intro g
 induction g with
 |zero=>intro s r s' h;simp[Bh] at h
 |succ g ih=>
   intro s root s' h;rw[Bh] at h;by_cases hb:s.bad=true∨s.L.length≤s.at_
   ·rw[if_pos hb] at h;injection h with h;subst h;exact⟨Grow.refl _,rfl,id⟩
   rw[if_neg hb] at h;dsimp only at h;have A1:Ak s (s.need Cb).name:=(Al _ _).trans (Cr _);generalize(s.need Cb).text 1=t at h;generalize(s.need Cb).name=a at h A1;have A2:Ak s (if inL a.mods t=true then a.fault 10 else a):=A1.trans (Ki _ _);generalize(if inL a.mods t=true then a.fault 10 else a)=b at h A2;generalize hc:({b with mods:=b.mods++[t]}:Rd)=c at h;have gc:Grow b c:=by rw[←hc];exact Bw rfl AA id rfl
   have dc:c.deep=b.deep:=by rw[←hc]
   cases he:Ba f f ((c.node root (AX 2 t)).need [123]) b.rows.length t with
   |none=>rw[he] at h;simp at h
   |some d=>
     rw[he] at h;obtain⟨g1,d1,m1⟩:=ih _ _ _ h;have F:=Hq _ _ _ _ _ _ he;have N:=Au c root (AX 2 t) (EQ _ _);have D:=Al (c.node root (AX 2 t)) [123];refine⟨A2.grow.trans (gc.trans (N.grow.trans (D.grow.trans (F.grow.trans g1)))), ?_,fun hm=>m1 (Tx (MN (LD ?_ _ _ (EQ _ _)) D) F)⟩
     ·rw[d1,F.deep,D.deep,N.deep,dc,A2.deep]
     ·rw[←hc];exact Ob (MN hm A2) t
theorem UA:∀(is:List Nat) (ws:List Str) (s:Rd),Ak s (link is ws s):=by
 intro is
 induction is with
 |nil=>intro ws s;cases ws <;>exact Ak.refl _
 |cons i is ih=>
   intro ws s;cases ws with
   |nil=>exact Ak.refl _
   |cons t ws=>
     rw[link];refine Ak.trans ?_ (ih ws _);refine Ak.trans ?_ (FZ _ _ _)
     split <;>first|exact Im _ _|exact Ak.refl _
end Rd
end Hg
namespace Hg
namespace Rd
def mu(s:Rd):Nat:=if s.bad=true then 0 else s.L.length-s.at_+1
theorem ZA{s:Rd}(h:s.bad=true):s.mu=0:=by unfold mu;rw[if_pos h]
theorem MM{s:Rd}(h:¬s.bad=true):s.mu=s.L.length-s.at_+1:=by unfold mu;rw[if_neg h]
theorem GM{s:Rd}(h:¬s.bad=true):1≤s.mu:=by rw[MM h];omega
def Q(d e:Nat)(s s':Rd):Prop:=s'.mu≤s.mu-d∧s'.rows.length≤s.rows.length+e∧s'.at_+2*s'.mu≤s.at_+2*s.mu
def W(d e:Nat)(s s':Rd):Prop:=s'.mu≤s.mu-d∧s'.rows.length+3*s'.mu≤s.rows.length+3*s.mu+e∧s'.at_+2*s'.mu≤s.at_+2*s.mu
theorem Ec{s s':Rd}(hL:s'.L=s.L)(ha:s'.at_=s.at_)(hb:s.bad=true→s'.bad=true)(hr:s'.rows.length=s.rows.length):Q 0 0 s s':=by
 have h:s'.mu≤s.mu:=by
  unfold mu;rw[hL,ha];by_cases h1:s.bad=true
  ·rw[if_pos h1,if_pos (hb h1)];omega
  ·rw[if_neg h1];split <;>omega
 refine⟨by omega,by omega,by rw[ha];omega⟩
theorem Uh{s:Rd}{k:Nat}(h:s.text k≠[]):¬s.bad=true∧s.at_ < s.L.length:=by
 unfold text at h;by_cases hb:s.bad=true
 ·rw[if_pos hb] at h;exact absurd rfl h
 ·rw[if_neg hb] at h
  refine⟨hb, ?_⟩;cases hg:s.L[s.at_]? with
  |none=>rw[hg] at h;exact absurd rfl h
  |some t=>exact(Ah.1 hg).1
theorem GZ{s:Rd}{k:Nat}(h:s.text k≠[]):s.step.mu+1=s.mu∧s.step.at_=s.at_+1∧s.step.rows.length=s.rows.length:=by
 obtain⟨hb,ha⟩:=Uh h;refine⟨?_,rfl,rfl⟩;rw[MM hb,MM (s:=s.step) hb];show s.L.length-(s.at_+1)+1+1=s.L.length-s.at_+1;omega
theorem Vz(s:Rd):s.step.mu≤s.mu∧s.step.at_=s.at_+1∧s.step.rows.length=s.rows.length:=by
 refine⟨?_,rfl,rfl⟩;unfold mu;show(if s.bad=true then 0 else s.L.length-(s.at_+1)+1)≤_
 split <;>omega
theorem VA{s:Rd}{t:Str}(ht:t≠[])(h:s.next t=true):∃k,s.text k≠[]:=by
 unfold next at h;rw[Bool.or_eq_true] at h;rcases h with h|h
 ·exact⟨3,by rw[beq_iff_eq.1 h];exact ht⟩
 ·exact⟨4,by rw[beq_iff_eq.1 h];exact ht⟩
theorem Bt{s:Rd}{t:Str}(ht:t≠[])(h:s.next t=true):s.step.mu+1=s.mu∧s.step.at_=s.at_+1∧s.step.rows.length=s.rows.length:=by
 obtain⟨k,hk⟩:=VA ht h;exact GZ hk
theorem KC(s:Rd):s.setBad.mu=0∧s.setBad.rows.length=s.rows.length∧s.setBad.at_=s.at_:=⟨ZA rfl,rfl,rfl⟩
theorem Cu(s:Rd){t:Str}(ht:t≠[]):Q 1 0 s (s.need t):=by
 unfold need;split
 ·rename_i h
  obtain⟨h1,h2,h3⟩:=Bt ht h;exact⟨by omega,by omega,by omega⟩
 ·obtain⟨h1,h2,h3⟩:=KC s
  exact⟨by omega,by omega,by omega⟩
theorem Jn(s:Rd):Q 1 0 s s.name:=by
 unfold name;split
 ·obtain⟨h1,h2,h3⟩:=KC s
  exact⟨by omega,by omega,by omega⟩
 ·rename_i h
  obtain⟨h1,h2,h3⟩:=GZ h;exact⟨by omega,by omega,by omega⟩
theorem PH(s:Rd):Q 1 0 s s.typed.2:=by
 unfold typed;split
 ·rename_i h
  obtain⟨h1,h2,h3⟩:=Bt (by decide) h;show Q 1 0 s s.step;exact⟨by omega,by omega,by omega⟩
 ·exact Cu s (by decide)
theorem DC(s:Rd)(u:Nat)(n:Node):(s.node u n).mu=s.mu∧(s.node u n).rows.length=s.rows.length+1∧(s.node u n).at_=s.at_:=⟨rfl,BL s u n,rfl⟩
theorem Ka(s:Rd)(e:Nat):Q 0 0 s (s.fault e):=by
 unfold fault;split
 ·exact Ec rfl rfl id rfl
 ·exact Ec rfl rfl id rfl
theorem XG(s:Rd)(t:Str):Q 0 0 s (s.find t).2:=by
 unfold find;split
 ·exact Ec rfl rfl id rfl
 ·exact Ka s _
theorem Kt(s:Rd)(k t:Nat):Q 0 0 s (s.Ar k t):=Ec rfl rfl id (by simp[Ar])
theorem Mr(s:Rd)(k t:Nat):Q 0 0 s (s.DN k t):=Ec rfl rfl id (by simp[DN])
theorem V5(s:Rd)(k:Nat)(t:Int):Q 0 0 s (s.CF k t):=Ec rfl rfl id (by simp[CF])
theorem O3(s:Rd)(t:Str)(k:Nat):Q 0 0 s (s.declare t k):=by
 unfold declare;dsimp only;split
 ·have h:=Ka s 10
  exact⟨h.1,h.2.1,h.2.2⟩
 ·exact Ec rfl rfl id rfl
theorem MQ(s:Rd):Q 0 0 s s.enter:=by
 unfold enter;dsimp only;split
 ·exact Ec rfl rfl (fun _=>rfl) rfl
 ·exact Ec rfl rfl id rfl
theorem F9(s:Rd):s.leave.mu=s.mu∧s.leave.rows=s.rows∧s.leave.at_=s.at_:=⟨rfl,rfl,rfl⟩
theorem WV:opOf []=0:=by decide
theorem Ov(f:Nat):(∀s u,3*s.mu+1≤f→∃s',expr f s u=some s'∧W 1 0 s s')∧(∀s u m,3*s.mu+3≤f→∃s',call f s u m=some s'∧W 1 1 s s')∧
 (∀b s n,3*s.mu+2≤f→∃s',args f b s n=some s'∧W 0 0 s s'):=by
 induction f with
 |zero=>exact⟨fun s _ h=>by omega,fun s _ _ h=>by omega,fun _ s _ h=>by omega⟩
 |succ f ih=>
   obtain⟨ihe,ihc,iha⟩:=ih;refine⟨fun s u hf=> ?_,fun s u m hf=> ?_,fun b s n hf=> ?_⟩
   ·rw[expr]
    by_cases h2:s.text 2≠[]
    ·rw[if_pos h2]
     obtain⟨a1,a2,a3⟩:=GZ h2;obtain⟨b1,b2,b3⟩:=DC s.step u (Lp 13 (CQ (s.text 2)));exact⟨_,rfl,by omega,by omega,by omega⟩
    rw[if_neg h2];by_cases h1:s.text 1≠[]
    ·rw[if_pos h1]
     try dsimp only
     obtain⟨a1,a2,a3⟩:=GZ h1;by_cases hd:s.step.next [46]=true
     ·rw[if_pos hd]
      obtain⟨s',e,c1,c2,c3⟩:=ihc s.step u (s.text 1) (by omega);exact⟨s',e,by omega,by omega,by omega⟩
     ·rw[if_neg hd]
      obtain⟨b1,b2,b3⟩:=DC s.step u (nd 15);obtain⟨c1,c2,c3⟩:=XG (s.step.node u (nd 15)) (s.text 1);obtain⟨d1,d2,d3⟩:=Mr ((s.step.node u (nd 15)).find (s.text 1)).2 s.step.rows.length ((s.step.node u (nd 15)).find (s.text 1)).1;exact⟨_,rfl,by omega,by omega,by omega⟩
    rw[if_neg h1];by_cases ht:s.next JP=true
    ·rw[if_pos ht]
     obtain⟨a1,a2,a3⟩:=Bt (by decide) ht;obtain⟨b1,b2,b3⟩:=DC s.step u (Lp 14 1);exact⟨_,rfl,by omega,by omega,by omega⟩
    rw[if_neg ht];by_cases hfa:s.next GK=true
    ·rw[if_pos hfa]
     obtain⟨a1,a2,a3⟩:=Bt (by decide) hfa;obtain⟨b1,b2,b3⟩:=DC s.step u (nd 14);exact⟨_,rfl,by omega,by omega,by omega⟩
    rw[if_neg hfa];by_cases hr:s.next JQ=true
    ·rw[if_pos hr]
     obtain⟨a1,a2,a3⟩:=Bt (by decide) hr;obtain⟨b1,b2,b3⟩:=DC s.step u (nd 20);exact⟨_,rfl,by omega,by omega,by omega⟩
    rw[if_neg hr];by_cases hn:s.next [33]=true∨s.next [45]=true
    ·rw[if_pos hn]
     have hst:s.step.mu+1=s.mu∧s.step.at_=s.at_+1∧s.step.rows.length=s.rows.length:=by
      rcases hn with h|h
      ·exact Bt (by decide) h
      ·exact Bt (by decide) h
     obtain⟨a1,a2,a3⟩:=hst
     try dsimp only
     generalize(if s.next [33]=true then 16 else 17)=kind;obtain⟨b1,b2,b3⟩:=DC s.step u (nd kind);obtain⟨c1,c2,c3⟩:=MQ (s.step.node u (nd kind));by_cases hb:(s.step.node u (nd kind)).enter.bad=true
     ·rw[if_pos hb]
      obtain⟨d1,d2,d3⟩:=F9 (s.step.node u (nd kind)).enter;exact⟨_,rfl,by omega,by rw[d2];omega,by omega⟩
     ·rw[if_neg hb]
      obtain⟨s',e,e1,e2,e3⟩:=ihe (s.step.node u (nd kind)).enter s.rows.length (by omega);rw[e];obtain⟨d1,d2,d3⟩:=F9 s';exact⟨_,rfl,by omega,by rw[d2];omega,by omega⟩
    rw[if_neg hn];by_cases hp:s.next [40]=true
    ·rw[if_pos hp]
     obtain⟨a1,a2,a3⟩:=Bt (by decide) hp
     try dsimp only
     obtain⟨b1,b2,b3⟩:=DC s.step u (nd 18);obtain⟨c1,c2,c3⟩:=MQ (s.step.node u (nd 18));by_cases hb:(s.step.node u (nd 18)).enter.bad=true
     ·rw[if_pos hb]
      obtain⟨d1,d2,d3⟩:=F9 (s.step.node u (nd 18)).enter;exact⟨_,rfl,by omega,by rw[d2];omega,by omega⟩
     ·rw[if_neg hb]
      obtain⟨s1,e,e1,e2,e3⟩:=ihe (s.step.node u (nd 18)).enter s.rows.length (by omega);rw[e]
      try dsimp only
      obtain⟨g1,g2,g3⟩:=V5 s1 s.rows.length (opOf (s1.text 4):Nat);have hmid:∀m,m=(if opOf (s1.text 4)=0 then(s1.CF s.rows.length (opOf (s1.text 4):Nat)).setBad else s1.CF s.rows.length (opOf (s1.text 4):Nat)).step→
       m.mu≤s1.mu∧m.rows.length≤s1.rows.length∧m.at_+2*m.mu≤s1.at_+2*s1.mu+1:=by
       intro m hm;subst hm;by_cases h0:opOf (s1.text 4)=0
       ·rw[if_pos h0]
        obtain⟨k1,k2,k3⟩:=KC (s1.CF s.rows.length (opOf (s1.text 4):Nat));obtain⟨l1,l2,l3⟩:=Vz (s1.CF s.rows.length (opOf (s1.text 4):Nat)).setBad;exact⟨by omega,by omega,by omega⟩
       ·rw[if_neg h0]
        have h4:s1.text 4≠[]:=fun hh=>by rw[hh] at h0;exact h0 WV
        obtain⟨l1,l2,l3⟩:=GZ (s:=s1.CF s.rows.length (opOf (s1.text 4):Nat)) (k:=4) h4;exact⟨by omega,by omega,by omega⟩
      obtain⟨m1,m2,m3⟩:=hmid _ rfl;generalize(if opOf (s1.text 4)=0 then(s1.CF s.rows.length (opOf (s1.text 4):Nat)).setBad else s1.CF s.rows.length (opOf (s1.text 4):Nat)).step=m at m1 m2 m3⊢;obtain⟨s2,n,n1,n2,n3⟩:=ihe m s.rows.length (by omega);rw[n];obtain⟨o1,o2,o3⟩:=Cu s2 (t:=[41]) (by decide);obtain⟨d1,d2,d3⟩:=F9 (s2.need [41]);exact⟨_,rfl,by omega,by rw[d2];omega,by omega⟩
    rw[if_neg hp];obtain⟨k1,k2,k3⟩:=KC s;exact⟨_,rfl,by omega,by omega,by omega⟩
   ·rw[call]
    try dsimp only
    obtain⟨a1,a2,a3⟩:=DC s u (nd 19);obtain⟨b1,b2,b3⟩:=Cu (s.node u (nd 19)) (t:=[46]) (by decide);obtain⟨c1,c2,c3⟩:=Jn ((s.node u (nd 19)).need [46]);have hq:∀(cl:List Nat) (wl:List Str),Q 0 0 ((s.node u (nd 19)).need [46]).name {((s.node u (nd 19)).need [46]).name with calls:=cl,wants:=wl}:=fun _ _=>Ec rfl rfl id rfl;obtain⟨d1,d2,d3⟩:=hq (((s.node u (nd 19)).need [46]).name.calls++[((s.node u (nd 19)).need [46]).name.idAt s.rows.length]) (((s.node u (nd 19)).need [46]).name.wants++[m++[32]++((s.node u (nd 19)).need [46]).text 1]);generalize({((s.node u (nd 19)).need [46]).name with calls:=((s.node u (nd 19)).need [46]).name.calls++[((s.node u (nd 19)).need [46]).name.idAt s.rows.length],wants:=((s.node u (nd 19)).need [46]).name.wants++[m++[32]++((s.node u (nd 19)).need [46]).text 1]}:Rd)=b at d1 d2 d3⊢;obtain⟨e1,e2,e3⟩:=MQ b;by_cases hb:b.enter.bad=true
    ·rw[if_pos hb]
     obtain⟨g1,g2,g3⟩:=F9 b.enter;exact⟨_,rfl,by omega,by rw[g2];omega,by omega⟩
    ·rw[if_neg hb]
     obtain⟨k1,k2,k3⟩:=Cu b.enter (t:=[40]) (by decide);have:=GM hb;obtain⟨s1,e,l1,l2,l3⟩:=iha true (b.enter.need [40]) s.rows.length (by omega);rw[e];obtain⟨g1,g2,g3⟩:=F9 s1;exact⟨_,rfl,by omega,by rw[g2];omega,by omega⟩
   ·rw[args]
    by_cases hb:s.bad=true
    ·rw[if_pos hb]
     exact⟨_,rfl,by omega,by omega,by omega⟩
    rw[if_neg hb];by_cases hn:s.next [41]=true
    ·rw[if_pos hn]
     obtain⟨a1,a2,a3⟩:=Bt (by decide) hn;exact⟨_,rfl,by omega,by omega,by omega⟩
    rw[if_neg hn];have hq:Q 0 0 s (if b=true then s else s.need [44]):=by
     split
     ·exact⟨by omega,by omega,by omega⟩
     ·obtain⟨k1,k2,k3⟩:=Cu s (t:=[44]) (by decide)
      exact⟨by omega,by omega,by omega⟩
    obtain⟨a1,a2,a3⟩:=hq;have:=GM hb;obtain⟨s1,e,b1,b2,b3⟩:=ihe (if b=true then s else s.need [44]) n (by omega);rw[e]
    try dsimp only
    obtain⟨s2,e2,c1,c2,c3⟩:=iha false s1 n (by omega);exact⟨s2,e2,by omega,by omega,by omega⟩
theorem Uj(f:Nat):(∀s u,3*s.mu+3≤f→∃s',stmt f s u=some s'∧W 1 (if s.bad=true then 1 else 0) s s')∧(∀s u,3*s.mu+3≤f→∃s',block f s u=some s'∧W 0 1 s s')∧
 (∀s n,3*s.mu+4≤f→∃s',stmts f s n=some s'∧W 0 0 s s'):=by
 induction f with
 |zero=>exact⟨fun s _ h=>by omega,fun s _ h=>by omega,fun s _ h=>by omega⟩
 |succ f ih=>
   obtain⟨ihs,ihb,ihl⟩:=ih;obtain⟨ihe,ihc,_⟩:=Ov f;refine⟨fun s u hf=> ?_,fun s u hf=> ?_,fun s n hf=> ?_⟩
   ·rw[stmt]
    try dsimp only
    have hw:(0:Nat)≤(if s.bad=true then 1 else 0):=Nat.zero_le _;generalize hwe:(if s.bad=true then 1 else 0)=wx at hw⊢;by_cases h1:s.next wLet=true
    ·rw[if_pos h1]
     obtain⟨a1,a2,a3⟩:=Bt (by decide) h1;obtain⟨b1,b2,b3⟩:=Jn s.step;obtain⟨c1,c2,c3⟩:=DC s.step.name u (AX 6 (s.step.text 1));obtain⟨d1,d2,d3⟩:=PH (s.step.name.node u (AX 6 (s.step.text 1)));obtain⟨e1,e2,e3⟩:=Kt (s.step.name.node u (AX 6 (s.step.text 1))).typed.2 s.rows.length (s.step.name.node u (AX 6 (s.step.text 1))).typed.1;obtain⟨g1,g2,g3⟩:=Cu ((s.step.name.node u (AX 6 (s.step.text 1))).typed.2.Ar s.rows.length (s.step.name.node u (AX 6 (s.step.text 1))).typed.1) (t:=[61]) (by decide);generalize(((s.step.name.node u (AX 6 (s.step.text 1))).typed.2.Ar s.rows.length (s.step.name.node u (AX 6 (s.step.text 1))).typed.1).need [61])=a at g1 g2 g3⊢;obtain⟨b,e,k1,k2,k3⟩:=ihe a s.rows.length (by omega);rw[e];obtain⟨l1,l2,l3⟩:=O3 b (s.step.text 1) s.rows.length;obtain⟨m1,m2,m3⟩:=Cu (b.declare (s.step.text 1) s.rows.length) (t:=[59]) (by decide);exact⟨_,rfl,by omega,by omega,by omega⟩
    rw[if_neg h1];by_cases h2:s.next wIf=true
    ·rw[if_pos h2]
     obtain⟨a1,a2,a3⟩:=Bt (by decide) h2;obtain⟨c1,c2,c3⟩:=DC s.step u (nd 8);obtain⟨a,e,k1,k2,k3⟩:=ihe (s.step.node u (nd 8)) s.rows.length (by omega);rw[e]
     try dsimp only
     obtain⟨b,e2,l1,l2,l3⟩:=ihb a s.rows.length (by omega);rw[e2]
     try dsimp only
     obtain⟨m1,m2,m3⟩:=Cu b (t:=J3) (by decide);obtain⟨c,e4,n1,n2,n3⟩:=ihb (b.need J3) s.rows.length (by omega);exact⟨c,e4,by omega,by omega,by omega⟩
    rw[if_neg h2];by_cases h3:s.next Gt=true
    ·rw[if_pos h3]
     obtain⟨a1,a2,a3⟩:=Bt (by decide) h3;obtain⟨c1,c2,c3⟩:=DC s.step u (nd 9);obtain⟨a,e,k1,k2,k3⟩:=ihe (s.step.node u (nd 9)) s.rows.length (by omega);rw[e]
     try dsimp only
     obtain⟨b,e2,l1,l2,l3⟩:=ihb a s.rows.length (by omega);exact⟨b,e2,by omega,by omega,by omega⟩
    rw[if_neg h3];by_cases h4:s.next Gu=true
    ·rw[if_pos h4]
     obtain⟨a1,a2,a3⟩:=Bt (by decide) h4;obtain⟨c1,c2,c3⟩:=DC s.step u (nd 11);obtain⟨a,e,k1,k2,k3⟩:=ihe (s.step.node u (nd 11)) s.rows.length (by omega);rw[e];obtain⟨m1,m2,m3⟩:=Cu a (t:=[59]) (by decide);exact⟨a.need [59],rfl,by omega,by omega,by omega⟩
    rw[if_neg h4];by_cases h5:s.next wDo=true
    ·rw[if_pos h5]
     obtain⟨a1,a2,a3⟩:=Bt (by decide) h5;obtain⟨c1,c2,c3⟩:=DC s.step u (nd 12);obtain⟨d1,d2,d3⟩:=Jn (s.step.node u (nd 12));obtain⟨a,e,k1,k2,k3⟩:=ihc (s.step.node u (nd 12)).name s.rows.length ((s.step.node u (nd 12)).text 1) (by omega);rw[e];obtain⟨m1,m2,m3⟩:=Cu a (t:=[59]) (by decide);exact⟨a.need [59],rfl,by omega,by omega,by omega⟩
    rw[if_neg h5];have hx:s.mu=0→wx=1:=fun h0=>by
     rw[←hwe];by_cases hb:s.bad=true
     ·rw[if_pos hb]
     ·have:=GM hb;omega
    obtain⟨a1,a2,a3⟩:=Jn s;obtain⟨c1,c2,c3⟩:=DC s.name u (nd 7);obtain⟨d1,d2,d3⟩:=XG (s.name.node u (nd 7)) (s.text 1);obtain⟨e1,e2,e3⟩:=Mr ((s.name.node u (nd 7)).find (s.text 1)).2 s.rows.length ((s.name.node u (nd 7)).find (s.text 1)).1;obtain⟨g1,g2,g3⟩:=Cu (((s.name.node u (nd 7)).find (s.text 1)).2.DN s.rows.length ((s.name.node u (nd 7)).find (s.text 1)).1) (t:=[61]) (by decide);generalize((((s.name.node u (nd 7)).find (s.text 1)).2.DN s.rows.length ((s.name.node u (nd 7)).find (s.text 1)).1).need [61])=a at g1 g2 g3⊢;obtain⟨b,e,k1,k2,k3⟩:=ihe a s.rows.length (by omega);rw[e];obtain⟨m1,m2,m3⟩:=Cu b (t:=[59]) (by decide);refine⟨b.need [59],rfl,by omega, ?_,by omega⟩;by_cases h0:s.mu=0
    ·have:=hx h0;omega
    ·omega
   ·rw[block]
    try dsimp only
    obtain⟨a1,a2,a3⟩:=DC s u (nd 5);have hq:Q 0 0 (s.node u (nd 5)) ({(s.node u (nd 5)) with level:=(s.node u (nd 5)).level+1}:Rd):=Ec rfl rfl id rfl;obtain⟨b1,b2,b3⟩:=hq;generalize({(s.node u (nd 5)) with level:=(s.node u (nd 5)).level+1}:Rd)=b at b1 b2 b3⊢;obtain⟨c1,c2,c3⟩:=MQ b;by_cases hb:b.enter.bad=true
    ·rw[if_pos hb]
     obtain⟨d1,d2,d3⟩:=F9 b.enter;exact⟨_,rfl,by show b.enter.leave.mu≤_;omega,by show b.enter.leave.rows.length+3*b.enter.leave.mu≤_;rw[d2];omega,by show b.enter.leave.at_+2*b.enter.leave.mu≤_;omega⟩
    ·rw[if_neg hb]
     have:=GM hb;obtain⟨k1,k2,k3⟩:=Cu b.enter (t:=[123]) (by decide);obtain⟨a,e,l1,l2,l3⟩:=ihl (b.enter.need [123]) s.rows.length (by omega);rw[e];obtain⟨d1,d2,d3⟩:=F9 a;exact⟨_,rfl,by show a.leave.mu≤_;omega,by show a.leave.rows.length+3*a.leave.mu≤_;rw[d2];omega,by show a.leave.at_+2*a.leave.mu≤_;omega⟩
   ·rw[stmts]
    by_cases hb:s.bad=true
    ·rw[if_pos hb]
     exact⟨_,rfl,by omega,by omega,by omega⟩
    rw[if_neg hb];by_cases hn:s.next [125]=true
    ·rw[if_pos hn]
     obtain⟨a1,a2,a3⟩:=Bt (by decide) hn;exact⟨_,rfl,by omega,by omega,by omega⟩
    rw[if_neg hn];have:=GM hb;obtain⟨a,e,k1,k2,k3⟩:=ihs s n (by omega);rw[if_neg hb] at k2;rw[e]
    try dsimp only
    obtain⟨b,e2,l1,l2,l3⟩:=ihl a n (by omega);exact⟨b,e2,by omega,by omega,by omega⟩
theorem Qe:∀(f:Nat) (b:Bool) (s:Rd) (k:Nat),s.mu+1≤f→∃s',params f b s k=some s'∧W 0 0 s s':=by
 intro f
 induction f with
 |zero=>intro b s k h;omega
 |succ f ih=>
   intro b s k hf;rw[params];by_cases hb:s.bad=true
   ·rw[if_pos hb]
    exact⟨_,rfl,by omega,by omega,by omega⟩
   rw[if_neg hb];by_cases hn:s.next [41]=true
   ·rw[if_pos hn]
    obtain⟨a1,a2,a3⟩:=Bt (by decide) hn;exact⟨_,rfl,by omega,by omega,by omega⟩
   rw[if_neg hn]
   try dsimp only
   have hm:=GM hb;have hq:Q 0 0 s (if b=true then s else s.need [44]):=by
    split
    ·exact⟨by omega,by omega,by omega⟩
    ·obtain⟨k1,k2,k3⟩:=Cu s (t:=[44]) (by decide)
     exact⟨by omega,by omega,by omega⟩
   have hx:(if b=true then s else s.need [44]).mu=0→(if b=true then s else s.need [44]).mu < s.mu:=fun h=>by omega
   obtain⟨z1,z2,z3⟩:=hq;generalize(if b=true then s else s.need [44])=r at z1 z2 z3 hx⊢;obtain⟨b1,b2,b3⟩:=Jn r;obtain⟨c1,c2,c3⟩:=DC r.name k (AX 4 (r.text 1));obtain⟨d1,d2,d3⟩:=PH (r.name.node k (AX 4 (r.text 1)));obtain⟨e1,e2,e3⟩:=Kt (r.name.node k (AX 4 (r.text 1))).typed.2 r.rows.length (r.name.node k (AX 4 (r.text 1))).typed.1;obtain⟨l1,l2,l3⟩:=O3 ((r.name.node k (AX 4 (r.text 1))).typed.2.Ar r.rows.length (r.name.node k (AX 4 (r.text 1))).typed.1) (r.text 1) r.rows.length;obtain⟨s',e,m1,m2,m3⟩:=ih false (((r.name.node k (AX 4 (r.text 1))).typed.2.Ar r.rows.length (r.name.node k (AX 4 (r.text 1))).typed.1).declare (r.text 1) r.rows.length) k (by omega);exact⟨s',e,by omega,by omega,by omega⟩
theorem Va:∀(f:Nat) (s:Rd) (n:Nat),3*s.mu+4≤f→∃s',body f s n=some s'∧W 0 0 s s':=by
 intro f
 induction f with
 |zero=>intro s n h;omega
 |succ f ih=>
   intro s n hf;rw[body];by_cases hb:s.bad=true∨s.next BN=true
   ·rw[if_pos hb]
    exact⟨_,rfl,by omega,by omega,by omega⟩
   rw[if_neg hb];have hbb:¬s.bad=true:=fun h=>hb (.inl h);have:=GM hbb;obtain⟨a,e,k1,k2,k3⟩:=(Uj f).1 s n (by omega);rw[if_neg hbb] at k2;rw[e]
   try dsimp only
   obtain⟨b,e2,l1,l2,l3⟩:=ih a n (by omega);exact⟨b,e2,by omega,by omega,by omega⟩
theorem VJ(f:Nat)(s:Rd)(u:Nat)(m:Str)(hb:¬s.bad=true)(hf:3*s.mu+4≤f):∃s',func f s u m=some s'∧W 1 0 s s':=by
 unfold func
 try dsimp only
 have hm:=GM hb;obtain⟨a1,a2,a3⟩:=Cu s (t:=DJ) (by decide);obtain⟨b1,b2,b3⟩:=Jn (s.need DJ);generalize(s.need DJ).text 1=t;generalize(s.need DJ).name=a at b1 b2 b3⊢;have hq:Q 0 0 a (if inL a.funcs (m++[32]++t)=true then a.fault 10 else a):=by
  split
  ·exact Ka a 10
  ·exact⟨by omega,by omega,by omega⟩
 obtain⟨c1,c2,c3⟩:=hq;generalize(if inL a.funcs (m++[32]++t)=true then a.fault 10 else a)=b at c1 c2 c3⊢;change∃s',(match params f true (((b.node u (AX 3 t)).EU (m++[32]++t) b.rows.length).need [40]) b.rows.length with
  |none=>none
  |some r=>_)=some s'∧_
 obtain⟨d1,d2,d3⟩:=DC b u (AX 3 t);have hq2:Q 0 0 (b.node u (AX 3 t)) ((b.node u (AX 3 t)).EU (m++[32]++t) b.rows.length):=Ec rfl rfl id rfl;obtain⟨e1,e2,e3⟩:=hq2;generalize(b.node u (AX 3 t)).EU (m++[32]++t) b.rows.length=c at e1 e2 e3⊢;obtain⟨g1,g2,g3⟩:=Cu c (t:=[40]) (by decide);obtain⟨p,hp,k1,k2,k3⟩:=Qe f true (c.need [40]) b.rows.length (by omega);rw[hp]
 try dsimp only
 obtain⟨l1,l2,l3⟩:=PH p;obtain⟨m1,m2,m3⟩:=Kt p.typed.2 b.rows.length p.typed.1;obtain⟨n1,n2,n3⟩:=DC (p.typed.2.Ar b.rows.length p.typed.1) b.rows.length (nd 5);obtain⟨o1,o2,o3⟩:=Cu ((p.typed.2.Ar b.rows.length p.typed.1).node b.rows.length (nd 5)) (t:=[123]) (by decide);generalize((p.typed.2.Ar b.rows.length p.typed.1).node b.rows.length (nd 5)).need [123]=q at o1 o2 o3⊢;obtain⟨v,hv,p1,p2,p3⟩:=Va f q (p.typed.2.Ar b.rows.length p.typed.1).rows.length (by omega);rw[hv]
 try dsimp only
 obtain⟨q1,q2,q3⟩:=Cu v (t:=BN) (by decide);obtain⟨r1,r2,r3⟩:=DC (v.need BN) (p.typed.2.Ar b.rows.length p.typed.1).rows.length (nd 10);obtain⟨x,hx,s1,s2,s3⟩:=(Ov f).1 ((v.need BN).node (p.typed.2.Ar b.rows.length p.typed.1).rows.length (nd 10)) (v.need BN).rows.length (by omega);rw[hx];obtain⟨t1,t2,t3⟩:=Cu x (t:=[59]) (by decide);obtain⟨u1,u2,u3⟩:=Cu (x.need [59]) (t:=[125]) (by decide);exact⟨_,rfl,by omega,by omega,by omega⟩
theorem Nb(f:Nat):∀(g:Nat) (s:Rd) (m:Nat) (t:Str),3*s.mu+4≤f→s.mu+1≤g→∃s',Ba f g s m t=some s'∧W 0 0 s s':=by
 intro g
 induction g with
 |zero=>intro s m t h h2;omega
 |succ g ih=>
   intro s m t hf hg;rw[Ba];by_cases hb:s.bad=true
   ·rw[if_pos hb]
    exact⟨_,rfl,by omega,by omega,by omega⟩
   rw[if_neg hb];by_cases hn:s.next [125]=true
   ·rw[if_pos hn]
    obtain⟨a1,a2,a3⟩:=Bt (by decide) hn;exact⟨_,rfl,by omega,by omega,by omega⟩
   rw[if_neg hn];have:=GM hb;obtain⟨a,e,k1,k2,k3⟩:=VJ f s m t hb hf;rw[e]
   try dsimp only
   obtain⟨b,e2,l1,l2,l3⟩:=ih a m t (by omega) (by omega);exact⟨b,e2,by omega,by omega,by omega⟩
theorem N7(f:Nat):∀(g:Nat) (s:Rd) (root:Nat),3*s.mu+4≤f→s.mu+1≤g→∃s',Bh f g s root=some s'∧W 0 0 s s':=by
 intro g
 induction g with
 |zero=>intro s r h h2;omega
 |succ g ih=>
   intro s root hf hg;rw[Bh];by_cases hb:s.bad=true∨s.L.length≤s.at_
   ·rw[if_pos hb]
    exact⟨_,rfl,by omega,by omega,by omega⟩
   rw[if_neg hb]
   try dsimp only
   have hbb:¬s.bad=true:=fun h=>hb (.inl h);have:=GM hbb;obtain⟨a1,a2,a3⟩:=Cu s (t:=Cb) (by decide);obtain⟨b1,b2,b3⟩:=Jn (s.need Cb);generalize(s.need Cb).text 1=t;generalize(s.need Cb).name=a at b1 b2 b3⊢;have hq:Q 0 0 a (if inL a.mods t=true then a.fault 10 else a):=by
    split
    ·exact Ka a 10
    ·exact⟨by omega,by omega,by omega⟩
   obtain⟨c1,c2,c3⟩:=hq;generalize(if inL a.mods t=true then a.fault 10 else a)=b at c1 c2 c3⊢;have hq2:Q 0 0 b ({b with mods:=b.mods++[t]}:Rd):=Ec rfl rfl id rfl;obtain⟨d1,d2,d3⟩:=hq2;generalize({b with mods:=b.mods++[t]}:Rd)=c at d1 d2 d3⊢;obtain⟨e1,e2,e3⟩:=DC c root (AX 2 t);obtain⟨g1,g2,g3⟩:=Cu (c.node root (AX 2 t)) (t:=[123]) (by decide);obtain⟨d,hd,k1,k2,k3⟩:=Nb f f ((c.node root (AX 2 t)).need [123]) b.rows.length t (by omega) (by omega);rw[hd]
   try dsimp only
   obtain⟨x,hx,l1,l2,l3⟩:=ih d root (by omega) (by omega);exact⟨x,hx,by omega,by omega,by omega⟩
theorem ZB:∀(is:List Nat) (ws:List Str) (s:Rd),Q 0 0 s (link is ws s):=by
 intro is
 induction is with
 |nil=>intro ws s;cases ws <;>exact⟨by simp[link],by simp[link],by simp[link]⟩
 |cons i is ih=>
   intro ws s;cases ws with
   |nil=>exact⟨by simp[link],by simp[link],by simp[link]⟩
   |cons t ws=>
     rw[link]
     try dsimp only
     have hq:Q 0 0 s (if lastOf s.funcs s.ids t=0 then s.fault 9 else s):=by
      split
      ·exact Ka s 9
      ·exact⟨by omega,by omega,by omega⟩
     obtain⟨a1,a2,a3⟩:=hq;obtain⟨b1,b2,b3⟩:=Mr (if lastOf s.funcs s.ids t=0 then s.fault 9 else s) (i-1) (lastOf s.funcs s.ids t);obtain⟨c1,c2,c3⟩:=ih ws ((if lastOf s.funcs s.ids t=0 then s.fault 9 else s).DN (i-1) (lastOf s.funcs s.ids t));exact⟨by omega,by omega,by omega⟩
theorem PQ(f:Nat)(l:List Tok)(hf:3*l.length+10≤f):∃s',program f (BF l)=some s'∧s'.rows.length≤3*l.length+4∧s'.at_≤2*l.length+2:=by
 unfold program
 try dsimp only
 have h0:(BF l).mu=l.length+1:=MM (by simp[BF]);have h1:(BF l).rows.length=0:=rfl;have h2:(BF l).at_=0:=rfl;obtain⟨a1,a2,a3⟩:=DC (BF l) 0 (nd 1);obtain⟨s1,e,b1,b2,b3⟩:=N7 f f ((BF l).node 0 (nd 1)) (BF l).rows.length (by omega) (by omega);rw[e];obtain⟨c1,c2,c3⟩:=ZB s1.calls s1.wants s1;exact⟨_,rfl,by omega,by omega⟩
end Rd
end Hg
namespace Hg
def kRel(p c:Nat):Prop:=(p=1∧c=2)∨(p=2∧c=3)∨(3≤p∧4≤c)
structure Tr (rows:List Row):Prop where
 rid:∀(k:Nat) (r:Row),rows[k]? =some r→r.id=k+1
 up:∀(k:Nat) (r:Row),rows[k]? =some r→∀c∈r.node.kids,k+1 < c∧c≤rows.length
 perm:(rows.flatMap (fun r=>r.node.kids)).Perm (List.range' 2 (rows.length-1))
 kind:∀(k:Nat) (r:Row),rows[k]? =some r→∀c∈r.node.kids,∀r',rows[c-1]? =some r'→kRel r.node.kind r'.node.kind
 root:∀r,rows[0]? =some r→r.node.kind=1
namespace Rd
theorem Lu(id:Nat):∀(l:List Row) (u:Nat),u < l.length→((l.modify u fun x=>{x with node:={x.node with kids:=x.node.kids++[id]}}).flatMap (fun r=>r.node.kids)).Perm (id::l.flatMap (fun r=>r.node.kids))
 |[],u,h=>by simp at h
 |r::l,0,h=>by
   simp only[List.modify_zero_cons,List.flatMap_cons];rw[List.append_assoc];exact(List.perm_middle)
 |r::l,u+1,h=>by
   simp only[List.modify_succ_cons,List.flatMap_cons];have ih:=Lu id l u (by simpa using h);exact(List.Perm.append_left _ ih).trans List.perm_middle
theorem Uf{rows:List Row}(h:Tr rows)(k:Nat)(f:Row→Row)(h1:∀r,(f r).id=r.id)(h2:∀r,(f r).node.kids=r.node.kids)(h3:∀r,(f r).node.kind=r.node.kind):Tr (rows.modify k f):=by
 have hin:∀{i:Nat} {r':Row},(rows.modify k f)[i]? =some r'→∃r,rows[i]? =some r∧r'.id=r.id∧r'.node.kids=r.node.kids∧r'.node.kind=r.node.kind:=by
  intro i r' hr;obtain⟨r,h0,he⟩:=EJ hr;refine⟨r,h0, ?_⟩;subst he;split
  ·exact⟨h1 r,h2 r,h3 r⟩
  ·exact⟨rfl,rfl,rfl⟩
 have hfl:∀(l:List Row) (k:Nat),(l.modify k f).flatMap (fun r=>r.node.kids)=l.flatMap (fun r=>r.node.kids):=by
  intro l
  induction l with
  |nil=>intro k;cases k <;>rfl
  |cons r l ih=>
    intro k;cases k with
    |zero=>simp[h2]
    |succ k=>simp[ih]
 refine⟨fun i r hr=> ?_,fun i r hr c hc=> ?_, ?_,fun i r hr c hc r' hr'=> ?_,fun r hr=> ?_⟩
 ·obtain⟨r0,a,b,_,_⟩:=hin hr;rw[b];exact h.rid i r0 a
 ·obtain⟨r0,a,_,b,_⟩:=hin hr;rw[b] at hc;simpa using h.up i r0 a c hc
 ·rw[hfl];simpa using h.perm
 ·obtain⟨r0,a,_,b,d⟩:=hin hr
  obtain⟨r1,a1,_,_,d1⟩:=hin hr';rw[b] at hc;rw[d,d1];exact h.kind i r0 a c hc r1 a1
 ·obtain⟨r0,a,_,_,d⟩:=hin hr;rw[d];exact h.root r0 a
theorem QB(n:Node)(hn:n.kids=[])(hk:n.kind=1):Tr [⟨1,n⟩]:=by
 have hin:∀{i:Nat} {r:Row},([⟨1,n⟩]:List Row)[i]? =some r→i=0∧r=⟨1,n⟩:=by
  intro i r h;cases i with
  |zero=>simp at h;exact⟨rfl,h.symm⟩
  |succ i=>simp at h
 refine⟨fun i r hr=> ?_,fun i r hr c hc=> ?_,by simp[hn],fun i r hr c hc=> ?_,fun r hr=> ?_⟩
 ·obtain⟨rfl,rfl⟩:=hin hr;rfl
 ·obtain⟨rfl,rfl⟩:=hin hr;rw[hn] at hc;simp at hc
 ·obtain⟨rfl,rfl⟩:=hin hr;rw[hn] at hc;simp at hc
 ·obtain⟨_,rfl⟩:=hin hr;exact hk
theorem Xq{rows:List Row}(h:Tr rows){u:Nat}{ru:Row}(hu:rows[u]? =some ru)(n:Node)(hn:n.kids=[])(hk:kRel ru.node.kind n.kind):Tr (Eg (rows++[⟨rows.length+1,n⟩]) u (rows.length+1)):=by
 have hul:u < rows.length:=(Ah.1 hu).1;have hin:∀{i:Nat} {r':Row},(Eg (rows++[⟨rows.length+1,n⟩]) u (rows.length+1))[i]? =some r'→
  (i=rows.length∧r'=⟨rows.length+1,n⟩)∨(∃r,rows[i]? =some r∧r'.id=r.id∧r'.node.kind=r.node.kind∧r'.node.kids=if i=u then r.node.kids++[rows.length+1] else r.node.kids):=by
  intro i r' hr;obtain⟨r,h0,he⟩:=EJ hr;by_cases hi:i < rows.length
  ·rw[List.getElem?_append_left hi] at h0
   right;refine⟨r,h0, ?_⟩;subst he;by_cases hiu:u=i
   ·simp[hiu]
   ·simp[hiu,Ne.symm hiu]
  ·left
   rw[List.getElem?_append_right (by omega)] at h0;by_cases e:i-rows.length=0
   ·rw[e] at h0
    simp at h0;rw[if_neg (by omega)] at he;exact⟨by omega,by rw[he,←h0]⟩
   ·rw[List.getElem?_eq_none (by simp;omega)] at h0;cases h0
 have hlen:(Eg (rows++[⟨rows.length+1,n⟩]) u (rows.length+1)).length=rows.length+1:=by simp[Eg]
 have hkind:∀{i:Nat} {r':Row},(Eg (rows++[⟨rows.length+1,n⟩]) u (rows.length+1))[i]? =some r'→i < rows.length→∃r,rows[i]? =some r∧r'.node.kind=r.node.kind:=by
  intro i r' hr hi;rcases hin hr with⟨e,_⟩|⟨r,a,_,b,_⟩
  ·omega
  ·exact⟨r,a,b⟩
 refine⟨fun i r hr=> ?_,fun i r hr c hc=> ?_, ?_,fun i r hr c hc r' hr'=> ?_,fun r hr=> ?_⟩
 ·rcases hin hr with⟨e,rfl⟩|⟨r0,a,b,_,_⟩
  ·show rows.length+1=i+1;omega
  ·rw[b];exact h.rid i r0 a
 ·rw[hlen]
  rcases hin hr with⟨e,rfl⟩|⟨r0,a,_,_,b⟩
  ·rw[hn] at hc;simp at hc
  ·have hi:=(Ah.1 a).1
   rw[b] at hc;by_cases e:i=u
   ·rw[if_pos e] at hc
    rcases List.mem_append.1 hc with hc|hc
    ·have:=h.up i r0 a c hc;omega
    ·simp at hc;omega
   ·rw[if_neg e] at hc
    have:=h.up i r0 a c hc;omega
 ·rw[hlen]
  refine(Lu (rows.length+1) (rows++[⟨rows.length+1,n⟩]) u (by simp;omega)).trans ?_;have e1:(rows++[(⟨rows.length+1,n⟩:Row)]).flatMap (fun r=>r.node.kids)=rows.flatMap (fun r=>r.node.kids):=by simp[hn]
  rw[e1,show rows.length+1-1=(rows.length-1)+1 by omega,List.range'_concat,show 2+1*(rows.length-1)=rows.length+1 by omega];exact(List.Perm.cons _ h.perm).trans (List.perm_append_singleton _ _).symm
 ·rcases hin hr with⟨e,rfl⟩|⟨r0,a,_,d,b⟩
  ·rw[hn] at hc;simp at hc
  ·have hi:=(Ah.1 a).1
   rw[d];rw[b] at hc;have old:c∈r0.node.kids→kRel r0.node.kind r'.node.kind:=by
    intro hc;have:=h.up i r0 a c hc;obtain⟨r1,a1,d1⟩:=hkind hr' (by omega);rw[d1];exact h.kind i r0 a c hc r1 a1
   by_cases e:i=u
   ·rw[if_pos e] at hc
    rcases List.mem_append.1 hc with hc|hc
    ·exact old hc
    ·simp at hc
     subst hc;rcases hin hr' with⟨_,rfl⟩|⟨r1,a1,_⟩
     ·subst e
      rw[hu] at a;injection a with a;rw[←a];exact hk
     ·have:=(Ah.1 a1).1;omega
   ·rw[if_neg e] at hc
    exact old hc
 ·rcases hin hr with⟨e,_⟩|⟨r0,a,_,d,_⟩
  ·omega
  ·rw[d];exact h.root r0 a
structure KS (s s':Rd):Prop where
 kinds:∀(k:Nat) (r:Row),s.rows[k]? =some r→∃r',s'.rows[k]? =some r'∧r'.node.kind=r.node.kind
 tr:Tr s.rows→Tr s'.rows
theorem KS.refl(s:Rd):KS s s:=⟨fun _ r h=>⟨r,h,rfl⟩,id⟩
theorem KS.trans{a b c:Rd}(h:KS a b)(k:KS b c):KS a c:=
 ⟨fun i r hr => by
  obtain⟨r1,h1,h2⟩:=h.kinds i r hr;obtain⟨r2,k1,k2⟩:=k.kinds i r1 h1;exact⟨r2,k1,k2.trans h2⟩,fun x=>k.tr (h.tr x)⟩
theorem Dy{s s':Rd}(h:s'.rows=s.rows):KS s s':=⟨fun k r hr=>⟨r,by rw[h];exact hr,rfl⟩,fun x=>by rw[h];exact x⟩
theorem LH(s:Rd)(k:Nat)(f:Row→Row)(h1:∀r,(f r).id=r.id)(h2:∀r,(f r).node.kids=r.node.kids)(h3:∀r,(f r).node.kind=r.node.kind):KS s {s with rows:=s.rows.modify k f}:=
 ⟨fun i r hr=>⟨_,Fu hr,by split <;>first|exact h3 r|rfl⟩,fun x=>Uf x k f h1 h2 h3⟩
def At(s:Rd)(u:Nat)(p:Nat→Prop):Prop:=∃r,s.rows[u]? =some r∧p r.node.kind
theorem At.keep{s s':Rd}{u:Nat}{p:Nat→Prop}(h:At s u p)(k:KS s s'):At s' u p:=by
 obtain⟨r,h1,h2⟩:=h;obtain⟨r',k1,k2⟩:=k.kinds u r h1;exact⟨r',k1,by rw[k2];exact h2⟩
theorem At.imp{s:Rd}{u:Nat}{p q:Nat→Prop}(h:At s u p)(k:∀n,p n→q n):At s u q:=by
 obtain⟨r,h1,h2⟩:=h;exact⟨r,h1,k _ h2⟩
theorem EP(s:Rd)(u:Nat)(n:Node)(hn:n.kids=[])(hu:At s u (fun p=>kRel p n.kind)):KS s (s.node u n):=by
 obtain⟨r,h1,h2⟩:=hu;have hul:=(Ah.1 h1).1;have e:(s.node u n).rows=Eg (s.rows++[⟨s.rows.length+1,n⟩]) u (s.rows.length+1):=by
  unfold node;dsimp only;rw[if_pos (by omega)]
 refine⟨fun k r' hr=> ?_,fun x=>by rw[e];exact Xq x h1 n hn h2⟩;rw[e];refine⟨_,Fu (by rw[List.getElem?_append_left (Ah.1 hr).1];exact hr), ?_⟩
 split <;>rfl
theorem Po(s:Rd)(u:Nat)(n:Node)(hu:u≠s.rows.length):At (s.node u n) s.rows.length (fun k=>k=n.kind):=by
 unfold At node;dsimp only;split
 ·refine⟨_,Fu (r:=⟨s.rows.length+1,n⟩) (by simp), ?_⟩
  split <;>rfl
 ·exact⟨⟨s.rows.length+1,n⟩,by simp,rfl⟩
theorem At.ne{s:Rd}{u:Nat}{p:Nat→Prop}(h:At s u p):u≠s.rows.length:=by
 obtain⟨r,h1,_⟩:=h;have:=(Ah.1 h1).1;omega
theorem EH(s:Rd):KS s s.step:=Dy rfl
theorem Od(s:Rd):KS s s.setBad:=Dy rfl
theorem Bz(s:Rd)(t:Str):KS s (s.need t):=Dy (EM s t).2.2
theorem FL(s:Rd):KS s s.name:=Dy (Cm s).2.2
theorem NR(s:Rd):KS s s.typed.2:=by unfold typed;split <;>first|exact EH s|exact Bz s _
theorem KO(s:Rd)(e:Nat):KS s (s.fault e):=Dy (Fv s e).1
theorem UC(s:Rd)(t:Str):KS s (s.find t).2:=by unfold find;split <;>first|exact KS.refl s|exact KO s _
theorem LG(s:Rd)(k t:Nat):KS s (s.DN k t):=LH s k _ (fun _=>rfl) (fun _=>rfl) (fun _=>rfl)
theorem Jp(s:Rd)(k t:Nat):KS s (s.Ar k t):=LH s k _ (fun _=>rfl) (fun _=>rfl) (fun _=>rfl)
theorem Oc(s:Rd)(k:Nat)(t:Int):KS s (s.CF k t):=LH s k _ (fun _=>rfl) (fun _=>rfl) (fun _=>rfl)
theorem NT(s:Rd)(t:Str)(k:Nat):KS s (s.declare t k):=Dy (Hu s t k).2.2.2.2.2
theorem Dq(s:Rd):KS s s.enter:=by unfold enter;dsimp only;split <;>exact Dy rfl
theorem Eu(s:Rd):KS s s.leave:=Dy rfl
theorem UB(s:Rd):KS s s.shut:=Dy rfl
theorem ge3{s:Rd}{u c:Nat}(hc:4≤c)(h:At s u (fun p=>3≤p)):At s u (fun p=>kRel p c):=h.imp fun _ hp=> .inr (.inr ⟨hp,hc⟩)
theorem new3{s:Rd}{u c:Nat}{n:Node}(h:At s u (fun p=>3≤p))(hc:c=n.kind)(h4:4≤c):At (s.node u n) s.rows.length (fun p=>3≤p):=
 (Po s u n h.ne).imp fun k hk=>by omega
theorem UL(f:Nat):(∀s u s',expr f s u=some s'→At s u (fun p=>3≤p)→KS s s')∧(∀s u m s',call f s u m=some s'→At s u (fun p=>3≤p)→KS s s')∧(∀b s n s',args f b s n=some s'→At s n (fun p=>3≤p)→KS s s'):=by
 induction f with
 |zero=>exact⟨fun _ _ _ h=>by simp[expr] at h,fun _ _ _ _ h=>by simp[call] at h,fun _ _ _ _ h=>by simp[args] at h⟩
 |succ f ih=>
   obtain⟨ihe,ihc,iha⟩:=ih;refine⟨fun s u s' h hu=> ?_,fun s u m s' h hu=> ?_,fun b s n s' h hu=> ?_⟩
   ·rw[expr] at h
    have hus:=hu.keep (EH s);have nodeK:∀n:Node,n.kids=[]→4≤n.kind→KS s (s.step.node u n):=fun n hn h4=>(EH s).trans (EP s.step u n hn (ge3 h4 hus));by_cases h2:s.text 2≠[]
    ·rw[if_pos h2] at h
     injection h with h;subst h;exact nodeK _ rfl (Nat.le_of_ble_eq_true rfl)
    rw[if_neg h2] at h;by_cases h1:s.text 1≠[]
    ·rw[if_pos h1] at h
     dsimp only at h;by_cases hd:s.step.next [46]=true
     ·rw[if_pos hd] at h
      exact(EH s).trans (ihc _ _ _ _ h hus)
     ·rw[if_neg hd] at h
      injection h with h;subst h;exact((nodeK (nd 15) rfl (by decide)).trans (UC _ _)).trans (LG _ _ _)
    rw[if_neg h1] at h;by_cases ht:s.next JP=true
    ·rw[if_pos ht] at h
     injection h with h;subst h;exact nodeK _ rfl (by decide)
    rw[if_neg ht] at h;by_cases hf:s.next GK=true
    ·rw[if_pos hf] at h
     injection h with h;subst h;exact nodeK _ rfl (by decide)
    rw[if_neg hf] at h;by_cases hr:s.next JQ=true
    ·rw[if_pos hr] at h
     injection h with h;subst h;exact nodeK _ rfl (by decide)
    rw[if_neg hr] at h;by_cases hn:s.next [33]=true∨s.next [45]=true
    ·rw[if_pos hn] at h
     dsimp only at h;have hkind:(if s.next [33]=true then 16 else 17)=16∨(if s.next [33]=true then 16 else 17)=17:=by split <;>simp
     generalize hk:(if s.next [33]=true then 16 else 17)=kind at h hkind;have K1:=nodeK (nd kind) rfl (by show 4≤kind;omega);have hnew:At (s.step.node u (nd kind)) s.step.rows.length (fun p=>3≤p):=new3 (c:=kind) hus rfl (by omega);by_cases hb:(s.step.node u (nd kind)).enter.bad=true
     ·rw[if_pos hb] at h
      injection h with h;subst h;exact K1.trans ((Dq _).trans (Eu _))
     ·rw[if_neg hb] at h
      cases he:expr f (s.step.node u (nd kind)).enter s.rows.length with
      |none=>rw[he] at h;simp at h
      |some s1=>
        rw[he] at h;injection h with h;subst h;exact K1.trans ((Dq _).trans ((ihe _ _ _ he (hnew.keep (Dq _))).trans (Eu _)))
    rw[if_neg hn] at h;by_cases hp:s.next [40]=true
    ·rw[if_pos hp] at h
     dsimp only at h;have K1:=nodeK (nd 18) rfl (by decide);have hnew:At (s.step.node u (nd 18)) s.step.rows.length (fun p=>3≤p):=new3 (c:=18) hus rfl (by omega);by_cases hb:(s.step.node u (nd 18)).enter.bad=true
     ·rw[if_pos hb] at h
      injection h with h;subst h;exact K1.trans ((Dq _).trans (Eu _))
     ·rw[if_neg hb] at h
      cases he:expr f (s.step.node u (nd 18)).enter s.rows.length with
      |none=>rw[he] at h;simp at h
      |some s1=>
        rw[he] at h;dsimp only at h;have E1:=ihe _ _ _ he (hnew.keep (Dq _));have e1:KS s1 ((if opOf (s1.text 4)=0 then(s1.CF s.rows.length (opOf (s1.text 4):Nat)).setBad else s1.CF s.rows.length (opOf (s1.text 4):Nat)).step):=by
         refine KS.trans ?_ (EH _);split
         ·exact(Oc _ _ _).trans (Od _)
         ·exact Oc _ _ _
        cases he2:expr f ((if opOf (s1.text 4)=0 then(s1.CF s.rows.length (opOf (s1.text 4):Nat)).setBad else s1.CF s.rows.length (opOf (s1.text 4):Nat)).step) s.rows.length with
        |none=>rw[he2] at h;simp at h
        |some s2=>
          rw[he2] at h;injection h with h;subst h;have E2:=ihe _ _ _ he2 ((hnew.keep (Dq _)).keep (E1.trans e1));exact K1.trans ((Dq _).trans ((E1.trans e1).trans ((E2.trans (Bz _ _)).trans (Eu _))))
    rw[if_neg hp] at h;injection h with h;subst h;exact Od s
   ·rw[call] at h
    try dsimp only at h
    have K1:=EP s u (nd 19) rfl (ge3 (by decide) hu);have hnew:At (s.node u (nd 19)) s.rows.length (fun p=>3≤p):=new3 (c:=19) hu rfl (by omega);have K2:=((Bz (s.node u (nd 19)) [46]).trans (FL _));generalize hbd:({((s.node u (nd 19)).need [46]).name with calls:=((s.node u (nd 19)).need [46]).name.calls++[((s.node u (nd 19)).need [46]).name.idAt s.rows.length],wants:=((s.node u (nd 19)).need [46]).name.wants++[m++[32]++((s.node u (nd 19)).need [46]).text 1]}:Rd)=b at h;have K3:KS ((s.node u (nd 19)).need [46]).name b:=by rw[←hbd];exact Dy rfl
    by_cases hb:b.enter.bad=true
    ·rw[if_pos hb] at h
     injection h with h;subst h;exact K1.trans ((K2.trans K3).trans ((Dq _).trans (Eu _)))
    ·rw[if_neg hb] at h
     cases he:args f true (b.enter.need [40]) s.rows.length with
     |none=>rw[he] at h;simp at h
     |some s1=>
       rw[he] at h;injection h with h;subst h;have K4:=(K2.trans K3).trans ((Dq b).trans (Bz _ [40]));exact K1.trans (K4.trans ((iha _ _ _ _ he (hnew.keep K4)).trans (Eu _)))
   ·rw[args] at h
    by_cases hb:s.bad=true
    ·rw[if_pos hb] at h
     injection h with h;subst h;exact KS.refl _
    rw[if_neg hb] at h;by_cases hn:s.next [41]=true
    ·rw[if_pos hn] at h
     injection h with h;subst h;exact EH _
    rw[if_neg hn] at h;have K1:KS s (if b=true then s else s.need [44]):=by split <;>first|exact KS.refl _|exact Bz _ _
    cases he:expr f (if b=true then s else s.need [44]) n with
    |none=>rw[he] at h;simp at h
    |some s1=>
      rw[he] at h;have K2:=K1.trans (ihe _ _ _ he (hu.keep K1));exact K2.trans (iha _ _ _ _ h (hu.keep K2))
theorem X4(f:Nat):(∀s u s',stmt f s u=some s'→At s u (fun p=>3≤p)→KS s s')∧(∀s u s',block f s u=some s'→At s u (fun p=>3≤p)→KS s s')∧(∀s n s',stmts f s n=some s'→At s n (fun p=>3≤p)→KS s s'):=by
 induction f with
 |zero=>exact⟨fun _ _ _ h=>by simp[stmt] at h,fun _ _ _ h=>by simp[block] at h,fun _ _ _ h=>by simp[stmts] at h⟩
 |succ f ih=>
   obtain⟨ihs,ihb,ihl⟩:=ih;have E:=UL f;refine⟨fun s u s' h hu=> ?_,fun s u s' h hu=> ?_,fun s n s' h hu=> ?_⟩
   ·rw[stmt] at h
    try dsimp only at h
    have hus:=hu.keep (EH s);have nodeK:∀n:Node,n.kids=[]→4≤n.kind→KS s (s.step.node u n)∧At (s.step.node u n) s.rows.length (fun p=>3≤p):=fun n hn h4=>
     ⟨(EH s).trans (EP s.step u n hn (ge3 h4 hus)),new3 (s:=s.step) (c:=n.kind) hus rfl h4⟩
    by_cases h1:s.next wLet=true
    ·rw[if_pos h1] at h
     have K0:=(EH s).trans (FL s.step);have hu1:=hu.keep K0;have hl:s.step.name.rows.length=s.rows.length:=by rw[(Cm s.step).2.2];rfl
     have K1:=K0.trans (EP s.step.name u (AX 6 (s.step.text 1)) rfl (ge3 (Nat.le_of_ble_eq_true rfl) hu1));have hnew:At (s.step.name.node u (AX 6 (s.step.text 1))) s.rows.length (fun p=>3≤p):=by rw[←hl];exact new3 (c:=6) hu1 rfl (by omega)
     have K2:=((NR (s.step.name.node u (AX 6 (s.step.text 1)))).trans (Jp _ s.rows.length (s.step.name.node u (AX 6 (s.step.text 1))).typed.1)).trans (Bz _ [61]);generalize((s.step.name.node u (AX 6 (s.step.text 1))).typed.2.Ar s.rows.length (s.step.name.node u (AX 6 (s.step.text 1))).typed.1).need [61]=a at h K2;cases he:expr f a s.rows.length with
     |none=>rw[he] at h;simp at h
     |some b=>
       rw[he] at h;injection h with h;subst h;exact K1.trans (K2.trans ((E.1 _ _ _ he (hnew.keep K2)).trans ((NT _ _ _).trans (Bz _ _))))
    rw[if_neg h1] at h;by_cases h2:s.next wIf=true
    ·rw[if_pos h2] at h
     obtain⟨K1,hnew⟩:=nodeK (nd 8) rfl (by decide);cases he:expr f (s.step.node u (nd 8)) s.rows.length with
     |none=>rw[he] at h;simp at h
     |some a=>
       rw[he] at h;dsimp only at h;have K2:=E.1 _ _ _ he hnew;cases hb:block f a s.rows.length with
       |none=>rw[hb] at h;simp at h
       |some b=>
         rw[hb] at h;have K3:=ihb _ _ _ hb (hnew.keep K2);have K4:=(K2.trans K3).trans (Bz b J3);exact K1.trans (K4.trans (ihb _ _ _ h (hnew.keep K4)))
    rw[if_neg h2] at h;by_cases h3:s.next Gt=true
    ·rw[if_pos h3] at h
     obtain⟨K1,hnew⟩:=nodeK (nd 9) rfl (by decide);cases he:expr f (s.step.node u (nd 9)) s.rows.length with
     |none=>rw[he] at h;simp at h
     |some a=>
       rw[he] at h;have K2:=E.1 _ _ _ he hnew;exact K1.trans (K2.trans (ihb _ _ _ h (hnew.keep K2)))
    rw[if_neg h3] at h;by_cases h4:s.next Gu=true
    ·rw[if_pos h4] at h
     obtain⟨K1,hnew⟩:=nodeK (nd 11) rfl (by decide);cases he:expr f (s.step.node u (nd 11)) s.rows.length with
     |none=>rw[he] at h;simp at h
     |some a=>
       rw[he] at h;injection h with h;subst h;exact K1.trans ((E.1 _ _ _ he hnew).trans (Bz _ _))
    rw[if_neg h4] at h;by_cases h5:s.next wDo=true
    ·rw[if_pos h5] at h
     obtain⟨K1,hnew⟩:=nodeK (nd 12) rfl (by decide);generalize(s.step.node u (nd 12))=a at h K1 hnew;cases he:call f a.name s.rows.length (a.text 1) with
     |none=>rw[he] at h;simp at h
     |some b=>
       rw[he] at h;injection h with h;subst h;exact(K1.trans (FL a)).trans ((E.2.1 _ _ _ _ he (hnew.keep (FL a))).trans (Bz _ _))
    rw[if_neg h5] at h;have hu1:=hu.keep (FL s);have hl:s.name.rows.length=s.rows.length:=by rw[(Cm s).2.2]
    have K1:=(FL s).trans (EP s.name u (nd 7) rfl (ge3 (by decide) hu1));have hnew:At (s.name.node u (nd 7)) s.rows.length (fun p=>3≤p):=by rw[←hl];exact new3 (c:=7) hu1 rfl (by omega)
    generalize(s.name.node u (nd 7))=a at h K1 hnew;have K2:=((UC a (s.text 1)).trans (LG _ s.rows.length (a.find (s.text 1)).1)).trans (Bz _ [61]);cases he:expr f (((a.find (s.text 1)).2.DN s.rows.length (a.find (s.text 1)).1).need [61]) s.rows.length with
    |none=>rw[he] at h;simp at h
    |some b=>
      rw[he] at h;injection h with h;subst h;exact K1.trans (K2.trans ((E.1 _ _ _ he (hnew.keep K2)).trans (Bz _ _)))
   ·rw[block] at h
    try dsimp only at h
    have K1:=EP s u (nd 5) rfl (ge3 (by decide) hu);have hnew:At (s.node u (nd 5)) s.rows.length (fun p=>3≤p):=new3 (c:=5) hu rfl (by omega);generalize hbd:({(s.node u (nd 5)) with level:=(s.node u (nd 5)).level+1}:Rd)=b at h;have K2:KS (s.node u (nd 5)) b:=by rw[←hbd];exact Dy rfl
    by_cases hb:b.enter.bad=true
    ·rw[if_pos hb] at h
     injection h with h;subst h;exact(K1.trans K2).trans ((Dq _).trans ((Eu _).trans (UB _)))
    ·rw[if_neg hb] at h
     cases he:stmts f (b.enter.need [123]) s.rows.length with
     |none=>rw[he] at h;simp at h
     |some a=>
       rw[he] at h;injection h with h;subst h;have K3:=K2.trans ((Dq b).trans (Bz _ [123]));exact K1.trans (K3.trans ((ihl _ _ _ he (hnew.keep K3)).trans ((Eu _).trans (UB _))))
   ·rw[stmts] at h
    by_cases hb:s.bad=true
    ·rw[if_pos hb] at h
     injection h with h;subst h;exact KS.refl _
    rw[if_neg hb] at h;by_cases hn:s.next [125]=true
    ·rw[if_pos hn] at h
     injection h with h;subst h;exact EH _
    rw[if_neg hn] at h;cases he:stmt f s n with
    |none=>rw[he] at h;simp at h
    |some a=>
      rw[he] at h;have K1:=ihs _ _ _ he hu;exact K1.trans (ihl _ _ _ h (hu.keep K1))
theorem Ux:∀(f:Nat) (b:Bool) (s:Rd) (k:Nat) (s':Rd),params f b s k=some s'→At s k (fun p=>3≤p)→KS s s':=by
 intro f
 induction f with
 |zero=>intro b s k s' h;simp[params] at h
 |succ f ih=>
   intro b s k s' h hu;rw[params] at h;by_cases hb:s.bad=true
   ·rw[if_pos hb] at h;injection h with h;subst h;exact KS.refl _
   rw[if_neg hb] at h;by_cases hn:s.next [41]=true
   ·rw[if_pos hn] at h;injection h with h;subst h;exact EH _
   rw[if_neg hn] at h;dsimp only at h;have K0:KS s (if b=true then s else s.need [44]):=by split <;>first|exact KS.refl _|exact Bz _ _
   generalize(if b=true then s else s.need [44])=r at h K0;have K1:=K0.trans (FL r);have K2:=K1.trans (EP r.name k (AX 4 (r.text 1)) rfl (ge3 (Nat.le_of_ble_eq_true rfl) (hu.keep K1)));have K3:=K2.trans ((NR _).trans ((Jp _ r.rows.length (r.name.node k (AX 4 (r.text 1))).typed.1).trans (NT _ (r.text 1) r.rows.length)));exact K3.trans (ih _ _ _ _ h (hu.keep K3))
theorem Ye:∀(f:Nat) (s:Rd) (n:Nat) (s':Rd),body f s n=some s'→At s n (fun p=>3≤p)→KS s s':=by
 intro f
 induction f with
 |zero=>intro s n s' h;simp[body] at h
 |succ f ih=>
   intro s n s' h hu;rw[body] at h;by_cases hb:s.bad=true∨s.next BN=true
   ·rw[if_pos hb] at h;injection h with h;subst h;exact KS.refl _
   rw[if_neg hb] at h;cases he:stmt f s n with
   |none=>rw[he] at h;simp at h
   |some a=>
     rw[he] at h;have K1:=(X4 f).1 _ _ _ he hu;exact K1.trans (ih _ _ _ h (hu.keep K1))
theorem YX(f:Nat)(s:Rd)(u:Nat)(m:Str)(s':Rd)(h:func f s u m=some s')(hu:At s u (fun p=>p=2)):KS s s':=by
 unfold func at h;dsimp only at h;have K1:=(Bz s DJ).trans (FL _);generalize(s.need DJ).text 1=t at h;generalize(s.need DJ).name=a at h K1;have K2:KS s (if inL a.funcs (m++[32]++t)=true then a.fault 10 else a):=K1.trans (by split <;>first|exact KO _ _|exact KS.refl _);generalize(if inL a.funcs (m++[32]++t)=true then a.fault 10 else a)=b at h K2;change (match params f true (((b.node u (AX 3 t)).EU (m++[32]++t) b.rows.length).need [40]) b.rows.length with
  |none=>none
  |some r=>_)=some s' at h
 have hub:=hu.keep K2;have K3:=K2.trans (EP b u (AX 3 t) rfl (hub.imp fun _ hp=> .inr (.inl ⟨hp,rfl⟩)));have hnew:At (b.node u (AX 3 t)) b.rows.length (fun p=>3≤p):=(Po b u (AX 3 t) hub.ne).imp fun k hk=>by rw[hk];exact Nat.le_refl 3
 have K4:KS (b.node u (AX 3 t)) ((b.node u (AX 3 t)).EU (m++[32]++t) b.rows.length):=Dy rfl;have hnew4:=hnew.keep K4;have K5:=K3.trans K4;generalize(b.node u (AX 3 t)).EU (m++[32]++t) b.rows.length=c at h K5 hnew4;cases hp:params f true (c.need [40]) b.rows.length with
 |none=>rw[hp] at h;simp at h
 |some p=>
   rw[hp] at h;dsimp only at h;have K6:=(Bz c [40]).trans (Ux _ _ _ _ _ hp (hnew4.keep (Bz c [40])));have K7:=K6.trans ((NR p).trans (Jp _ b.rows.length p.typed.1));have hn7:=hnew4.keep K7;have K8:=K7.trans (EP _ b.rows.length (nd 5) rfl (ge3 (by decide) hn7));have hb8:At ((p.typed.2.Ar b.rows.length p.typed.1).node b.rows.length (nd 5)) (p.typed.2.Ar b.rows.length p.typed.1).rows.length (fun p=>3≤p):=new3 (c:=5) hn7 rfl (by omega);have K9:=K8.trans (Bz _ [123]);have hb9:=hb8.keep (Bz _ [123]);generalize((p.typed.2.Ar b.rows.length p.typed.1).node b.rows.length (nd 5)).need [123]=q at h K9 hb9;cases hq:body f q (p.typed.2.Ar b.rows.length p.typed.1).rows.length with
   |none=>rw[hq] at h;simp at h
   |some v=>
     rw[hq] at h;dsimp only at h;have K10:=Ye _ _ _ _ hq hb9;have K11:=K10.trans (Bz v BN);have hb11:=hb9.keep K11;have K12:=K11.trans (EP _ _ (nd 10) rfl (ge3 (by decide) hb11));have hn12:At ((v.need BN).node (p.typed.2.Ar b.rows.length p.typed.1).rows.length (nd 10)) (v.need BN).rows.length (fun p=>3≤p):=new3 (c:=10) hb11 rfl (by omega);cases hx:expr f ((v.need BN).node (p.typed.2.Ar b.rows.length p.typed.1).rows.length (nd 10)) (v.need BN).rows.length with
     |none=>rw[hx] at h;simp at h
     |some x=>
       rw[hx] at h;injection h with h;subst h;exact K5.trans (K9.trans (K12.trans (((UL f).1 _ _ _ hx hn12).trans ((Bz _ _).trans (Bz _ _)))))
theorem Pf(f:Nat):∀(g:Nat) (s:Rd) (m:Nat) (t:Str) (s':Rd),Ba f g s m t=some s'→At s m (fun p=>p=2)→KS s s':=by
 intro g
 induction g with
 |zero=>intro s m t s' h;simp[Ba] at h
 |succ g ih=>
   intro s m t s' h hu;rw[Ba] at h;by_cases hb:s.bad=true
   ·rw[if_pos hb] at h;injection h with h;subst h;exact KS.refl _
   rw[if_neg hb] at h;by_cases hn:s.next [125]=true
   ·rw[if_pos hn] at h;injection h with h;subst h;exact EH _
   rw[if_neg hn] at h;cases he:func f s m t with
   |none=>rw[he] at h;simp at h
   |some a=>
     rw[he] at h;have K1:=YX _ _ _ _ _ he hu;exact K1.trans (ih _ _ _ _ h (hu.keep K1))
theorem Qw(f:Nat):∀(g:Nat) (s:Rd) (root:Nat) (s':Rd),Bh f g s root=some s'→At s root (fun p=>p=1)→KS s s':=by
 intro g
 induction g with
 |zero=>intro s r s' h;simp[Bh] at h
 |succ g ih=>
   intro s root s' h hu;rw[Bh] at h;by_cases hb:s.bad=true∨s.L.length≤s.at_
   ·rw[if_pos hb] at h;injection h with h;subst h;exact KS.refl _
   rw[if_neg hb] at h;dsimp only at h;have K1:=(Bz s Cb).trans (FL _);generalize(s.need Cb).text 1=t at h;generalize(s.need Cb).name=a at h K1;have K2:KS s (if inL a.mods t=true then a.fault 10 else a):=K1.trans (by split <;>first|exact KO _ _|exact KS.refl _);generalize(if inL a.mods t=true then a.fault 10 else a)=b at h K2;have hl:b.rows.length=b.rows.length:=rfl;generalize hc:({b with mods:=b.mods++[t]}:Rd)=c at h;have hcr:c.rows=b.rows:=by rw[←hc]
   have K3:=K2.trans (Dy hcr);have huc:=hu.keep K3;have K4:=K3.trans (EP c root (AX 2 t) rfl (huc.imp fun _ hp=> .inl ⟨hp,rfl⟩));have hnew:At (c.node root (AX 2 t)) b.rows.length (fun p=>p=2):=by rw[←hcr];exact Po c root (AX 2 t) huc.ne
   have K5:=Bz (c.node root (AX 2 t)) [123];cases he:Ba f f ((c.node root (AX 2 t)).need [123]) b.rows.length t with
   |none=>rw[he] at h;simp at h
   |some d=>
     rw[he] at h;have K6:=K4.trans (K5.trans (Pf _ _ _ _ _ _ he (hnew.keep K5)));exact K6.trans (ih _ _ _ h (hu.keep K6))
theorem YO:∀(is:List Nat) (ws:List Str) (s:Rd),KS s (link is ws s):=by
 intro is
 induction is with
 |nil=>intro ws s;cases ws <;>exact KS.refl _
 |cons i is ih=>
   intro ws s;cases ws with
   |nil=>exact KS.refl _
   |cons t ws=>
     rw[link];refine KS.trans ?_ (ih ws _);refine KS.trans ?_ (LG _ _ _)
     split <;>first|exact KO _ _|exact KS.refl _
theorem SA(f:Nat)(l:List Tok)(s':Rd)(h:program f (BF l)=some s'):Tr s'.rows:=by
 unfold program at h;dsimp only at h;have hr:((BF l).node 0 (nd 1)).rows=[⟨1,nd 1⟩]:=rfl;have hat:At ((BF l).node 0 (nd 1)) (BF l).rows.length (fun p=>p=1):=⟨⟨1,nd 1⟩,by rw[hr];rfl,rfl⟩;cases e:Bh f f ((BF l).node 0 (nd 1)) (BF l).rows.length with
 |none=>rw[e] at h;simp at h
 |some a=>
   rw[e] at h;injection h with h;subst h;have K:=Qw _ _ _ _ _ e hat;exact(YO _ _ _).tr (K.tr (by rw[hr];exact QB _ rfl rfl))
end Rd
end Hg
namespace Hg
theorem Yt{s:Str}{c:UInt8}{r:Str}(hs:s=c::r)(p:UInt8→Bool)(h:p c=true):1≤(s.takeWhile p).length:=by
 subst hs;rw[List.takeWhile_cons,if_pos h];simp
theorem ZT(s:Str)(p:UInt8→Bool):(s.takeWhile p).length≤s.length:=(List.takeWhile_sublist p).length_le
theorem Hd(M:Nat):∀(f i:Nat) (s:Str) (acc l:List Tok),BD f i s acc=some l→s.length≤M→(∀t∈acc,t.text.length≤M)→l.length≤acc.length+s.length∧∀t∈l,t.text.length≤M
 |0,i,s,acc,l,h,hM,ha=>by
   rw[BD] at h;injection h with h;subst h;exact⟨by omega,ha⟩
 |f+1,i,[],acc,l,h,hM,ha=>by
   rw[BD] at h;injection h with h;subst h;exact⟨by omega,ha⟩
 |f+1,i,c::r,acc,l,h,hM,ha=>by
   rw[BD] at h;simp only[List.length_cons] at hM;by_cases h3:cls c=3
   ·rw[if_pos h3] at h
    obtain⟨h1,h2⟩:=Hd M f _ r acc l h (by omega) ha;exact⟨by simp;omega,h2⟩
   rw[if_neg h3] at h;by_cases h35:c.toNat=35
   ·rw[if_pos h35] at h
    dsimp only at h;obtain⟨h1,h2⟩:=Hd M f _ _ acc l h (by simp;omega) ha;exact⟨by simp only[List.length_drop] at h1;simp only[List.length_cons] at*;omega,h2⟩
   rw[if_neg h35] at h;have hadd:∀(w:Str) (k:Nat) (tk:Tok),1≤w.length→w.length≤r.length+1→tk.text=w→BD f k ((c::r).drop w.length) (acc++[tk])=some l→l.length≤acc.length+(c::r).length∧∀t∈l,t.text.length≤M:=by
    intro w k tk hw1 hw2 ht h;obtain⟨h1,h2⟩:=Hd M f _ _ _ l h (by simp;omega) (fun t ht'=>by
     rcases List.mem_append.1 ht' with h'|h'
     ·exact ha t h'
     ·simp at h';subst h';rw[ht];omega)
    refine⟨?_,h2⟩;simp only[List.length_append,List.length_drop,List.length_cons,List.length_nil] at h1⊢;omega
   by_cases h0:0 < cls c
   ·rw[if_pos h0] at h
    dsimp only at h;have hp:Be c=true:=by
     have h4:cls c≤3:=by
      unfold cls;repeat' split
      all_goals omega
     unfold Be;have:cls c=1∨cls c=2:=by omega
     rcases this with e|e <;>simp[e]
    have hw1:=Yt rfl Be hp (r:=r);have hw2:=ZT (c::r) Be;simp only[List.length_cons] at hw2;generalize List.takeWhile Be (c::r)=w at h hw1 hw2;by_cases a1:inL words w=true
    ·rw[if_pos a1] at h;exact hadd w _ _ hw1 hw2 rfl h
    rw[if_neg a1] at h;by_cases a2:Ce w=true
    ·rw[if_pos a2] at h;exact hadd w _ _ hw1 hw2 rfl h
    rw[if_neg a2] at h;by_cases a3:0≤CQ w
    ·rw[if_pos a3] at h;exact hadd w _ _ hw1 hw2 rfl h
    rw[if_neg a3] at h;cases h
   ·rw[if_neg h0] at h
    dsimp only at h;have hw:∀w,w=(if inL signs ((c::r).take 2)=true∧2≤(c::r).length then(c::r).take 2 else(c::r).take 1)→1≤w.length∧w.length≤r.length+1:=by
     intro w hw;subst hw;split
     ·simp;omega
     ·simp
    generalize(if inL signs ((c::r).take 2)=true∧2≤(c::r).length then(c::r).take 2 else(c::r).take 1)=w at h hw;obtain⟨hw1,hw2⟩:=hw _ rfl;by_cases a1:inL signs w=true
    ·rw[if_pos a1] at h;exact hadd w _ _ hw1 hw2 rfl h
    ·rw[if_neg a1] at h;cases h
theorem Kv{s:Str}{l:List Tok}(h:Dj s=some l):l.length≤s.length∧∀t∈l,t.text.length≤s.length:=by
 have:=Hd s.length s.length 0 s [] l h AA (fun t ht=>by simp at ht);simpa using this
def Cn(s:Str):List Row×Nat:=(PO (3*s.length+10) s).getD ([],0)
theorem Fs{s:Str}(h:Dj s=none):Cn s=([],20):=by unfold Cn PO;rw[h];rfl
theorem Fq{s:Str}{l:List Tok}(h:Dj s=some l):∃r,Rd.program (3*s.length+10) (Rd.BF l)=some r∧r.rows.length≤3*s.length+4∧r.at_≤2*s.length+2∧Tr r.rows∧
 Cn s=if r.bad=true then([],20) else if 20000 < r.rows.length then([],5) else if r.names≠0 then([],r.names) else(r.rows,0):=by
 obtain⟨h1,_⟩:=Kv h;obtain⟨r,hr,h2,h3⟩:=Rd.PQ (3*s.length+10) l (by omega);refine⟨r,hr,by omega,by omega,Rd.SA _ _ _ hr, ?_⟩;unfold Cn PO;rw[h];dsimp only;rw[hr];dsimp only
 repeat' split
 all_goals rfl
theorem WN(s:Str):((Cn s).1=[]∨Tr (Cn s).1)∧(Cn s).1.length≤20000:=by
 cases h:Dj s with
 |none=>rw[Fs h];exact⟨.inl rfl,by simp⟩
 |some l=>
   obtain⟨r,_,_,_,ht,e⟩:=Fq h;rw[e];split
   ·exact⟨.inl rfl,by simp⟩
   ·split
    ·exact⟨.inl rfl,by simp⟩
    ·split
     ·exact⟨.inl rfl,by simp⟩
     ·exact⟨.inr ht,by simp;omega⟩
end Hg
