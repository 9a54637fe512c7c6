/-
  Part of the proof of CheckLists.
-/
set_option linter.all false
namespace Hg
abbrev Str:=List UInt8
structure Tok where
 kind:Nat
 text:Str
 pos:Nat
deriving Inhabited,DecidableEq
structure Node where
 kind:Nat
 name:Str
 num:Int
 type:Nat
 ref:Nat
 kids:List Nat
deriving Inhabited,DecidableEq
structure Row where
 id:Nat
 node:Node
deriving Inhabited,DecidableEq
def Node.zero:Node:=⟨0,[],0,0,0,[]⟩
def cls(c:UInt8):Nat:=
 if (97≤c.toNat∧c.toNat≤122)∨(65≤c.toNat∧c.toNat≤90)∨c.toNat=95 then 1
 else if 48≤c.toNat∧c.toNat≤57 then 2
 else if c.toNat=32∨c.toNat=9∨c.toNat=10 then 3 else 0
def Ab(c:UInt8):Bool:=cls c==1||cls c==2
def inL(l:List Str)(s:Str):Bool:=l.any (·==s)
def Bz(s:Str):Bool:=
 match s with
 |[]=>false
 |c::_=>s.length≤64 && cls c==1 && s.all Ab
def valOf(s:Str):Nat:=s.foldl (fun n c=>10*n+(c.toNat-48)) 0
def BZ(s:Str):Int:=
 match s with
 |[]=> -1
 |c::r=>
   if 19 < s.length∨(c.toNat=48∧r≠[]) then -1
   else if s.all (fun c=>cls c==2) then(if 9223372036854775807 < valOf s then -1 else(valOf s:Int)) else -1
def Lt:Str:=[98,111,111,108]
def wDo:Str:=[100,111]
def Ls:Str:=[101,108,115,101]
def EI:Str:=[102,97,108,115,101]
def CX:Str:=[102,117,110,99]
def wIf:Str:=[105,102]
def wInt:Str:=[105,110,116]
def wLet:Str:=[108,101,116]
def Bn:Str:=[109,111,100,117,108,101]
def Gw:Str:=[112,114,105,110,116]
def GJ:Str:=[114,101,97,100]
def Aw:Str:=[114,101,116,117,114,110]
def Eo:Str:=[116,114,117,101]
def Gv:Str:=[119,104,105,108,101]
def words:List Str:=[Lt,wDo,Ls,EI,CX,wIf,wInt,wLet,Bn,Gw,GJ,Aw,Eo,Gv]
def signs:List Str:=[[40],[41],[123],[125],[46],[44],[59],[61],[33],[43],[45],[42],[47],[37],[60],[60,61],[62],[62,61],[61,61],[33,61],[38,38],[124,124]]
def Ak:Nat→Nat→Str→List Tok→Option (List Tok)
 |0,_,_,acc=>some acc
 |f+1,i,s,acc=>
   match s with
   |[]=>some acc
   |c::r=>
     if cls c=3 then Ak f (i+1) r acc
     else if c.toNat=35 then
      let k:=(s.takeWhile (fun b=>b.toNat !=10)).length
      Ak f (i+k) (s.drop k) acc
     else if 0 < cls c then
      let w:=s.takeWhile Ab
      let nx:=fun t=>Ak f (i+w.length) (s.drop w.length) (acc++[t])
      if inL words w then nx ⟨3,w,i⟩
      else if Bz w then nx ⟨1,w,i⟩
      else if 0≤BZ w then nx ⟨2,w,i⟩
      else none
     else
      let w:=if inL signs (s.take 2)∧2≤s.length then s.take 2 else s.take 1
      if inL signs w then Ak f (i+w.length) (s.drop w.length) (acc++[⟨4,w,i⟩]) else none
def Cz(s:Str):Option (List Tok):=Ak s.length 0 s []
structure GV where
 name:Str
 id:Nat
 deep:Nat
deriving Inhabited,DecidableEq
structure Rd where
 L:List Tok
 at_:Nat
 deep:Nat
 bad:Bool
 rows:List Row
 names:Nat
 mods:List Str
 funcs:List Str
 ids:List Nat
 calls:List Nat
 wants:List Str
 used:List Str
 seen:List GV
 level:Nat
deriving Inhabited,DecidableEq
namespace Rd
def BC(l:List Tok):Rd:=⟨l,0,0,false,[],0,[],[],[],[],[],[],[],0⟩
def fault(r:Rd)(e:Nat):Rd:=if r.names=0∧r.bad=false then {r with names:=e} else r
def Eh(l:List Row)(under id:Nat):List Row:=
 l.modify under fun x=>{x with node:={x.node with kids:=x.node.kids++[id]}}
def node(r:Rd)(under:Nat)(n:Node):Rd:=
 let id:=r.rows.length+1
 let rows:=r.rows++[⟨id,n⟩]
 {r with rows:=if 1 < id then Eh rows under id else rows}
def text(r:Rd)(kind:Nat):Str:=
 if r.bad then[] else
  match r.L[r.at_]? with
  |some t=>if t.kind=kind then t.text else[]
  |none=>[]
def next(r:Rd)(s:Str):Bool:=r.text 3==s||r.text 4==s
def step(r:Rd):Rd:={r with at_:=r.at_+1}
def eat(r:Rd)(s:Str):Rd:=if r.next s then r.step else r
def setBad(r:Rd):Rd:={r with bad:=true}
def need(r:Rd)(s:Str):Rd:=if r.next s then r.step else r.setBad
def name(r:Rd):Rd:=if r.text 1=[] then r.setBad else r.step
def typed(r:Rd):Nat×Rd:=if r.next wInt then(1,r.step) else(2,r.need Lt)
def Al(r:Rd)(k t:Nat):Rd:={r with rows:=r.rows.modify k fun x=>{x with node:={x.node with type:=t}}}
def setRef(r:Rd)(k id:Nat):Rd:={r with rows:=r.rows.modify k fun x=>{x with node:={x.node with ref:=id}}}
def BL(r:Rd)(k:Nat)(n:Int):Rd:={r with rows:=r.rows.modify k fun x=>{x with node:={x.node with num:=n}}}
def idAt(r:Rd)(k:Nat):Nat:=((r.rows[k]?).map (·.id)).getD 0
def declare(r:Rd)(s:Str)(k:Nat):Rd:=
 let r:=if inL r.used s then r.fault 10 else r
 {r with used:=r.used++[s],seen:=r.seen++[⟨s,r.idAt k,r.level⟩]}
def Kw(l:List GV)(s:Str):Option Nat:=(l.reverse.find? (fun b=>b.name==s)).map (·.id)
def find(r:Rd)(s:Str):Nat×Rd:=
 match Kw r.seen s with
 |some id=>(id,r)
 |none=>(0,r.fault 9)
def enter(r:Rd):Rd:=
 let r:={r with deep:=r.deep+1}
 if 90 < r.deep then r.setBad else r
def leave(r:Rd):Rd:={r with deep:=r.deep-1}
end Rd
end Hg
namespace Hg
namespace Rd
def ops:List Str:=[[43],[45],[42],[47],[37],[60],[60,61],[62],[62,61],[61,61],[33,61],[38,38],[124,124]]
def opOf(s:Str):Nat:=match ops.findIdx? (·==s) with|some i=>i+1|none=>0
def nd(kind:Nat):Node:=⟨kind,[],0,0,0,[]⟩
def AO(kind:Nat)(s:Str):Node:=⟨kind,s,0,0,0,[]⟩
def IX(kind:Nat)(n:Int):Node:=⟨kind,[],n,0,0,[]⟩
def shut(r:Rd):Rd:={r with seen:=r.seen.filter (fun b=>b.deep < r.level),level:=r.level-1}
mutual
def expr:Nat→Rd→Nat→Option Rd
 |0,_,_=>none
 |f+1,r,under=>
   if r.text 2≠[] then some (r.step.node under (IX 13 (BZ (r.text 2))))
   else if r.text 1≠[] then
    let s:=r.text 1
    let r:=r.step
    if r.next [46] then call f r under s
    else
     let n:=r.rows.length
     let r:=r.node under (nd 15)
     some ((r.find s).2.setRef n (r.find s).1)
   else if r.next Eo then some (r.step.node under (IX 14 1))
   else if r.next EI then some (r.step.node under (nd 14))
   else if r.next GJ then some (r.step.node under (nd 20))
   else if r.next [33]∨r.next [45] then
    let kind:=if r.next [33] then 16 else 17
    let n:=r.rows.length
    let r:=(r.step.node under (nd kind)).enter
    if r.bad then some r.leave else(expr f r n).map leave
   else if r.next [40] then
    let n:=r.rows.length
    let r:=(r.step.node under (nd 18)).enter
    if r.bad then some r.leave else
     match expr f r n with
     |none=>none
     |some r=>
       let op:=opOf (r.text 4)
       let r:=r.BL n op
       let r:=if op=0 then r.setBad else r
       match expr f r.step n with
       |none=>none
       |some r=>some (r.need [41]).leave
   else some r.setBad
def call:Nat→Rd→Nat→Str→Option Rd
 |0,_,_,_=>none
 |f+1,r,under,mod=>
   let n:=r.rows.length
   let r:=(r.node under (nd 19)).need [46]
   let s:=r.text 1
   let r:=r.name
   let r:={r with calls:=r.calls++[r.idAt n],wants:=r.wants++[mod++[32]++s]}
   let r:=r.enter
   if r.bad then some r.leave else(args f true (r.need [40]) n).map leave
def args:Nat→Bool→Rd→Nat→Option Rd
 |0,_,_,_=>none
 |f+1,first,r,n=>
   if r.bad then some r
   else if r.next [41] then some r.step
   else
    match expr f (if first then r else r.need [44]) n with
    |none=>none
    |some r=>args f false r n
end
mutual
def stmt:Nat→Rd→Nat→Option Rd
 |0,_,_=>none
 |f+1,r,under=>
   let n:=r.rows.length
   if r.next wLet then
    let r:=r.step
    let s:=r.text 1
    let r:=r.name.node under (AO 6 s)
    let t:=r.typed
    let r:=(t.2.Al n t.1).need [61]
    match expr f r n with
    |none=>none
    |some r=>some ((r.declare s n).need [59])
   else if r.next wIf then
    match expr f (r.step.node under (nd 8)) n with
    |none=>none
    |some r=>
      match block f r n with
      |none=>none
      |some r=>block f (r.need Ls) n
   else if r.next Gv then
    match expr f (r.step.node under (nd 9)) n with
    |none=>none
    |some r=>block f r n
   else if r.next Gw then
    (expr f (r.step.node under (nd 11)) n).map (·.need [59])
   else if r.next wDo then
    let r:=r.step.node under (nd 12)
    (call f r.name n (r.text 1)).map (·.need [59])
   else
    let s:=r.text 1
    let r:=r.name.node under (nd 7)
    let r:=((r.find s).2.setRef n (r.find s).1).need [61]
    (expr f r n).map (·.need [59])
def block:Nat→Rd→Nat→Option Rd
 |0,_,_=>none
 |f+1,r,under=>
   let n:=r.rows.length
   let r:=r.node under (nd 5)
   let r:=({r with level:=r.level+1}:Rd).enter
   if r.bad then some r.leave.shut else(stmts f (r.need [123]) n).map (fun r=>r.leave.shut)
def stmts:Nat→Rd→Nat→Option Rd
 |0,_,_=>none
 |f+1,r,n=>
   if r.bad then some r
   else if r.next [125] then some r.step
   else
    match stmt f r n with
    |none=>none
    |some r=>stmts f r n
end
def params:Nat→Bool→Rd→Nat→Option Rd
 |0,_,_,_=>none
 |f+1,first,r,k=>
   if r.bad then some r
   else if r.next [41] then some r.step
   else
    let r:=if first then r else r.need [44]
    let x:=r.text 1
    let p:=r.rows.length
    let r:=r.name.node k (AO 4 x)
    let t:=r.typed
    params f false ((t.2.Al p t.1).declare x p) k
def body:Nat→Rd→Nat→Option Rd
 |0,_,_=>none
 |f+1,r,n=>
   if r.bad∨r.next Aw then some r
   else
    match stmt f r n with
    |none=>none
    |some r=>body f r n
def func(f:Nat)(r:Rd)(under:Nat)(mod:Str):Option Rd:=
 let r:=r.need CX
 let s:=r.text 1
 let r:=r.name
 let r:=if inL r.funcs (mod++[32]++s) then r.fault 10 else r
 let k:=r.rows.length
 let r:=r.node under (AO 3 s)
 let r:={r with funcs:=r.funcs++[mod++[32]++s],ids:=r.ids++[r.idAt k],used:=[],seen:=[],level:=0}
 match params f true (r.need [40]) k with
 |none=>none
 |some r=>
   let t:=r.typed
   let r:=t.2.Al k t.1
   let b:=r.rows.length
   let r:=(r.node k (nd 5)).need [123]
   match body f r b with
   |none=>none
   |some r=>
     let r:=r.need Aw
     let n:=r.rows.length
     match expr f (r.node b (nd 10)) n with
     |none=>none
     |some r=>some ((r.need [59]).need [125])
def BF(f:Nat):Nat→Rd→Nat→Str→Option Rd
 |0,_,_,_=>none
 |g+1,r,m,s=>
   if r.bad then some r
   else if r.next [125] then some r.step
   else
    match func f r m s with
    |none=>none
    |some r=>BF f g r m s
def Ba(f:Nat):Nat→Rd→Nat→Option Rd
 |0,_,_=>none
 |g+1,r,root=>
   if r.bad∨r.L.length≤r.at_ then some r
   else
    let r:=r.need Bn
    let s:=r.text 1
    let r:=r.name
    let r:=if inL r.mods s then r.fault 10 else r
    let r:={r with mods:=r.mods++[s]}
    let m:=r.rows.length
    let r:=(r.node root (AO 2 s)).need [123]
    match BF f f r m s with
    |none=>none
    |some r=>Ba f g r root
def F9:List Str→List Nat→Str→Nat→Nat
 |f::fs,i::is,s,t=>F9 fs is s (if f=s then i else t)
 |_,_,_,t=>t
def lastOf(fs:List Str)(is:List Nat)(s:Str):Nat:=F9 fs is s 0
def link:List Nat→List Str→Rd→Rd
 |id::is,s::ws,r=>
   let to:=lastOf r.funcs r.ids s
   let r:=if to=0 then r.fault 9 else r
   link is ws (r.setRef (id-1) to)
 |_,_,r=>r
def program(f:Nat)(r:Rd):Option Rd:=
 let root:=r.rows.length
 match Ba f f (r.node 0 (nd 1)) root with
 |none=>none
 |some r=>some (link r.calls r.wants r)
end Rd
def Ol(f:Nat)(s:Str):Option (List Row×Nat):=
 match Cz s with
 |none=>some ([],20)
 |some l=>
   match Rd.program f (Rd.BC l) with
   |none=>none
   |some r=>
     if r.bad then some ([],20)
     else if 20000 < r.rows.length then some ([],5)
     else if r.names≠0 then some ([],r.names)
     else some (r.rows,0)
end Hg
namespace Hg
def atI(l:List Row)(id:Nat):Option Nat:=l.findIdx? (fun r=>r.id==id)
def KP(l:List Row)(id:Nat):Int:=match atI l id with|some k=>(k:Int)|none=> -1
def parentOf:List Row→Nat→Nat×Nat
 |[],_=>(0,0)
 |r::rs,id=>match r.node.kids.findIdx? (·==id) with
   |some k=>(r.id,k)
   |none=>parentOf rs id
def AV(l:List Row)(id:Nat):Node:=match l.find? (fun r=>r.id==id) with|some r=>r.node|none=>Node.zero
def isIn(l:List Nat)(x:Nat):Bool:=l.contains x
def rowAt(l:List Row)(k:Nat):Row:=l.getD k default
def CU(l:List Row)(k:Nat):List Nat:=(rowAt l k).node.kids
def Dg(l:List Row):Nat→List Nat→List Nat→Option (List Nat)
 |0,_,_=>none
 |_+1,[],out=>some out
 |f+1,i::wait,out=>
   match atI l i with
   |none=>Dg l f wait out
   |some k=>if isIn out i=true then Dg l f wait out else Dg l f (CU l k++wait) (out++[i])
def BA(l:List Row):Nat:=(l.map (fun r=>r.node.kids.length)).sum
def Df(l:List Row)(wait out:List Nat):Nat:=wait.length+BA (l.filter (fun r=> !isIn out r.id))
def walk(l:List Row)(id:Nat):List Nat:=(Dg l (BA l+2) [id] []).getD []
def FE(D:Nat→Nat):List Nat→Nat→Nat
 |[],most=>most+1
 |k::ks,most=>if D k=0 then 0 else FE D ks (max most (D k))
def DW(l:List Row):Nat→Nat→Nat
 |0,_=>0
 |n+1,id=>FE (DW l n) (CU l ((atI l id).getD 0)) 0
def Cj(l:List Row):List Nat→Nat→Option Nat
 |[],n=>some n
 |k::ks,n=>if atI l k=none∨k=1 then none else Cj l ks (n+1)
def Dy(l:List Row):List Row→Nat→Option Nat
 |[],n=>some n
 |r::rs,n=>if r.node.ref≠0∧atI l r.node.ref=none then none else
   match Cj l r.node.kids n with
   |none=>none
   |some n=>Dy l rs n
def tree(l:List Row):Bool:=
 match atI l 1 with
 |none=>false
 |some k=>if (rowAt l k).node.kind≠1∨(walk l 1).length≠l.length then false else
   match Dy l l 0 with
   |none=>false
   |some n=>decide (n+1=l.length) && decide (0 < DW l 200 1)
def FB(kind:Nat):Bool:=decide (13≤kind) && decide (kind≤20)
def FV(kind:Nat):UInt8:=
 if kind=19 then 67 else if FB kind then 69 else if kind=10 then 82 else if 6≤kind∧kind≤12 then 83 else if kind=5 then 66 else if kind=4 then 80 else if kind=3 then 70 else if kind=2 then 77 else 88
def only (s letters:Str):Bool:=s.all (fun c=>letters.any (fun x=>c==x))
def fits(kind:Nat)(s:Str)(body:Bool):Bool:=
 if kind=1 then only s [77]
 else if kind=2 then only s [70]
 else if kind=3 then decide (0 < s.length) && only (s.take (s.length-1)) [80] && s.drop (s.length-1)==[66]
 else if kind=5 then(if body then decide (0 < s.length) && only (s.take (s.length-1)) [83] && s.drop (s.length-1)==[82] else only s [83])
 else if kind=6∨kind=7∨kind=10∨kind=11∨kind=16∨kind=17 then decide (s.length=1) && only s [69,67]
 else if kind=8 then decide (s.length=3) && only (s.take 1) [69,67] && s.drop 1==[66,66]
 else if kind=9 then decide (s.length=2) && only (s.take 1) [69,67] && s.drop 1==[66]
 else if kind=12 then s==[67]
 else if kind=18 then decide (s.length=2) && only s [69,67]
 else if kind=19 then only s [69,67]
 else decide (s.length=0)
def kindOf(l:List Row)(id:Nat):Nat:=(AV l id).kind
def classes(l:List Row)(kids:List Nat):Str:=kids.map (fun k=>FV (kindOf l k))
def isNamed(k:Nat):Bool:=decide (k=2)||decide (k=3)||decide (k=4)||decide (k=6)
def DX(l:List Row)(r:Row):Bool:=
 let n:=r.node
 if n.kind < 1∨20 < n.kind∨decide (n.kind=1)≠decide (r.id=1)∨fits n.kind (classes l n.kids) (decide (kindOf l (parentOf l r.id).1=3))=false then false
 else if isNamed n.kind≠(n.name !=[])∨isNamed n.kind=true∧(Bz n.name=false∨inL words n.name=true) then false
 else if (isNamed n.kind && decide (n.kind≠2))≠(decide (n.type=1)||decide (n.type=2))∨(isNamed n.kind && decide (n.kind≠2))=false∧n.type≠0 then false
 else if n.kind=7∨n.kind=15 then
  (if kindOf l n.ref≠4∧kindOf l n.ref≠6 then false else decide (n.num=0))
 else if n.kind=19 then
  (if kindOf l n.ref≠3 then false else decide (n.num=0))
 else if n.ref≠0 then false
 else if n.kind=13 then decide (0≤n.num)
 else if n.kind=14 then decide (0≤n.num∧n.num≤1)
 else if n.kind=18 then decide (1≤n.num∧n.num≤13)
 else decide (n.num=0)
def ER(l:List Row)(D:Nat→Option Nat)(kind:Nat):List Nat→Nat→Option Nat
 |[],most=>some (if 16≤kind∧kind≤19 then most+1 else most)
 |k::ks,most=>
   match D k with
   |none=>none
   |some d=>ER l D kind ks (max most (if kindOf l k=5∧kind≠3 then d+1 else d))
def ES(l:List Row):Nat→Nat→Option Nat
 |0,_=>none
 |f+1,id=>ER l (ES l f) (kindOf l id) (AV l id).kids 0
def Cr(l:List Row):List Row→Option Bool
 |[]=>some true
 |r::rs=>if r.node.kind=3 then
     (match ES l 201 r.id with
      |none=>none
      |some d=>if 90 < d then some false else Cr l rs)
   else Cr l rs
def Ck(l:List Row):List Row→Bool
 |[]=>true
 |r::rs=>if DX l r=false then false else Ck l rs
def shaped(l:List Row):Option Bool:=if tree l=false then some false else if Ck l l=false then some false else Cr l l
def Em(l:List Row)(f:Nat):List Str:=((walk l f).filter (fun id=>kindOf l id==4||kindOf l id==6)).map (fun id=>(AV l id).name)
def Ee(l:List Row)(m:Nat)(mod name:Str):List Nat→Option Nat
 |[]=>none
 |f::fs=>if (AV l m).name=mod∧(AV l f).name=name then some f else Ee l m mod name fs
def funcOf(l:List Row)(mod name:Str):List Nat→Nat
 |[]=>0
 |m::ms=>match Ee l m mod name (AV l m).kids with
   |some f=>f
   |none=>funcOf l mod name ms
def Gg:Str:=[109,97,105,110]
theorem Dw(r:Row)(l:List Row):BA (r::l)=r.node.kids.length+BA l:=by simp[BA]
theorem Ku(out:List Nat)(i x:Nat):isIn (out++[i]) x=(isIn out x||(x==i)):=by
 unfold isIn;rw[List.contains_eq_any_beq,List.contains_eq_any_beq,List.any_append];simp
theorem J7(l:List Row)(out:List Nat)(i:Nat):BA (l.filter (fun r=> !isIn (out++[i]) r.id))≤BA (l.filter (fun r=> !isIn out r.id)):=by
 induction l with
 |nil=>simp
 |cons r l ih=>
   rw[List.filter_cons,List.filter_cons,Ku];by_cases h1:isIn out r.id=true
   ·simp[h1];exact ih
   ·have h1':isIn out r.id=false:=by simpa using h1
    by_cases h2:r.id=i
    ·have hb:(r.id==i)=true:=by simpa using h2
     rw[h1',hb];simp[Dw];omega
    ·have hb:(r.id==i)=false:=by simpa using h2
     rw[h1',hb];simp[Dw];omega
theorem DL:∀(l:List Row) (out:List Nat) (i k:Nat),atI l i=some k→isIn out i=false→
 BA (l.filter (fun r=> !isIn (out++[i]) r.id))+(CU l k).length≤BA (l.filter (fun r=> !isIn out r.id))
 |[],out,i,k,h,ho=>by simp[atI] at h
 |r::l,out,i,k,h,ho=>by
   rw[List.filter_cons,List.filter_cons,Ku];unfold atI at h;rw[List.findIdx?_cons] at h;by_cases h2:r.id=i
   ·have hb:(r.id==i)=true:=by simpa using h2
    rw[hb] at h;simp at h;subst h;have:=J7 l out i;rw[h2,ho];simp only[Bool.false_or,beq_self_eq_true,Bool.not_true,Bool.false_eq_true,if_false,Bool.not_false,if_true,Dw];have e:(CU (r::l) 0).length=r.node.kids.length:=rfl;omega
   ·have hb:(r.id==i)=false:=by simpa using h2
    rw[hb] at h;simp only[Bool.false_eq_true,if_false,Option.map_eq_some_iff] at h;obtain⟨k',hk',rfl⟩:=h;have ih:=DL l out i k' hk' ho;have e:(CU (r::l) (k'+1))=CU l k':=by simp[CU,rowAt]
    rw[e];by_cases h1:isIn out r.id=true
    ·simp[h1];exact ih
    ·simp[h1,h2,Dw];omega
theorem Iq(l:List Row):∀(f:Nat) (wait out:List Nat),Df l wait out < f→∃r,Dg l f wait out=some r
 |0,wait,out,h=>by omega
 |f+1,[],out,h=>⟨out,rfl⟩
 |f+1,i::wait,out,h=>by
   rw[Dg];unfold Df at h;simp only[List.length_cons] at h;cases hk:atI l i with
   |none=>exact Iq l f wait out (by unfold Df;omega)
   |some k=>
     dsimp only;by_cases hi:isIn out i=true
     ·rw[if_pos hi];exact Iq l f wait out (by unfold Df;omega)
     ·rw[if_neg hi]
      have:=DL l out i k hk (by simpa using hi);exact Iq l f _ _ (by unfold Df;rw[List.length_append];omega)
theorem OX(l:List Row)(id:Nat):Dg l (BA l+2) [id] []=some (walk l id):=by
 obtain⟨r,h⟩:=Iq l (BA l+2) [id] [] (by
  unfold Df;have:l.filter (fun r=> !isIn [] r.id)=l:=by rw[List.filter_eq_self];intro r _;rfl
  rw[this];simp;omega)
 unfold walk;rw[h];rfl
def EK(id:Nat)(n:Node):List Row→List Row→Bool→List Row
 |[],out,done=>if done=true then out else out++[⟨id,n⟩]
 |r::l,out,done=>if r.id=id then EK id n l out done
   else if id < r.id∧done=false then EK id n l (out++[⟨id,n⟩]++[r]) true
   else EK id n l (out++[r]) done
def putRow(l:List Row)(id:Nat)(n:Node):List Row:=EK id n l [] false
def Dc(a:Nat)(l:List Row):Prop:=∀(k:Nat) (r:Row),l[k]? =some r→r.id=a+k
theorem Dc.head{a:Nat}{r:Row}{l:List Row}(h:Dc a (r::l)):r.id=a:=by simpa using h 0 r rfl
theorem Dc.tail{a:Nat}{r:Row}{l:List Row}(h:Dc a (r::l)):Dc (a+1) l:=fun k x hx=>by
 have:=h (k+1) x (by simpa using hx);omega
theorem MH(id:Nat)(n:Node):∀(l:List Row) (a:Nat) (out:List Row),Dc a l→id < a→EK id n l out true=out++l
 |[],_,out,_,_=>by simp[EK]
 |r::l,a,out,h,ha=>by
   have h0:=h.head;rw[EK,if_neg (by omega),if_neg (by simp),MH id n l (a+1) _ h.tail (by omega)];simp
theorem Po(id:Nat)(n:Node):∀(l:List Row) (a:Nat) (out:List Row),Dc a l→id < a→EK id n l out false=out++⟨id,n⟩::l
 |[],_,out,_,_=>by simp[EK]
 |r::l,a,out,h,ha=>by
   have h0:=h.head;rw[EK,if_neg (by omega),if_pos ⟨by omega,rfl⟩,MH id n l (a+1) _ h.tail (by omega)];simp
theorem Nh(id:Nat)(n:Node):∀(l:List Row) (a:Nat) (out:List Row),Dc a l→a≤id→id < a+l.length→EK id n l out false=out++l.set (id-a) ⟨id,n⟩
 |[],a,out,_,h1,h2=>by simp at h2;omega
 |r::l,a,out,h,h1,h2=>by
   have h0:=h.head;by_cases e:a=id
   ·subst e
    rw[EK,if_pos h0,Po a n l (a+1) out h.tail (by omega)];simp
   ·rw[EK,if_neg (by omega),if_neg (fun q=>by omega),Nh id n l (a+1) _ h.tail (by omega) (by simp at h2;omega)]
    rw[show id-a=(id-(a+1))+1 by omega,List.set_cons_succ];simp
theorem putRow_set{l:List Row}{k:Nat}(n:Node)(h:Dc 1 l)(hk:k < l.length):putRow l (k+1) n=l.set k ⟨k+1,n⟩:=by
 unfold putRow;rw[Nh (k+1) n l 1 [] h (by omega) (by omega)];simp
structure Bend where
 k:Nat
 d:Nat
 n:Int
 name:Str
 id:Nat
def GK(n:Int):Nat:=(n % 18446744073709551616).toNat
def FJ(x:Node)(len:Nat)(b:Bend):Node:=
 if b.d % 5=0 then(if x.ref=0 then x else {x with ref:=b.id % (len+2)})
 else if b.d % 5=1 then(if x.type=0 then x else {x with type:=1+GK b.n % 2})
 else if b.d % 5=2 then(if x.name=[] then x else {x with name:=b.name.take 30})
 else if b.d % 5=3 then(if x.kind=18 then {x with num:=((1+GK b.n % 13:Nat):Int)} else x)
 else {x with kids:=x.kids.reverse}
def JO(l:List Row)(b:Bend):List Row:=putRow l (rowAt l (b.k % l.length)).id (FJ (rowAt l (b.k % l.length)).node l.length b)
def bent:Nat→List Bend→List Row→List Row
 |_,[],l=>l
 |i,b::bs,l=>if 6≤i∨l.length=0 then l else bent (i+1) bs (JO l b)
structure Ct (N:Nat) (l:List Row):Prop where
 len:l.length=N
 ids:Dc 1 l
 sum:BA l≤20000
 kids:∀r∈l,∀c∈r.node.kids,c≤N
 kind:∀r∈l,r.node.kind≤20
 name:∀r∈l,r.node.name.length≤1000000
 num:∀r∈l,r.node.num≤9223372036854775807
theorem QR(l:List Row)(k:Nat)(r:Row)(hk:k < l.length)(h:r.node.kids.length=l[k].node.kids.length):BA (l.set k r)=BA l:=by
 induction l generalizing k with
 |nil=>simp at hk
 |cons a l ih=>
   cases k with
   |zero=>simp at h;simp[BA,h]
   |succ k=>
     have:=ih k (by simpa using hk) (by simpa using h)
     simp[BA] at this⊢
     exact this
theorem R9(x:Node)(len:Nat)(b:Bend):(FJ x len b).kind=x.kind:=by
 unfold FJ;(repeat' split) <;>rfl
theorem SA(x:Node)(len:Nat)(b:Bend):(FJ x len b).kids.length=x.kids.length∧∀c∈(FJ x len b).kids,c∈x.kids:=by
 unfold FJ;(repeat' split) <;>exact⟨by simp,fun c hc=>by simpa using hc⟩
theorem Ct.JO{N:Nat}{l:List Row}(h:Ct N l)(b:Bend)(h0:l.length≠0):Ct N (JO l b):=by
 have hk:b.k % l.length < l.length:=Nat.mod_lt _ (by omega);have hget:l[b.k % l.length]? =some l[b.k % l.length]:=List.getElem?_eq_getElem hk;have hrow:rowAt l (b.k % l.length)=l[b.k % l.length]:=by simp[rowAt,hget]
 have hid:(rowAt l (b.k % l.length)).id=b.k % l.length+1:=by
  rw[hrow];have:=h.ids _ _ hget;omega
 have he:Hg.JO l b=l.set (b.k % l.length) ⟨b.k % l.length+1,FJ l[b.k % l.length].node l.length b⟩:=by
  unfold Hg.JO;rw[hid,hrow,putRow_set _ h.ids hk]
 have hm:l[b.k % l.length]∈l:=List.getElem_mem hk;have key:∀{P:Row→Prop},(∀r∈l,P r)→P ⟨b.k % l.length+1,FJ l[b.k % l.length].node l.length b⟩→∀r∈Hg.JO l b,P r:=by
  intro P h1 h2 r hr;rw[he] at hr;rcases List.mem_or_eq_of_mem_set hr with q|q
  ·exact h1 r q
  ·rw[q];exact h2
 have hkd:=SA l[b.k % l.length].node l.length b;generalize hx:l[b.k % l.length].node=x at*;refine⟨by rw[he,List.length_set];exact h.len, ?_, ?_,key h.kids fun c hc=>h.kids _ hm c (by rw[hx];exact hkd.2 c hc),key h.kind (by rw[R9,←hx];exact h.kind _ hm),key h.name ?_,key h.num ?_⟩
 ·intro k r hr
  rw[he] at hr;by_cases e:b.k % l.length=k
  ·subst e
   rw[List.getElem?_set_self hk] at hr;injection hr with hr;subst hr;show _+1=_;omega
  ·rw[List.getElem?_set_ne e] at hr
   exact h.ids k r hr
 ·rw[he,QR l _ _ hk (by rw[hx];exact hkd.1)]
  exact h.sum
 ·have:=h.name _ hm
  rw[hx] at this;unfold FJ
  (repeat' split) <;>first|exact this|(simp;omega)
 ·have:=h.num _ hm
  rw[hx] at this;unfold FJ
  (repeat' split) <;>first|exact this|(dsimp only;omega)
theorem Ct.bent{N:Nat}:∀(bs:List Bend) (i:Nat) {l:List Row},Ct N l→Ct N (bent i bs l)
 |[],_,_,h=>h
 |b::bs,i,l,h=>by
   rw[Hg.bent];split
   ·exact h
   ·rename_i hc
    exact Ct.bent bs (i+1) (h.JO b fun e=>hc (.inr e))
theorem M4(D:Nat→Nat):∀(ks:List Nat) (m:Nat),0 < FE D ks m↔∀k∈ks,0 < D k
 |[],m=>by simp[FE]
 |k::ks,m=>by
   rw[FE];by_cases h:D k=0
   ·rw[if_pos h];simp[h]
   ·rw[if_neg h,M4 D ks]
    simp only[List.mem_cons,forall_eq_or_imp];exact⟨fun x=>⟨by omega,x⟩,fun x=>x.2⟩
theorem Kz(l:List Row)(n id:Nat):0 < DW l (n+1) id↔∀k∈CU l ((atI l id).getD 0),0 < DW l n k:=by
 rw[DW,M4]
theorem Jh(l:List Row):∀(n id:Nat),0 < DW l n id→0 < DW l (n+1) id
 |0,id,h=>by simp[DW] at h
 |n+1,id,h=>by
   rw[Kz] at h⊢;exact fun k hk=>Jh l n k (h k hk)
theorem KF(l:List Row)(id:Nat):l.find? (fun r=>r.id==id)=(atI l id).bind (fun k=>l[k]?):=by
 unfold atI
 induction l with
 |nil=>rfl
 |cons r l ih=>
   rw[List.find?_cons,List.findIdx?_cons];by_cases h:(r.id==id)=true
   ·simp[h]
   ·simp only[Bool.not_eq_true] at h
    simp only[h,ih,Bool.false_eq_true,if_false];cases List.findIdx? (fun r=>r.id==id) l <;>simp
theorem Eb(l:List Row)(id k:Nat)(h:atI l id=some k):AV l id=(rowAt l k).node:=by
 have hk:k < l.length:=by
  unfold atI at h;obtain⟨hk,_⟩:=List.findIdx?_eq_some_iff_getElem.1 h;exact hk
 unfold AV rowAt;rw[KF,h]
 simp[hk]
theorem Et(l:List Row)(id:Nat)(h:atI l id=none):AV l id=Node.zero:=by
 unfold AV;rw[KF,h];rfl
theorem QD(l:List Row)(id:Nat):∀k∈(AV l id).kids,k∈CU l ((atI l id).getD 0):=by
 intro k hk;cases h:atI l id with
 |none=>rw[Et l id h] at hk;simp[Node.zero] at hk
 |some i=>rw[Eb l id i h] at hk;exact hk
def Good(l:List Row)(id:Nat):Prop:=0 < DW l 200 id
theorem Good.kid{l:List Row}{id k:Nat}(h:Good l id)(hk:k∈CU l ((atI l id).getD 0)):Good l k:=
 Jh l 199 k ((Kz l 199 id).1 h k hk)
theorem KI(l:List Row)(D:Nat→Option Nat)(kind:Nat):∀(ks:List Nat) (m:Nat),(∀k∈ks,∃d,D k=some d)→∃r,ER l D kind ks m=some r
 |[],m,h=>⟨_,rfl⟩
 |k::ks,m,h=>by
   obtain⟨d,hd⟩:=h k (by simp);rw[ER,hd];exact KI l D kind ks _ fun k' hk'=>h k' (by simp[hk'])
theorem LV(l:List Row):∀(n id:Nat),0 < DW l n id→∃d,ES l n id=some d
 |0,id,h=>by simp[DW] at h
 |n+1,id,h=>by
   rw[ES];exact KI l _ _ _ _ fun k hk=>LV l n k ((Kz l n id).1 h k (QD l id k hk))
theorem Gu(l:List Row)(P:Nat→Prop)(hP:∀i k,P i→atI l i=some k→∀c∈CU l k,P c):∀(f:Nat) (wait out r:List Nat),Dg l f wait out=some r→(∀i∈wait,P i)→
 (∀i∈out,P i∧(atI l i).isSome=true)→out.Nodup→(∀i∈r,P i∧(atI l i).isSome=true)∧r.Nodup
 |0,wait,out,r,h,_,_,_=>by simp[Dg] at h
 |f+1,[],out,r,h,hw,ho,hn=>by
   rw[Dg] at h;injection h with h;subst h;exact⟨ho,hn⟩
 |f+1,i::wait,out,r,h,hw,ho,hn=>by
   rw[Dg] at h;have hi:=hw i (by simp);have hw':∀j∈wait,P j:=fun j hj=>hw j (by simp[hj]);cases hk:atI l i with
   |none=>rw[hk] at h;exact Gu l P hP f _ _ _ h hw' ho hn
   |some k=>
     rw[hk] at h;dsimp only at h;by_cases hin:isIn out i=true
     ·rw[if_pos hin] at h;exact Gu l P hP f _ _ _ h hw' ho hn
     ·rw[if_neg hin] at h
      refine Gu l P hP f _ _ _ h (fun j hj=> ?_) (fun j hj=> ?_) ?_
      ·rcases List.mem_append.1 hj with hj|hj
       ·exact hP i k hi hk j hj
       ·exact hw' j hj
      ·rcases List.mem_append.1 hj with hj|hj
       ·exact ho j hj
       ·simp at hj;subst hj;exact⟨hi,by rw[hk];rfl⟩
      ·rw[List.nodup_append]
       refine⟨hn,by simp,fun a ha b hb=> ?_⟩;simp at hb;subst hb;intro e;subst e;unfold isIn at hin;rw[List.contains_iff_mem] at hin;exact hin ha
theorem PR(l:List Row)(id:Nat)(P:Nat→Prop)(hP:∀i k,P i→atI l i=some k→∀c∈CU l k,P c)(h:P id):(∀i∈walk l id,P i∧(atI l i).isSome=true)∧(walk l id).Nodup:=
 Gu l P hP _ _ _ _ (OX l id) (fun i hi=>by simp at hi;subst hi;exact h) (fun i hi=>by simp at hi) List.nodup_nil
theorem Vq:∀(a b:List Nat),a.Nodup→(∀x∈a,x∈b)→b.length≤a.length→∀y∈b,y∈a
 |[],b,hn,hs,hl=>fun y hy=>by
   have:b=[]:=List.eq_nil_of_length_eq_zero (by simpa using hl);rw[this] at hy;exact hy
 |x::a,b,hn,hs,hl=>fun y hy=>by
   rw[List.nodup_cons] at hn;by_cases e:y=x
   ·simp[e]
   ·have hx:=hs x (by simp)
    have hlen:=List.length_erase_of_mem hx;have hpos:0 < b.length:=List.length_pos_of_mem hx;have:=Vq a (b.erase x) hn.2 (fun z hz=>by
     have hzx:z≠x:=fun e=>hn.1 (e ▸ hz);exact(List.mem_erase_of_ne hzx).2 (hs z (by simp[hz]))) (by simp at hl;omega) y ((List.mem_erase_of_ne e).2 hy)
    simp[this]
theorem Tc(l:List Row)(id:Nat):(atI l id).isSome=true↔id∈l.map (fun r=>r.id):=by
 unfold atI;rw[List.findIdx?_isSome]
 simp[List.any_eq_true]
theorem VR(l:List Row)(id:Nat):(walk l id).length≤l.length:=by
 obtain⟨h1,h2⟩:=PR l id (fun _=>True) (fun _ _ _ _ _ _=>trivial) trivial;rcases Nat.lt_or_ge l.length (walk l id).length with h|h
 ·exfalso
  have hs:∀x∈walk l id,x∈l.map (fun r=>r.id):=fun x hx=>(Tc l x).1 (h1 x hx).2;have key:∀(a b:List Nat),a.Nodup→(∀x∈a,x∈b)→a.length≤b.length:=by
   intro a
   induction a with
   |nil=>intro b _ _;simp
   |cons x a ih=>
     intro b hn hs;rw[List.nodup_cons] at hn;have hx:=hs x (by simp);have hlen:=List.length_erase_of_mem hx;have hpos:0 < b.length:=List.length_pos_of_mem hx;have:=ih (b.erase x) hn.2 fun z hz=>by
      have hzx:z≠x:=fun e=>hn.1 (e ▸ hz);exact(List.mem_erase_of_ne hzx).2 (hs z (by simp[hz]))
     simp;omega
  have:=key _ _ h2 hs;simp at this;omega
 ·exact h
theorem Tw{l:List Row}(h:tree l=true):Good l 1∧∀r∈l,Good l r.id:=by
 unfold tree at h;cases hk:atI l 1 with
 |none=>rw[hk] at h;simp at h
 |some k=>
   rw[hk] at h;dsimp only at h;by_cases hc:(rowAt l k).node.kind≠1∨(walk l 1).length≠l.length
   ·rw[if_pos hc] at h;simp at h
   ·rw[if_neg hc] at h
    cases ht:Dy l l 0 with
    |none=>rw[ht] at h;simp at h
    |some n=>
      rw[ht] at h;simp only[Bool.and_eq_true,decide_eq_true_eq] at h;have hg:Good l 1:=h.2;have hlen:(walk l 1).length=l.length:=Classical.byContradiction fun x=>hc (.inr x);obtain⟨h1,h2⟩:=PR l 1 (Good l) (fun i k hi hk c hc=>hi.kid (by rw[hk];exact hc)) hg;refine⟨hg,fun r hr=>(h1 r.id ?_).1⟩;exact Vq (walk l 1) (l.map (fun r=>r.id)) h2 (fun x hx=>(Tc l x).1 (h1 x hx).2) (by simp[hlen]) r.id (List.mem_map.2 ⟨r,hr,rfl⟩)
theorem IB(l:List Row):∀(rs:List Row),(∀r∈rs,Good l r.id)→∃b,Cr l rs=some b
 |[],h=>⟨_,rfl⟩
 |r::rs,h=>by
   rw[Cr];have ih:=IB l rs fun r' hr'=>h r' (by simp[hr']);by_cases hk:r.node.kind=3
   ·rw[if_pos hk]
    obtain⟨d,hd⟩:=LV l 201 r.id (Jh l 200 _ (h r (by simp)));rw[hd];dsimp only;by_cases h9:90 < d
    ·rw[if_pos h9];exact⟨_,rfl⟩
    ·rw[if_neg h9];exact ih
   ·rw[if_neg hk];exact ih
theorem Pg(l:List Row):∃b,shaped l=some b:=by
 unfold shaped;cases ht:tree l
 ·exact⟨_,rfl⟩
 ·rw[if_neg (by simp)]
  by_cases hs:Ck l l=false
  ·rw[if_pos hs];exact⟨_,rfl⟩
  ·rw[if_neg hs]
   exact IB l l (Tw ht).2
theorem Vk(f i:Nat)(acc:List Tok):Ak f i [] acc=some acc:=by cases f <;>rfl
section
variable {f i:Nat} {c:UInt8} {r:Str} {acc:List Tok}
theorem RH(h:cls c=3):Ak (f+1) i (c::r) acc=Ak f (i+1) r acc:=by
 simp only[Ak,h,if_true]
theorem Oi(h:cls c≠3)(h':c.toNat=35):Ak (f+1) i (c::r) acc=
 Ak f (i+((c::r).takeWhile (fun b=>b.toNat !=10)).length) ((c::r).drop ((c::r).takeWhile (fun b=>b.toNat !=10)).length) acc:=by
 simp only[Ak,h,h',if_true,if_false]
theorem UO(h:cls c≠3)(h':c.toNat≠35)(h0:0 < cls c){w:Str}(hw:(c::r).takeWhile Ab=w)(hm:inL words w=true):Ak (f+1) i (c::r) acc=
 Ak f (i+w.length) ((c::r).drop w.length) (acc++[⟨3,w,i⟩]):=by
 simp only[Ak,h,h',h0,if_true,if_false,hw,hm]
theorem UQ(h:cls c≠3)(h':c.toNat≠35)(h0:0 < cls c){w:Str}(hw:(c::r).takeWhile Ab=w)(hm:inL words w=false)(hn:Bz w=true):Ak (f+1) i (c::r) acc=
 Ak f (i+w.length) ((c::r).drop w.length) (acc++[⟨1,w,i⟩]):=by
 simp only[Ak,h,h',h0,if_true,if_false,hw,hm,hn];rfl
theorem Pi(h:cls c≠3)(h':c.toNat≠35)(h0:0 < cls c){w:Str}(hw:(c::r).takeWhile Ab=w)(hm:inL words w=false)(hn:Bz w=false)(hv:0≤BZ w):Ak (f+1) i (c::r) acc=
 Ak f (i+w.length) ((c::r).drop w.length) (acc++[⟨2,w,i⟩]):=by
 simp only[Ak,h,h',h0,if_true,if_false,hw,hm,hn,hv];rfl
theorem Vl(h:cls c≠3)(h':c.toNat≠35)(h0:0 < cls c){w:Str}(hw:(c::r).takeWhile Ab=w)(hm:inL words w=false)(hn:Bz w=false)(hv:¬0≤BZ w):Ak (f+1) i (c::r) acc=none:=by
 simp only[Ak,h,h',h0,if_true,if_false,hw,hm,hn,hv];rfl
theorem RG(h:cls c≠3)(h':c.toNat≠35)(h0:¬0 < cls c)(h2:2≤(c::r).length)(hm:inL signs ((c::r).take 2)=true):Ak (f+1) i (c::r) acc=
 Ak f (i+2) ((c::r).drop 2) (acc++[⟨4,(c::r).take 2,i⟩]):=by
 have hl:((c::r).take 2).length=2:=by rw[List.length_take];omega
 simp only[Ak,h,h',h0,if_false,hm,h2,and_self,if_true,hl]
theorem ME(h:cls c≠3)(h':c.toNat≠35)(h0:¬0 < cls c)(h2:¬(inL signs ((c::r).take 2)=true∧2≤(c::r).length))(hm:inL signs ((c::r).take 1)=true):Ak (f+1) i (c::r) acc=
 Ak f (i+1) ((c::r).drop 1) (acc++[⟨4,(c::r).take 1,i⟩]):=by
 have hl:((c::r).take 1).length=1:=by simp
 simp only[Ak,h,h',h0,if_false,h2,hm,if_true,hl]
theorem SQ(h:cls c≠3)(h':c.toNat≠35)(h0:¬0 < cls c)(h2:¬(inL signs ((c::r).take 2)=true∧2≤(c::r).length))(hm:inL signs ((c::r).take 1)=false):Ak (f+1) i (c::r) acc=none:=by
 simp only[Ak,h,h',h0,if_false,h2,hm];rfl
end
theorem JG(s:Str)(p:UInt8→Bool)(i k:Nat)(hi:i≤k)(hk:k≤s.length)(hin:∀j,i≤j→j < k→(hj:j < s.length)→p s[j]=true)
 (hend:k=s.length∨∃h:k < s.length,p s[k]=false):(s.drop i).takeWhile p=(s.drop i).take (k-i)∧((s.drop i).takeWhile p).length=k-i:=by
 have key:∀(n:Nat) (t:Str),n≤t.length→(∀j,j < n→(hj:j < t.length)→p t[j]=true)→(n=t.length∨∃h:n < t.length,p t[n]=false)→t.takeWhile p=t.take n:=by
  intro n
  induction n with
  |zero=>
    intro t _ _ h;rcases h with h|⟨h,h'⟩
    ·have:t=[]:=List.eq_nil_of_length_eq_zero h.symm
     subst this;rfl
    ·cases t with
     |nil=>simp at h
     |cons c r=>simp only[List.getElem_cons_zero] at h';simp[List.takeWhile_cons,h']
  |succ n ih=>
    intro t hn hin h;cases t with
    |nil=>simp at hn
    |cons c r=>
      have h0:=hin 0 (by omega) (by simp);simp only[List.getElem_cons_zero] at h0;rw[List.takeWhile_cons,h0,List.take_succ_cons];simp only[if_true];rw[ih r (by simpa using hn) (fun j hj hj2=>by have:=hin (j+1) (by omega) (by simp;omega);simpa using this) (by
       rcases h with h|⟨h,h'⟩
       ·left;simpa using h
       ·right;exact⟨by simpa using h,by simpa using h'⟩)]
 have h1:=key (k-i) (s.drop i) (by rw[List.length_drop];omega) (fun j hj hj2=>by
  rw[List.getElem_drop];exact hin (i+j) (by omega) (by omega) (by rw[List.length_drop] at hj2;omega)) (by
  rcases hend with h|⟨h,h'⟩
  ·left;rw[List.length_drop];omega
  ·right;refine⟨by rw[List.length_drop];omega, ?_⟩
   rw[List.getElem_drop];have:i+(k-i)=k:=by omega
   simp only[this];exact h')
 refine⟨h1, ?_⟩;rw[h1,List.length_take,List.length_drop];omega
namespace Rd
structure Grow (s s':Rd):Prop where
 L:s'.L=s.L
 at_:s.at_≤s'.at_
 bad:s.bad=true→s'.bad=true
 rows:∀(k:Nat) (r:Row),s.rows[k]? =some r→∃r',s'.rows[k]? =some r'∧r'.id=r.id∧r.node.kids.length≤r'.node.kids.length
 len:s.rows.length≤s'.rows.length
theorem Grow.refl(s:Rd):Grow s s:=⟨rfl,Nat.le_refl _,id,fun k r h=>⟨r,h,rfl,Nat.le_refl _⟩,Nat.le_refl _⟩
theorem Grow.trans{a b c:Rd}(h:Grow a b)(k:Grow b c):Grow a c:=
 ⟨k.L.trans h.L,Nat.le_trans h.at_ k.at_,fun hb=>k.bad (h.bad hb),fun i r hr=>by
  obtain⟨r1,h1,h2,h3⟩:=h.rows i r hr;obtain⟨r2,k1,k2,k3⟩:=k.rows i r1 h1;exact⟨r2,k1,k2.trans h2,Nat.le_trans h3 k3⟩,Nat.le_trans h.len k.len⟩
structure Inv (s:Rd):Prop where
 mods:s.mods.length≤s.rows.length
 funcs:s.funcs.length≤s.rows.length
 ids:s.ids.length=s.funcs.length
 calls:s.calls.length≤s.rows.length
 wants:s.wants.length=s.calls.length
 used:s.used.length≤s.rows.length
 seen:s.seen.length≤s.used.length
 kids:∀(k:Nat) (r:Row),s.rows[k]? =some r→r.node.kids.length≤s.rows.length
 rid:∀(k:Nat) (r:Row),s.rows[k]? =some r→r.id=k+1
 callr:∀c∈s.calls,0 < c∧c≤s.rows.length
theorem Fz{l:List Row}{k i:Nat}{f:Row→Row}{r:Row}(h:l[i]? =some r):(l.modify k f)[i]? =some (if k=i then f r else r):=by
 rw[List.getElem?_modify,h];by_cases e:k=i <;>simp[e]
theorem Ed{l:List Row}{k i:Nat}{f:Row→Row}{r':Row}(h:(l.modify k f)[i]? =some r'):∃r,l[i]? =some r∧r'=if k=i then f r else r:=by
 rw[List.getElem?_modify] at h;cases hl:l[i]? with
 |none=>rw[hl] at h;by_cases e:k=i <;>simp[e] at h
 |some r=>
   rw[hl] at h;refine⟨r,rfl, ?_⟩;by_cases e:k=i
   ·simp[e] at h⊢;exact h.symm
   ·simp[e] at h⊢;exact h.symm
section
variable {s:Rd}
theorem Be{s':Rd}(hL:s'.L=s.L)(ha:s.at_≤s'.at_)(hb:s.bad=true→s'.bad=true)(hr:s'.rows=s.rows):Grow s s':=
 ⟨hL,ha,hb,fun k r h=>⟨r,by rw[hr];exact h,rfl,Nat.le_refl _⟩,by rw[hr];exact Nat.le_refl _⟩
theorem EQ{s':Rd}(h:Inv s)(h1:s'.rows=s.rows)(h2:s'.mods=s.mods)(h3:s'.funcs=s.funcs)(h4:s'.ids=s.ids)(h5:s'.calls=s.calls)(h6:s'.wants=s.wants)(h7:s'.used=s.used)(h8:s'.seen.length≤s.seen.length):Inv s':=
 ⟨by rw[h1,h2];exact h.mods,by rw[h1,h3];exact h.funcs,by rw[h3,h4];exact h.ids,by rw[h1,h5];exact h.calls,by rw[h5,h6];exact h.wants,by rw[h1,h7];exact h.used,by rw[h7];exact Nat.le_trans h8 h.seen,
  by rw[h1];exact h.kids,by rw[h1];exact h.rid,by rw[h1,h5];exact h.callr⟩
theorem grow_step(s:Rd):Grow s s.step:=Be rfl (Nat.le_succ _) id rfl
theorem Ie(s:Rd):Grow s s.setBad:=Be rfl (Nat.le_refl _) (fun _=>rfl) rfl
theorem DC(s:Rd)(t:Str):Grow s (s.need t):=by unfold need;split <;>first|exact grow_step s|exact Ie s
theorem JA(s:Rd):Grow s s.name:=by unfold name;split <;>first|exact Ie s|exact grow_step s
theorem Mg(s:Rd):Grow s s.typed.2:=by unfold typed;split <;>first|exact grow_step s|exact DC s _
theorem Mh(s:Rd)(e:Nat):Grow s (s.fault e):=by unfold fault;split <;>first|exact Be rfl (Nat.le_refl _) id rfl|exact Grow.refl s
theorem CO(s:Rd):Grow s s.enter:=by
 unfold enter;dsimp only;split
 ·exact Be rfl (Nat.le_refl _) (fun _=>rfl) rfl
 ·exact Be rfl (Nat.le_refl _) id rfl
theorem BJ(s:Rd):Grow s s.leave:=Be rfl (Nat.le_refl _) id rfl
theorem N9(s:Rd):Grow s s.shut:=Be rfl (Nat.le_refl _) id rfl
theorem Ew(s:Rd)(k:Nat)(f:Row→Row)(hid:∀r,(f r).id=r.id)(hk:∀r,r.node.kids.length≤(f r).node.kids.length):Grow s {s with rows:=s.rows.modify k f}:=
 ⟨rfl,Nat.le_refl _,id,fun i r h=>by
  refine⟨_,Fz h, ?_, ?_⟩
  ·(split <;>first|exact hid r|exact rfl)
  ·(split <;>first|exact hk r|exact Nat.le_refl _),by simp⟩
theorem Hq(s:Rd)(k t:Nat):Grow s (s.Al k t):=Ew s k _ (fun _=>rfl) (fun _=>Nat.le_refl _)
theorem LJ(s:Rd)(k t:Nat):Grow s (s.setRef k t):=Ew s k _ (fun _=>rfl) (fun _=>Nat.le_refl _)
theorem QW(s:Rd)(k:Nat)(n:Int):Grow s (s.BL k n):=Ew s k _ (fun _=>rfl) (fun _=>Nat.le_refl _)
theorem OA(s:Rd)(r:Row):Grow s {s with rows:=s.rows++[r]}:=
 ⟨rfl,Nat.le_refl _,id,fun k r' h=>⟨r',by rw[List.getElem?_append_left (List.getElem?_eq_some_iff.1 h).1];exact h,rfl,Nat.le_refl _⟩,by simp⟩
theorem Fa(s:Rd)(u:Nat)(n:Node):Grow s (s.node u n):=by
 unfold node;dsimp only;split
 ·exact(OA s ⟨s.rows.length+1,n⟩).trans (Ew _ u (fun x=>{x with node:={x.node with kids:=x.node.kids++[s.rows.length+1]}}) (fun _=>rfl) (fun r=>by simp))
 ·exact OA s _
theorem Av(s:Rd)(u:Nat)(n:Node):(s.node u n).rows.length=s.rows.length+1:=by
 unfold node;dsimp only;split <;>simp[Eh]
theorem FQ(s:Rd)(t:Str)(k:Nat):Grow s (s.declare t k):=by
 unfold declare;dsimp only;split
 ·exact(Mh s 10).trans (Be rfl (Nat.le_refl _) id rfl)
 ·exact Be rfl (Nat.le_refl _) id rfl
end
theorem JM{s s':Rd}(h:Inv s)(g:Grow s s')(hk:∀(k:Nat) (r:Row),s'.rows[k]? =some r→r.node.kids.length≤s'.rows.length)(hid:∀(k:Nat) (r:Row),s'.rows[k]? =some r→r.id=k+1)
 (h2:s'.mods=s.mods) (h3:s'.funcs=s.funcs) (h4:s'.ids=s.ids) (h5:s'.calls=s.calls) (h6:s'.wants=s.wants) (h7:s'.used=s.used) (h8:s'.seen=s.seen):Inv s':=
 ⟨by rw[h2];exact Nat.le_trans h.mods g.len,by rw[h3];exact Nat.le_trans h.funcs g.len,by rw[h3,h4];exact h.ids,by rw[h5];exact Nat.le_trans h.calls g.len,by rw[h5,h6];exact h.wants,
  by rw[h7];exact Nat.le_trans h.used g.len,by rw[h7,h8];exact h.seen,hk,hid,fun c hc=>by rw[h5] at hc;have:=h.callr c hc;have:=g.len;omega⟩
theorem QU{s:Rd}(h:Inv s)(u:Nat)(n:Node)(hn:n.kids=[]):Inv (s.node u n):=by
 have hg:=Fa s u n;have hl:=Av s u n;have push:∀(k:Nat) (r:Row),(s.rows++[⟨s.rows.length+1,n⟩])[k]? =some r→r.node.kids.length≤s.rows.length∧r.id=k+1:=by
  intro k r hr;by_cases hk:k < s.rows.length
  ·rw[List.getElem?_append_left hk] at hr
   exact⟨h.kids k r hr,h.rid k r hr⟩
  ·rw[List.getElem?_append_right (by omega)] at hr
   by_cases e:k-s.rows.length=0
   ·rw[e] at hr
    simp only[List.getElem?_cons_zero,Option.some.injEq] at hr;subst hr;exact⟨by simp[hn],by simp;omega⟩
   ·rw[List.getElem?_eq_none (by simp;omega)] at hr;cases hr
 have all:∀(k:Nat) (r:Row),(s.node u n).rows[k]? =some r→r.node.kids.length≤s.rows.length+1∧r.id=k+1:=by
  intro k r hr;unfold node at hr;dsimp only at hr
  split at hr
  ·obtain⟨r0,h0,he⟩:=Ed hr
   obtain⟨p1,p2⟩:=push k r0 h0;subst he;split
   ·exact⟨by simp;omega,p2⟩
   ·exact⟨by omega,p2⟩
  ·obtain⟨p1,p2⟩:=push k r hr
   exact⟨by omega,p2⟩
 refine JM h hg (fun k r hr=>by rw[hl];exact(all k r hr).1) (fun k r hr=>(all k r hr).2) ?_ ?_ ?_ ?_ ?_ ?_ ?_
 all_goals rfl
theorem Jg{s:Rd}(h:Inv s)(k:Nat)(f:Row→Row)(hid:∀r,(f r).id=r.id)(hk:∀r,(f r).node.kids=r.node.kids):Inv {s with rows:=s.rows.modify k f}:=by
 refine JM h (Ew s k f hid (fun r=>by rw[hk];exact Nat.le_refl _)) (fun i r hr=> ?_) (fun i r hr=> ?_) rfl rfl rfl rfl rfl rfl rfl
 ·obtain⟨r0,h0,he⟩:=Ed hr
  have:=h.kids i r0 h0;subst he;simp only[List.length_modify];split
  ·rw[hk];exact this
  ·exact this
 ·obtain⟨r0,h0,he⟩:=Ed hr
  have:=h.rid i r0 h0;subst he;split
  ·rw[hid];exact this
  ·exact this
structure Ad (s s':Rd):Prop where
 grow:Grow s s'
 inv:Inv s→Inv s'
 deep:s'.deep=s.deep
 level:s'.level=s.level
 used:s'.used=s.used
 seen:s'.seen=s.seen
 mods:s'.mods=s.mods
 funcs:s'.funcs=s.funcs
 ids:s'.ids=s.ids
theorem Ad.refl(s:Rd):Ad s s:=⟨Grow.refl s,id,rfl,rfl,rfl,rfl,rfl,rfl,rfl⟩
theorem Ad.trans{a b c:Rd}(h:Ad a b)(k:Ad b c):Ad a c:=
 ⟨h.grow.trans k.grow,fun x=>k.inv (h.inv x),k.deep.trans h.deep,k.level.trans h.level,k.used.trans h.used,k.seen.trans h.seen,k.mods.trans h.mods,k.funcs.trans h.funcs,k.ids.trans h.ids⟩
theorem Am(s:Rd):Ad s s.step:=⟨grow_step s,fun h=>EQ h rfl rfl rfl rfl rfl rfl rfl (Nat.le_refl _),rfl,rfl,rfl,rfl,rfl,rfl,rfl⟩
theorem Gr(s:Rd):Ad s s.setBad:=⟨Ie s,fun h=>EQ h rfl rfl rfl rfl rfl rfl rfl (Nat.le_refl _),rfl,rfl,rfl,rfl,rfl,rfl,rfl⟩
theorem AZ(s:Rd)(t:Str):Ad s (s.need t):=by unfold need;split <;>first|exact Am s|exact Gr s
theorem Cw(s:Rd):Ad s s.name:=by unfold name;split <;>first|exact Gr s|exact Am s
theorem Ex(s:Rd):Ad s s.typed.2:=by unfold typed;split <;>first|exact Am s|exact AZ s _
theorem Ih(s:Rd)(e:Nat):Ad s (s.fault e):=by
 unfold fault;split
 ·exact⟨Be rfl (Nat.le_refl _) id rfl,fun h=>EQ h rfl rfl rfl rfl rfl rfl rfl (Nat.le_refl _),rfl,rfl,rfl,rfl,rfl,rfl,rfl⟩
 ·exact Ad.refl s
theorem Li(s:Rd)(t:Str):Ad s (s.find t).2:=by unfold find;split <;>first|exact Ad.refl s|exact Ih s _
theorem Ah(s:Rd)(u:Nat)(n:Node)(hn:n.kids=[]):Ad s (s.node u n):=⟨Fa s u n,fun h=>QU h u n hn,rfl,rfl,rfl,rfl,rfl,rfl,rfl⟩
theorem Ff(s:Rd)(k t:Nat):Ad s (s.setRef k t):=⟨LJ s k t,fun h=>Jg h k _ (fun _=>rfl) (fun _=>rfl),rfl,rfl,rfl,rfl,rfl,rfl,rfl⟩
theorem JC(s:Rd)(k:Nat)(t:Int):Ad s (s.BL k t):=⟨QW s k t,fun h=>Jg h k _ (fun _=>rfl) (fun _=>rfl),rfl,rfl,rfl,rfl,rfl,rfl,rfl⟩
theorem Dk(s:Rd)(k t:Nat):Ad s (s.Al k t):=⟨Hq s k t,fun h=>Jg h k _ (fun _=>rfl) (fun _=>rfl),rfl,rfl,rfl,rfl,rfl,rfl,rfl⟩
theorem Fe{s s':Rd}(h:Ad s.enter s'):Ad s s'.leave:=by
 have hd:s.enter.deep=s.deep+1:=by unfold enter;dsimp only;split <;>rfl
 have hi:Inv s→Inv s.enter:=fun h=>by unfold enter;dsimp only;split <;>exact EQ h rfl rfl rfl rfl rfl rfl rfl (Nat.le_refl _)
 have he:s.enter.level=s.level∧s.enter.used=s.used∧s.enter.seen=s.seen∧s.enter.mods=s.mods∧s.enter.funcs=s.funcs∧s.enter.ids=s.ids:=by
  unfold enter;dsimp only;split <;>exact⟨rfl,rfl,rfl,rfl,rfl,rfl⟩
 refine⟨((CO s).trans h.grow).trans (BJ s'),fun x=> ?_, ?_,h.level.trans he.1,h.used.trans he.2.1,h.seen.trans he.2.2.1,h.mods.trans he.2.2.2.1,h.funcs.trans he.2.2.2.2.1,h.ids.trans he.2.2.2.2.2⟩
 ·exact EQ (h.inv (hi x)) rfl rfl rfl rfl rfl rfl rfl (Nat.le_refl _)
 ·show s'.deep-1=s.deep
  rw[h.deep,hd];omega
theorem N8(s:Rd)(u:Nat)(n:Node):(s.node u n).idAt s.rows.length=s.rows.length+1:=by
 unfold idAt node;dsimp only;split
 ·have:=Fz (k:=u) (f:=fun x:Row=>{x with node:={x.node with kids:=x.node.kids++[s.rows.length+1]}}) (show(s.rows++[⟨s.rows.length+1,n⟩])[s.rows.length]? =some ⟨s.rows.length+1,n⟩ by simp)
  unfold Eh;rw[this];simp only[Option.map_some,Option.getD_some]
  split <;>rfl
 ·simp
end Rd
end Hg
namespace Hg
namespace Rd
theorem Wv{s a s':Rd}{c:Nat}{t:Str}(A:Ad s a)(hr:s.rows.length < a.rows.length)(hcalls:a.calls=s.calls)(hw:a.wants=s.wants)(hc:0 < c∧c≤a.rows.length)
 (B:Ad {a with calls:=a.calls++[c],wants:=a.wants++[t]} s'):Ad s s':=by
 refine⟨(A.grow.trans (Be (s:=a) (s':={a with calls:=a.calls++[c],wants:=a.wants++[t]}) rfl (Nat.le_refl _) id rfl)).trans B.grow,fun h=>B.inv ?_,B.deep.trans A.deep,B.level.trans A.level,B.used.trans A.used,B.seen.trans A.seen,B.mods.trans A.mods,B.funcs.trans A.funcs,B.ids.trans A.ids⟩;have ha:=A.inv h;refine⟨ha.mods,ha.funcs,ha.ids, ?_, ?_,ha.used,ha.seen,ha.kids,ha.rid,fun x hx=> ?_⟩
 ·have:=h.calls;simp[hcalls];omega
 ·simp[ha.wants]
 ·rcases List.mem_append.1 hx with hx|hx
  ·exact ha.callr x hx
  ·simp at hx;subst hx;exact hc
theorem Dn(s:Rd)(t:Str):(s.need t).calls=s.calls∧(s.need t).wants=s.wants∧(s.need t).rows=s.rows:=by unfold need;split <;>exact⟨rfl,rfl,rfl⟩
theorem CQ(s:Rd):s.name.calls=s.calls∧s.name.wants=s.wants∧s.name.rows=s.rows:=by unfold name;split <;>exact⟨rfl,rfl,rfl⟩
theorem N7{s s':Rd}(h:s'.rows=s.rows)(k:Nat):s'.idAt k=s.idAt k:=by unfold idAt;rw[h]
theorem Ch(k:Nat):(nd k).kids=[]:=rfl
theorem EP(k:Nat)(s:Str):(AO k s).kids=[]:=rfl
theorem MZ(k:Nat)(n:Int):(IX k n).kids=[]:=rfl
theorem Bi(f:Nat):(∀s u s',expr f s u=some s'→Ad s s')∧(∀s u m s',call f s u m=some s'→Ad s s')∧(∀b s n s',args f b s n=some s'→Ad s s'):=by
 induction f with
 |zero=>exact⟨fun _ _ _ h=>by simp[expr] at h,fun _ _ _ _ h=>by simp[call] at h,fun _ _ _ _ h=>by simp[args] at h⟩
 |succ f ih=>
   obtain⟨ihe,ihc,iha⟩:=ih;refine⟨fun s u s' h=> ?_,fun s u m s' h=> ?_,fun b s n s' h=> ?_⟩
   ·rw[expr] at h
    by_cases h2:s.text 2≠[]
    ·rw[if_pos h2] at h
     injection h with h;subst h;exact(Am s).trans (Ah _ _ _ (MZ _ _))
    rw[if_neg h2] at h;by_cases h1:s.text 1≠[]
    ·rw[if_pos h1] at h
     dsimp only at h;by_cases hd:s.step.next [46]=true
     ·rw[if_pos hd] at h
      exact(Am s).trans (ihc _ _ _ _ h)
     ·rw[if_neg hd] at h
      injection h with h;subst h;exact(((Am s).trans (Ah _ _ _ (Ch _))).trans (Li _ _)).trans (Ff _ _ _)
    rw[if_neg h1] at h;by_cases ht:s.next Eo=true
    ·rw[if_pos ht] at h
     injection h with h;subst h;exact(Am s).trans (Ah _ _ _ (MZ _ _))
    rw[if_neg ht] at h;by_cases hf:s.next EI=true
    ·rw[if_pos hf] at h
     injection h with h;subst h;exact(Am s).trans (Ah _ _ _ (Ch _))
    rw[if_neg hf] at h;by_cases hr:s.next GJ=true
    ·rw[if_pos hr] at h
     injection h with h;subst h;exact(Am s).trans (Ah _ _ _ (Ch _))
    rw[if_neg hr] at h;by_cases hn:s.next [33]=true∨s.next [45]=true
    ·rw[if_pos hn] at h
     dsimp only at h;generalize hk:(if s.next [33]=true then 16 else 17)=kind at h;by_cases hb:(s.step.node u (nd kind)).enter.bad=true
     ·rw[if_pos hb] at h
      injection h with h;subst h;exact((Am s).trans (Ah _ _ _ (Ch _))).trans (Fe (Ad.refl _))
     ·rw[if_neg hb] at h
      cases he:expr f (s.step.node u (nd kind)).enter s.rows.length with
      |none=>rw[he] at h;simp at h
      |some s1=>
        rw[he] at h;injection h with h;subst h;exact((Am s).trans (Ah _ _ _ (Ch _))).trans (Fe (ihe _ _ _ he))
    rw[if_neg hn] at h;by_cases hp:s.next [40]=true
    ·rw[if_pos hp] at h
     dsimp only at h;by_cases hb:(s.step.node u (nd 18)).enter.bad=true
     ·rw[if_pos hb] at h
      injection h with h;subst h;exact((Am s).trans (Ah _ _ _ (Ch _))).trans (Fe (Ad.refl _))
     ·rw[if_neg hb] at h
      cases he:expr f (s.step.node u (nd 18)).enter s.rows.length with
      |none=>rw[he] at h;simp at h
      |some s1=>
        rw[he] at h;dsimp only at h;have e1:Ad (s.step.node u (nd 18)).enter ((if opOf (s1.text 4)=0 then(s1.BL s.rows.length (opOf (s1.text 4):Nat)).setBad else s1.BL s.rows.length (opOf (s1.text 4):Nat)).step):=by
         refine(ihe _ _ _ he).trans (Ad.trans ?_ (Am _));split
         ·exact(JC _ _ _).trans (Gr _)
         ·exact JC _ _ _
        cases he2:expr f ((if opOf (s1.text 4)=0 then(s1.BL s.rows.length (opOf (s1.text 4):Nat)).setBad else s1.BL s.rows.length (opOf (s1.text 4):Nat)).step) s.rows.length with
        |none=>rw[he2] at h;simp at h
        |some s2=>
          rw[he2] at h;injection h with h;subst h;exact((Am s).trans (Ah _ _ _ (Ch _))).trans (Fe ((e1.trans (ihe _ _ _ he2)).trans (AZ _ _)))
    rw[if_neg hp] at h;injection h with h;subst h;exact Gr s
   ·rw[call] at h
    try dsimp only at h
    have hrn:((s.node u (nd 19)).need [46]).name.rows=(s.node u (nd 19)).rows:=(CQ _).2.2.trans (Dn _ _).2.2;have hid:((s.node u (nd 19)).need [46]).name.idAt s.rows.length=s.rows.length+1:=(N7 hrn _).trans (N8 s u _);have A:Ad s ((s.node u (nd 19)).need [46]).name:=((Ah s u _ (Ch _)).trans (AZ _ _)).trans (Cw _);have hl:((s.node u (nd 19)).need [46]).name.rows.length=s.rows.length+1:=by rw[hrn,Av]
    refine Wv (c:=((s.node u (nd 19)).need [46]).name.idAt s.rows.length) (t:=m++[32]++((s.node u (nd 19)).need [46]).text 1) A (by omega) ((CQ _).1.trans (Dn _ _).1) ((CQ _).2.1.trans (Dn _ _).2.1) (by rw[hid,hl];omega) ?_;generalize({((s.node u (nd 19)).need [46]).name with calls:=((s.node u (nd 19)).need [46]).name.calls++[((s.node u (nd 19)).need [46]).name.idAt s.rows.length],wants:=((s.node u (nd 19)).need [46]).name.wants++[m++[32]++((s.node u (nd 19)).need [46]).text 1]}:Rd)=b at h⊢;by_cases hb:b.enter.bad=true
    ·rw[if_pos hb] at h
     injection h with h;subst h;exact Fe (Ad.refl _)
    ·rw[if_neg hb] at h
     cases he:args f true (b.enter.need [40]) s.rows.length with
     |none=>rw[he] at h;simp at h
     |some s1=>
       rw[he] at h;injection h with h;subst h;exact Fe ((AZ _ _).trans (iha _ _ _ _ he))
   ·rw[args] at h
    by_cases hb:s.bad=true
    ·rw[if_pos hb] at h
     injection h with h;subst h;exact Ad.refl _
    rw[if_neg hb] at h;by_cases hn:s.next [41]=true
    ·rw[if_pos hn] at h
     injection h with h;subst h;exact Am _
    rw[if_neg hn] at h;cases he:expr f (if b=true then s else s.need [44]) n with
    |none=>rw[he] at h;simp at h
    |some s1=>
      rw[he] at h;refine Ad.trans ?_ ((ihe _ _ _ he).trans (iha _ _ _ _ h));split
      ·exact Ad.refl _
      ·exact AZ _ _
end Rd
end Hg
namespace Hg
namespace Rd
structure Ap (s s':Rd):Prop where
 grow:Grow s s'
 inv:Inv s→Inv s'
 deep:s'.deep=s.deep
 level:s'.level=s.level
 mods:s'.mods=s.mods
 funcs:s'.funcs=s.funcs
 ids:s'.ids=s.ids
theorem Ad.s{a b:Rd}(h:Ad a b):Ap a b:=⟨h.grow,h.inv,h.deep,h.level,h.mods,h.funcs,h.ids⟩
theorem Ap.refl(s:Rd):Ap s s:=(Ad.refl s).s
theorem Ap.trans{a b c:Rd}(h:Ap a b)(k:Ap b c):Ap a c:=
 ⟨h.grow.trans k.grow,fun x=>k.inv (h.inv x),k.deep.trans h.deep,k.level.trans h.level,k.mods.trans h.mods,k.funcs.trans h.funcs,k.ids.trans h.ids⟩
theorem Ef(s:Rd)(e:Nat):(s.fault e).rows=s.rows∧(s.fault e).mods=s.mods∧(s.fault e).funcs=s.funcs∧(s.fault e).ids=s.ids∧(s.fault e).calls=s.calls∧(s.fault e).wants=s.wants∧(s.fault e).used=s.used∧(s.fault e).seen=s.seen∧(s.fault e).deep=s.deep∧(s.fault e).level=s.level:=by
 unfold fault;split <;>exact⟨rfl,rfl,rfl,rfl,rfl,rfl,rfl,rfl,rfl,rfl⟩
theorem QT{s:Rd}(h:Inv s)(t:Str)(b:GV)(hu:s.used.length < s.rows.length):Inv {s with used:=s.used++[t],seen:=s.seen++[b]}:=
 ⟨h.mods,h.funcs,h.ids,h.calls,h.wants,by simp;omega,by simp;exact h.seen,h.kids,h.rid,h.callr⟩
theorem QV{s:Rd}(h:Inv s)(t:Str)(k:Nat)(hu:s.used.length < s.rows.length):Inv (s.declare t k):=by
 unfold declare;dsimp only;split
 ·obtain⟨e1,_,_,_,_,_,e7,e8,_,_⟩:=Ef s 10
  have hf:=(Ih s 10).inv h;exact QT hf t _ (by rw[e1,e7];exact hu)
 ·exact QT h t _ hu
theorem FU(s:Rd)(t:Str)(k:Nat):(s.declare t k).deep=s.deep∧(s.declare t k).level=s.level∧(s.declare t k).mods=s.mods∧(s.declare t k).funcs=s.funcs∧(s.declare t k).ids=s.ids∧(s.declare t k).rows=s.rows:=by
 unfold declare;dsimp only;split
 ·obtain⟨e1,e2,e3,e4,_,_,_,_,e9,e10⟩:=Ef s 10
  exact⟨e9,e10,e2,e3,e4,e1⟩
 ·exact⟨rfl,rfl,rfl,rfl,rfl,rfl⟩
theorem Gz{s a:Rd}(A:Ad s a)(hr:s.rows.length < a.rows.length)(t:Str)(k:Nat):Ap s (a.declare t k):=by
 obtain⟨d1,d2,d3,d4,d5,d6⟩:=FU a t k;exact⟨A.grow.trans (FQ a t k),fun h=>QV (A.inv h) t k (by rw[A.used];have:=h.used;omega),d1.trans A.deep,d2.trans A.level,d3.trans A.mods,d4.trans A.funcs,d5.trans A.ids⟩
theorem JH(s:Rd)(n:Nat):Grow s {s with level:=n}:=Be rfl (Nat.le_refl _) id rfl
theorem Jp{s:Rd}(h:Inv s)(n:Nat):Inv {s with level:=n}:=EQ h rfl rfl rfl rfl rfl rfl rfl (Nat.le_refl _)
theorem Ru(s:Rd):s.enter.deep=s.deep+1∧s.enter.level=s.level∧s.enter.mods=s.mods∧s.enter.funcs=s.funcs∧s.enter.ids=s.ids:=by
 unfold enter;dsimp only;split <;>exact⟨rfl,rfl,rfl,rfl,rfl⟩
theorem Um{s:Rd}(h:Inv s):Inv s.enter:=by unfold enter;dsimp only;split <;>exact EQ h rfl rfl rfl rfl rfl rfl rfl (Nat.le_refl _)
theorem WU{s:Rd}(h:Inv s):Inv s.leave.shut:=EQ h rfl rfl rfl rfl rfl rfl rfl (List.length_filter_le _ _)
def head(s:Rd)(u:Nat):Rd:=({(s.node u (nd 5)) with level:=(s.node u (nd 5)).level+1}:Rd)
theorem Pb{s s1:Rd}{u:Nat}(h:Ap (s.head u).enter s1):Ap s s1.leave.shut:=by
 have hn:=Ah s u (nd 5) (Ch 5);obtain⟨e1,e2,e3,e4,e5⟩:=Ru (s.head u);refine⟨hn.grow.trans ((JH _ _).trans ((CO _).trans (h.grow.trans ((BJ _).trans (N9 _))))),fun x=>WU (h.inv (Um (Jp (hn.inv x) _))), ?_, ?_, ?_, ?_, ?_⟩
 ·show s1.deep-1=s.deep
  rw[h.deep,e1];show(s.node u (nd 5)).deep+1-1=s.deep;rw[hn.deep];omega
 ·show s1.level-1=s.level
  rw[h.level,e2];show(s.node u (nd 5)).level+1-1=s.level;rw[hn.level];omega
 ·show s1.mods=s.mods
  rw[h.mods,e3];exact hn.mods
 ·show s1.funcs=s.funcs
  rw[h.funcs,e4];exact hn.funcs
 ·show s1.ids=s.ids
  rw[h.ids,e5];exact hn.ids
theorem FL(f:Nat):(∀s u s',stmt f s u=some s'→Ap s s')∧(∀s u s',block f s u=some s'→Ap s s')∧(∀s n s',stmts f s n=some s'→Ap s s'):=by
 induction f with
 |zero=>exact⟨fun _ _ _ h=>by simp[stmt] at h,fun _ _ _ h=>by simp[block] at h,fun _ _ _ h=>by simp[stmts] at h⟩
 |succ f ih=>
   obtain⟨ihs,ihb,ihl⟩:=ih;have E:=Bi f;refine⟨fun s u s' h=> ?_,fun s u s' h=> ?_,fun s n s' h=> ?_⟩
   ·rw[stmt] at h
    try dsimp only at h
    by_cases h1:s.next wLet=true
    ·rw[if_pos h1] at h
     generalize hx:((s.step.name.node u (AO 6 (s.step.text 1))).typed.2.Al s.rows.length (s.step.name.node u (AO 6 (s.step.text 1))).typed.1).need [61]=a at h;have A:Ad s a:=by
      rw[←hx];exact((((Am s).trans (Cw _)).trans (Ah _ _ _ (EP _ _))).trans (Ex _)).trans ((Dk _ _ _).trans (AZ _ _))
     have hr:s.rows.length < a.rows.length:=by
      have g1:Grow (s.step.name.node u (AO 6 (s.step.text 1))) a:=by
       rw[←hx];exact(Mg _).trans ((Hq _ _ _).trans (DC _ _))
      have g2:=g1.len;rw[Av] at g2;have g3:=((grow_step s).trans (JA _)).len;omega
     cases he:expr f a s.rows.length with
     |none=>rw[he] at h;simp at h
     |some b=>
       rw[he] at h;injection h with h;subst h;have B:=E.1 _ _ _ he;exact(Gz (A.trans B) (Nat.lt_of_lt_of_le hr B.grow.len) _ _).trans (AZ _ _).s
    rw[if_neg h1] at h;by_cases h2:s.next wIf=true
    ·rw[if_pos h2] at h
     cases he:expr f (s.step.node u (nd 8)) s.rows.length with
     |none=>rw[he] at h;simp at h
     |some a=>
       rw[he] at h;dsimp only at h;cases hb:block f a s.rows.length with
       |none=>rw[hb] at h;simp at h
       |some b=>
         rw[hb] at h;exact(((Am s).trans (Ah _ _ _ (Ch _))).trans (E.1 _ _ _ he)).s.trans ((ihb _ _ _ hb).trans ((AZ _ _).s.trans (ihb _ _ _ h)))
    rw[if_neg h2] at h;by_cases h3:s.next Gv=true
    ·rw[if_pos h3] at h
     cases he:expr f (s.step.node u (nd 9)) s.rows.length with
     |none=>rw[he] at h;simp at h
     |some a=>
       rw[he] at h;exact(((Am s).trans (Ah _ _ _ (Ch _))).trans (E.1 _ _ _ he)).s.trans (ihb _ _ _ h)
    rw[if_neg h3] at h;by_cases h4:s.next Gw=true
    ·rw[if_pos h4] at h
     cases he:expr f (s.step.node u (nd 11)) s.rows.length with
     |none=>rw[he] at h;simp at h
     |some a=>
       rw[he] at h;injection h with h;subst h;exact((((Am s).trans (Ah _ _ _ (Ch _))).trans (E.1 _ _ _ he)).trans (AZ _ _)).s
    rw[if_neg h4] at h;by_cases h5:s.next wDo=true
    ·rw[if_pos h5] at h
     generalize hx:(s.step.node u (nd 12))=a at h;cases he:call f a.name s.rows.length (a.text 1) with
     |none=>rw[he] at h;simp at h
     |some b=>
       rw[he] at h;injection h with h;subst h;have A:Ad s a:=by rw[←hx];exact(Am s).trans (Ah _ _ _ (Ch _))
       exact(((A.trans (Cw _)).trans (E.2.1 _ _ _ _ he)).trans (AZ _ _)).s
    rw[if_neg h5] at h;generalize hx:(s.name.node u (nd 7))=a at h;have A:Ad s a:=by rw[←hx];exact(Cw s).trans (Ah _ _ _ (Ch _))
    cases he:expr f (((a.find (s.text 1)).2.setRef s.rows.length (a.find (s.text 1)).1).need [61]) s.rows.length with
    |none=>rw[he] at h;simp at h
    |some b=>
      rw[he] at h;injection h with h;subst h;exact(((((A.trans (Li _ _)).trans (Ff _ _ _)).trans (AZ _ _)).trans (E.1 _ _ _ he)).trans (AZ _ _)).s
   ·rw[block] at h
    try dsimp only at h
    change (if (s.head u).enter.bad=true then some (s.head u).enter.leave.shut else(stmts f ((s.head u).enter.need [123]) s.rows.length).map (fun r=>r.leave.shut))=some s' at h;by_cases hb:(s.head u).enter.bad=true
    ·rw[if_pos hb] at h
     injection h with h;subst h;exact Pb (Ap.refl _)
    ·rw[if_neg hb] at h
     cases he:stmts f ((s.head u).enter.need [123]) s.rows.length with
     |none=>rw[he] at h;simp at h
     |some a=>
       rw[he] at h;injection h with h;subst h;exact Pb ((AZ _ _).s.trans (ihl _ _ _ he))
   ·rw[stmts] at h
    by_cases hb:s.bad=true
    ·rw[if_pos hb] at h
     injection h with h;subst h;exact Ap.refl _
    rw[if_neg hb] at h;by_cases hn:s.next [125]=true
    ·rw[if_pos hn] at h
     injection h with h;subst h;exact(Am _).s
    rw[if_neg hn] at h;cases he:stmt f s n with
    |none=>rw[he] at h;simp at h
    |some a=>
      rw[he] at h;exact(ihs _ _ _ he).trans (ihl _ _ _ h)
end Rd
end Hg
namespace Hg
namespace Rd
theorem Iz:∀(f:Nat) (b:Bool) (s:Rd) (k:Nat) (s':Rd),params f b s k=some s'→Ap s s':=by
 intro f
 induction f with
 |zero=>intro b s k s' h;simp[params] at h
 |succ f ih=>
   intro b s k s' h;rw[params] at h;by_cases hb:s.bad=true
   ·rw[if_pos hb] at h;injection h with h;subst h;exact Ap.refl _
   rw[if_neg hb] at h;by_cases hn:s.next [41]=true
   ·rw[if_pos hn] at h;injection h with h;subst h;exact(Am _).s
   rw[if_neg hn] at h;dsimp only at h;have A0:Ad s (if b=true then s else s.need [44]):=by split <;>first|exact Ad.refl _|exact AZ _ _
   generalize(if b=true then s else s.need [44])=r at h A0;have hl:(r.name.node k (AO 4 (r.text 1))).rows.length=r.rows.length+1:=by rw[Av,(CQ _).2.2]
   have A:Ad s ((r.name.node k (AO 4 (r.text 1))).typed.2.Al r.rows.length (r.name.node k (AO 4 (r.text 1))).typed.1):=
    ((A0.trans (Cw _)).trans (Ah _ _ _ (EP _ _))).trans ((Ex _).trans (Dk _ _ _))
   have hr:s.rows.length < ((r.name.node k (AO 4 (r.text 1))).typed.2.Al r.rows.length (r.name.node k (AO 4 (r.text 1))).typed.1).rows.length:=by
    have g1:=((Mg (r.name.node k (AO 4 (r.text 1)))).trans (Hq _ r.rows.length (r.name.node k (AO 4 (r.text 1))).typed.1)).len;have g2:=A0.grow.len;omega
   exact(Gz A hr _ _).trans (ih _ _ _ _ h)
theorem Ll:∀(f:Nat) (s:Rd) (n:Nat) (s':Rd),body f s n=some s'→Ap s s':=by
 intro f
 induction f with
 |zero=>intro s n s' h;simp[body] at h
 |succ f ih=>
   intro s n s' h;rw[body] at h;by_cases hb:s.bad=true∨s.next Aw=true
   ·rw[if_pos hb] at h;injection h with h;subst h;exact Ap.refl _
   rw[if_neg hb] at h;cases he:stmt f s n with
   |none=>rw[he] at h;simp at h
   |some a=>
     rw[he] at h;exact((FL f).1 _ _ _ he).trans (ih _ _ _ h)
structure EY (s s':Rd):Prop where
 grow:Grow s s'
 inv:Inv s→Inv s'
 deep:s'.deep=s.deep
 mods:s'.mods=s.mods
theorem Ap.f{a b:Rd}(h:Ap a b):EY a b:=⟨h.grow,h.inv,h.deep,h.mods⟩
theorem EY.refl(s:Rd):EY s s:=(Ap.refl s).f
theorem EY.trans{a b c:Rd}(h:EY a b)(k:EY b c):EY a c:=⟨h.grow.trans k.grow,fun x=>k.inv (h.inv x),k.deep.trans h.deep,k.mods.trans h.mods⟩
def Fv(s:Rd)(t:Str)(k:Nat):Rd:={s with funcs:=s.funcs++[t],ids:=s.ids++[s.idAt k],used:=[],seen:=[],level:=0}
theorem Sv{s a:Rd}(A:EY s a)(hf:a.funcs=s.funcs)(hr:s.rows.length < a.rows.length)(t:Str)(k:Nat):EY s (a.Fv t k):=by
 refine⟨A.grow.trans (Be rfl (Nat.le_refl _) id rfl),fun h=> ?_,A.deep,A.mods⟩;have ha:=A.inv h;exact⟨ha.mods,by show(a.funcs++[t]).length≤_;rw[hf];have:=h.funcs;simp only[List.length_append,List.length_singleton];show _≤a.rows.length;omega,by show(a.ids++[_]).length=(a.funcs++[t]).length;simp[ha.ids],ha.calls,ha.wants,by simp[Fv],by simp[Fv],ha.kids,ha.rid,ha.callr⟩
theorem KM(s:Rd)(b:Bool):Ad s (if b=true then s.fault 10 else s):=by split <;>first|exact Ih _ _|exact Ad.refl _
theorem Su(f:Nat)(s:Rd)(u:Nat)(m:Str)(s':Rd)(h:func f s u m=some s'):EY s s':=by
 unfold func at h;dsimp only at h;have A1:Ad s (s.need CX).name:=(AZ _ _).trans (Cw _);generalize(s.need CX).text 1=t at h;generalize(s.need CX).name=a at h A1;have A2:Ad s (if inL a.funcs (m++[32]++t)=true then a.fault 10 else a):=A1.trans (KM _ _);generalize(if inL a.funcs (m++[32]++t)=true then a.fault 10 else a)=b at h A2;change (match params f true (((b.node u (AO 3 t)).Fv (m++[32]++t) b.rows.length).need [40]) b.rows.length with
  |none=>none
  |some r=>_)=some s' at h
 have A3:=A2.trans (Ah b u (AO 3 t) (EP _ _));have hl:s.rows.length < (b.node u (AO 3 t)).rows.length:=by rw[Av];have:=A2.grow.len;omega
 have A4:EY s ((b.node u (AO 3 t)).Fv (m++[32]++t) b.rows.length):=Sv A3.s.f A3.funcs hl _ _;generalize(b.node u (AO 3 t)).Fv (m++[32]++t) b.rows.length=c at h A4;cases hp:params f true (c.need [40]) b.rows.length with
 |none=>rw[hp] at h;simp at h
 |some p=>
   rw[hp] at h;dsimp only at h;have A5:EY s p:=A4.trans ((AZ _ _).s.trans (Iz _ _ _ _ _ hp)).f;have A6:EY s (((p.typed.2.Al b.rows.length p.typed.1).node b.rows.length (nd 5)).need [123]):=
    A5.trans ((((Ex p).trans (Dk _ _ _)).trans (Ah _ _ _ (Ch _))).trans (AZ _ _)).s.f
   generalize((p.typed.2.Al b.rows.length p.typed.1).node b.rows.length (nd 5)).need [123]=q at h A6;cases hq:body f q (p.typed.2.Al b.rows.length p.typed.1).rows.length with
   |none=>rw[hq] at h;simp at h
   |some v=>
     rw[hq] at h;dsimp only at h;have A7:=A6.trans (Ll _ _ _ _ hq).f;cases hx:expr f ((v.need Aw).node (p.typed.2.Al b.rows.length p.typed.1).rows.length (nd 10)) (v.need Aw).rows.length with
     |none=>rw[hx] at h;simp at h
     |some x=>
       rw[hx] at h;injection h with h;subst h;exact A7.trans (((((AZ v Aw).trans (Ah _ _ _ (Ch _))).trans ((Bi f).1 _ _ _ hx)).trans (AZ _ _)).trans (AZ _ _)).s.f
end Rd
end Hg
