/-
  A part of the proof.
-/
import Derived.Test.YthihjcannjhonaaGreatDoorKhBA
import Derived.RangeFuncNested
import Derived.RangeFuncBound
import Derived.Maps.OwnIn
set_option linter.all false
set_option maxHeartbeats 32000000
set_option maxRecDepth 100000
namespace Go.Proofs.YthihjcannjhonaaGreatDoor
open Go.RowKit
open Hg (GT gl)
section
variable {P:Program} {ops:Array Oper} {Q:Exit→Act→World→Prop} {md:Region.Mode} {l n:Nat}
theorem Rk{o:Oper}{a:Act}{w:World}{K:Act→World→Prop}(hd:∀c,o.op≠ .defer c)(h:o.wp P a w K Q):o.wpIn (Fence.wide.inRound l) n P a w K Q:=by
 unfold Oper.wpIn;refine⟨fun _ _=>trivial, ?_⟩;have e:Oper.semAt (Fence.wide.inRound l).round a.eval o=execOp a.eval o:=Oper.semAt_some l _ o hd;rw[e];unfold Oper.wp at h;generalize(execOp a.eval o).run P w=r at h⊢;cases r with
 |halt c w'=>
   cases c <;>first|exact h|exact h.elim
 |ok x w'=>
   cases x with
   |value v=>exact h
   |skip=>exact h
   |enter f args=>
     refine⟨fun hs=>(by cases hs),CallsIn.inRound l ?_⟩;refine callsIn_wide.2 (Calls.mono h ?_);intro e w2 he;cases e <;>exact he
   |row r args=>
     refine⟨fun hs=>(by cases hs), ?_⟩;intro c cs _;obtain⟨v,w2,hr,hs⟩:=h c cs;exact⟨v,w2,hr,stepsIn_wide.2 hs⟩
   |_=>first|exact h|exact h.elim
theorem O7{i:Nat}{a:Act}{w:World}{K:Act→World→Prop}(hd:∀(j:Nat) (o:Oper) c,ops[j]? =some o→o.op≠ .defer c)(hQ:¬LetsOut Q)(h:wpOp P ops Q i K a w):wpOpIn (Fence.wide.inRound l) n P ops Q i K a w:=by
 unfold wpOpIn;unfold wpOp at h;cases ho:ops[i]? with
 |none=>rw[ho] at h;exact h
 |some o=>
   rw[ho] at h;dsimp only at h⊢;by_cases hw:Region.wanted o (yielded ops a.tmps)=true
   ·rw[if_pos hw] at h⊢
    rcases h with h|h
    ·exact Rk (fun c=>hd i o c ho) h
    ·exact absurd h.2 hQ
   ·rw[if_neg hw] at h⊢
    exact⟨fun _ _=>trivial,h⟩
theorem JN(hd:∀(j:Nat) (o:Oper) c,ops[j]? =some o→o.op≠ .defer c)(hQ:¬LetsOut Q):∀(fuel:Nat) (listed:Array Bool) (a:Act) (w:World),wpAny P md ops Q fuel listed a w→wpAnyIn (Fence.wide.inRound l) n P md ops Q fuel listed a w
 |0,_,_,_,h=>h
 |fuel+1,listed,a,w,h=>⟨h.1,fun i hi=>wpOpIn_mono (fun a' w' h'=>JN hd hQ fuel _ a' w' h') (O7 hd hQ (h.2 i hi))⟩
def Tw(ops:Array Oper):Bool:=ops.all fun o=>match o.op with| .defer _=>false|_=>true
theorem PT(h:Tw ops=true):∀(j:Nat) (o:Oper) c,ops[j]? =some o→o.op≠ .defer c:=by
 intro j o c ho e;have:=Array.all_eq_true_iff_forall_mem.1 h o (Array.mem_of_getElem? ho);rw[e] at this;cases this
theorem BA{id:Nat}{a:Act}{w:World}(S:World→Prop)(k:Nat)(hm:P.follows .mixedOrders=true)(hd:Tw ops=true)(hQ:¬LetsOut Q)
 (h:CB P .any ops Q S k ops.size (Array.replicate ops.size false) a w.drew):(Code.region id ops true).wpIn (Fence.wide.inRound l) n P Q a w:=
 wpIn_region_any hm (JN (PT hd) hQ _ _ _ _ (Fa _ _ _ _ h))
end
structure Am where
 id:Nat
 nd:Hg.Node
 ka:Option Addr
 kc:Nat
def Am.strip(x:Am):Nat×Hg.Node:=(x.id,x.nd)
@[reducible] def Am.kv(x:Am):Value:= .slice x.ka x.nd.kids.length x.kc
@[reducible] def Am.enc(x:Am):Array Value:= #[idV x.id,ndV x.nd x.ka x.kc]
def Am.kb(x:Am)(q:Nat):Prop:=x.kv.ownBlock=some q
def Am.At(x:Am)(w:World):Prop:=Sl w w.heap.size x.kv x.nd.kids.length (x.nd.kids.map idV)
def SeqW(P:Program)(gf:Nat)(lb:Array Value)(Bs:Nat→Prop)(n₀:Nat)(xs:List (Nat×Hg.Node))(w0:World):Prop:=
 ∀(m l:Nat) (J:(Nat→Prop)→List Am→World→Prop) (Jx:List Am→World→Prop) (W:World),Fr (fun q=>n₀≤q∧¬Bs q) w0 W→
   (∀Z pre A B,J Z pre A→Fr Z A B→J (fun q=>Z q∨A.heap.size≤q∧q < B.heap.size) pre B)→
   (∀ Z pre x A, J Z pre A → (∀ q, Z q → q < A.heap.size) → (pre ++ [x]).map Am.strip <+: xs → x.At A → (∀ q, x.kb q → Z q) →
    YieldAt Fence.wide (m-1) P l x.enc A fun e W'=>(e= .returned (.bool true)∧J Z (pre++[x]) W'∧Fr (fun q=>n₀≤q∧¬Z q) A W')∨(e= .returned (.bool false)∧Jx (pre++[x]) W'))→
   J Bs [] W→
   CallsIn Fence.wide m P gf (#[.func (.yield l) #[] #[]]++lb) W fun e W'=>(∃v,e= .returned v)∧((∃Z ys,ys.map Am.strip=xs∧J Z ys W')∨(∃pre,pre.map Am.strip <+:xs∧Jx pre W'))
def WU(I:(Nat→Prop)→List Am→World→Prop)(Ix:Code→(Nat→Prop)→List Am→World→Prop)(S:Nat→Prop)(xs:List Am)(W:World):Exit→Act→World→Prop
 | .normal,_,W'=>∃S',I S' xs W'∧Fr S W W'∧∀q,S' q→S q∨W.heap.size≤q
 | .ret,_,W'=>∃S',Ix .ret S' xs W'∧Fr S W W'∧∀q,S' q→S q∨W.heap.size≤q
 | .exit id,_,W'=>∃S',Ix (.exit id) S' xs W'∧Fr S W W'∧∀q,S' q→S q∨W.heap.size≤q
 |_,_,_=>False
variable {n:Nat} {P:Program}
theorem CY(W:World)(l:Nat)(o:Obj):Fr (fun q=>q=l) W (W.putObj l o):=Fr.ED (grownBy_putObj' W l o) (fun q e=>by injection e with e;exact e.symm)
theorem GV{g:Operand}{ps:Array Tmp}{assign body:Code}{Q:Exit→Act→World→Prop}{a:Act}{w:World}
 {gf:Nat} {lb:Array Value} (hg:a.eval g= .func (.func gf) #[] lb) (eg:∀args w,(callFunc gf args).run P w= .ok (.enter gf args) w)
 {Bs:Nat→Prop} {n₀:Nat} {xs:List (Nat×Hg.Node)} {w0:World} (hseq:SeqW P gf lb Bs n₀ xs w0) (hb0:Fr (fun q=>n₀≤q∧¬Bs q) w0 w) (hps:ps.size=2)
 (hB0:∀q,Bs q→n₀≤q∧q < w.heap.size) (hn₀:n₀≤w.heap.size)
 (I:(Nat→Prop)→List Am→World→Prop) (Ix:Code→(Nat→Prop)→List Am→World→Prop) (I1:(Nat→Prop)→List Am→Am→Act→World→Prop)
 (hI:∀S pre A B,I S pre A→Fr (fun q=>¬S q) A B→I S pre B) (hIx:∀c S pre A B,Ix c S pre A→Fr (fun q=>¬S q) A B→Ix c S pre B)
 (hI1:∀S pre x a A B,I1 S pre x a A→Fr (fun q=>¬(S q∨x.kb q)) A B→I1 S pre x a B)
 (hIl:∀S pre A,I S pre A→∀q,S q→q < A.heap.size) (hI1l:∀S pre x a A,I1 S pre x a A→∀q,S q→q < A.heap.size)
 (S0:Nat→Prop) (h0:I S0 [] w) (hS0:∀q,S0 q→n₀≤q∧q < w.heap.size∧¬Bs q)
 (hassign : ∀ (l m : Nat) (S : Nat → Prop) (pre : List Am) (x : Am) (A : World) (K : Act → World → Prop), I S pre A → (pre ++ [x]).map Am.strip <+: xs → x.At A → (∀ q, x.kb q → ¬ S q) → Fr (fun q => S0 q ∨ Bs q) w A →
  (∀S1 a1 A1,I1 S1 pre x a1 A1→Fr S A A1→(∀q,S1 q→S q∨A.heap.size≤q)→K a1 A1)→
  assign.wpIn (Fence.wide.inRound l) m P (Exit.then K (fun _ _ _=>False)) {tmps:=(ps.zip x.enc).foldl (fun t (p,v)=>t.setIfInBounds p v) a.tmps,defers:=[]} A)
 (hbody : ∀ (l m : Nat) (S : Nat → Prop) (pre : List Am) (x : Am) (a1 : Act) (A : World), I1 S pre x a1 A → (pre ++ [x]).map Am.strip <+: xs → Fr (fun q => S0 q ∨ Bs q) w A →
  body.wpIn (Fence.wide.inRound l) m P (WU I Ix S (pre++[x]) A) a1 A)
 (hdone:∀(S:Nat→Prop) (ys:List Am) (W:World),ys.map Am.strip=xs→I S ys W→W.heap[w.heap.size]? =some (.deferred (some []))→¬S w.heap.size→Fr (fun q=>S0 q∨Bs q) w W→Q .normal {a with defers:={target:= .collected w.heap.size,args:= #[]}::a.defers} W)
 (hstop:∀(c:Code) (S:Nat→Prop) (pre:List Am) (W:World),pre.map Am.strip <+:xs→Ix c S pre W→W.heap[w.heap.size]? =some (.deferred (some []))→¬S w.heap.size→Fr (fun q=>S0 q∨Bs q) w W→c.wpIn Fence.wide n P Q {a with defers:={target:= .collected w.heap.size,args:= #[]}::a.defers} W):
 (Code.rangeFunc g ps assign body).wpIn Fence.wide n P Q a w:=by
 refine wpIn_rangeFunc ?_;intro fn hfn;show∃(l:Nat) (mark:List Deferred) (w₁:World) (d:Deferred) (w₁':World) (f:FuncId) (args:Array Value) (w₂:World),(Instr.enterLoop fn a.tmps ps assign body none).run P w= .ok (l,mark) w₁∧_;obtain⟨rec,hrec⟩:∃rec:LoopState→Option Code→Loop,rec=fun st pe=>{state:=st,pending:=pe,fn,tmps:=a.tmps,params:=ps,assign,body,defers:=w.heap.size}:=⟨_,rfl⟩;obtain⟨W1,hW1⟩:∃W1,(w.alloc (.deferred (some []))).alloc (.loop (rec .ready none))=W1:=⟨_,rfl⟩;have hL1:W1.heap[w.heap.size+1]? =some (.loop (rec .ready none)):=by
  rw[←hW1];have:=World.alloc_heap_new (w.alloc (.deferred (some []))) (.loop (rec .ready none));rwa[World.size_alloc] at this
 have hK1:W1.heap[w.heap.size]? =some (.deferred (some [])):=by
  rw[←hW1];exact(Below.heap_alloc _ _ _ (by simp)).trans (World.alloc_heap_new w _)
 have hf1:∀D,Fr D w W1:=fun D=>by rw[←hW1];exact((Fr.refl D w).alloc _).alloc _
 have hI1':I S0 [] W1:=hI _ _ _ _ h0 (hf1 _);have hb1:Fr (fun q=>n₀≤q∧¬Bs q) w0 W1:=hb0.trans (hf1 _);refine⟨w.heap.size+1,[{target:= .collected w.heap.size,args:= #[]}],W1,{target:= .fn (.func gf) lb,args:= #[.func (.yield (w.heap.size+1)) #[] #[]]},W1,gf,
  #[.func (.yield (w.heap.size+1)) #[] #[]]++lb,W1, ?_, ?_, ?_, ?_,fun hs=>(by cases hs), ?_⟩
 ·rw[←hW1,hrec];exact run_enterLoop_outer _ _ _ _ _
 ·simp only[resolve,hg]
  simp[go_sem]
 ·intro f' hf';trivial
 ·simp[invoke,go_sem,eg]
 ·have hz1:W1.heap.size=w.heap.size+2:=by rw[←hW1];simp
  refine(hseq (n-1) (w.heap.size+1)
   (fun Z pre A=>∃S,I S pre A∧(∀q,S q→n₀≤q∧¬Z q∧q≠w.heap.size+1∧q≠w.heap.size)∧A.heap[w.heap.size+1]? =some (.loop (rec .ready none))∧A.heap[w.heap.size]? =some (.deferred (some []))∧¬Z (w.heap.size+1)∧¬Z w.heap.size∧(∀q,Z q→Bs q∨w.heap.size≤q)∧(∀q,S q→S0 q∨w.heap.size≤q)∧Fr (fun q=>S0 q∨Bs q) w A)
   (fun pre A=>∃c S,Ix c S pre A∧(∀q,S q→q≠w.heap.size+1∧q≠w.heap.size)∧A.heap[w.heap.size+1]? =some (.loop (rec .done (some c)))∧A.heap[w.heap.size]? =some (.deferred (some []))∧Fr (fun q=>S0 q∨Bs q) w A)
   W1 hb1 ?_ ?_ ?_).mono ?_
  ·rintro Z pre A B ⟨S,hi,hS,hl,hk,hzl,hzk,hzb,hsb,hf⟩ hfr
   have hlA:w.heap.size+1 < A.heap.size:=(AZ.1 hl).1;refine⟨S,hI _ _ _ _ hi (hfr.imp (fun q _ hz hs=>(hS q hs).2.1 hz)),fun q hs=>⟨(hS q hs).1, ?_,(hS q hs).2.2⟩,hfr.at_ hl hzl,hfr.at_ hk hzk, ?_, ?_, ?_,hsb,hf.Em hfr (fun q hq hz=> ?_)⟩
   ·rintro(h|h)
    ·exact(hS q hs).2.1 h
    ·have:=hIl _ _ _ hi q hs;omega
   ·rintro(h|h)
    ·exact hzl h
    ·omega
   ·rintro(h|h)
    ·exact hzk h
    ·omega
   ·rintro q (h|h)
    ·exact hzb q h
    ·exact .inr (by omega)
   ·rcases hzb q hz with h|h
    ·exact .inr h
    ·omega
  ·rintro Z pre x A ⟨S,hi,hS,hl,hk,hzl,hzk,hzb,hsb,hf⟩ hZlt hpre hx hxZ
   have hlA:w.heap.size+1 < A.heap.size:=(AZ.1 hl).1;have hy:=run_yield (P:=P) (args:=x.enc) hl (by rw[hrec];exact hps.symm);rw[hrec] at hy;refine⟨fn,_,assign,body,hy,roundIn_of_wpIn hfn (hassign _ _ S pre x A _ hi hpre hx (fun q hq hs=>(hS q hs).2.1 (hxZ q hq)) hf ?_)⟩;intro S1 a1 A1 hi1 hfa hS1;have hlA1:A1.heap[w.heap.size+1]? =some (.loop (rec .ready none)):=hfa.at_ hl (fun hs=>(hS _ hs).2.2.1 rfl);have hkA1:A1.heap[w.heap.size]? =some (.deferred (some [])):=hfa.at_ hk (fun hs=>(hS _ hs).2.2.2 rfl);have hltA1:w.heap.size+1 < A1.heap.size:=(AZ.1 hlA1).1;refine⟨_,run_beginRound hlA1 (by rw[hrec]), ?_⟩;have hp1:=CY A1 (w.heap.size+1) (.loop {rec .ready none with state:= .busy});have hl2:(A1.putObj (w.heap.size+1) (.loop {rec .ready none with state:= .busy})).heap[w.heap.size+1]? =some (.loop {rec .ready none with state:= .busy}):=World.putObj_heap_same hltA1;have hk2:(A1.putObj (w.heap.size+1) (.loop {rec .ready none with state:= .busy})).heap[w.heap.size]? =some (.deferred (some [])):=(World.putObj_heap_other (by omega)).trans hkA1;have hxl:¬x.kb (w.heap.size+1):=fun h=>hzl (hxZ _ h);have hS1l:¬S1 (w.heap.size+1):=fun h=>by
    rcases hS1 _ h with h|h
    ·exact(hS _ h).2.2.1 rfl
    ·omega
   have hS1k:¬S1 w.heap.size:=fun h=>by
    rcases hS1 _ h with h|h
    ·exact(hS _ h).2.2.2 rfl
    ·omega
   have hfA1:Fr (fun q=>S0 q∨Bs q) w A1:=hf.Em hfa (fun q hq hs=>by
    rcases hsb q hs with h|h
    ·exact .inl h
    ·omega)
   have hi2:=hI1 _ _ _ _ _ _ hi1 (hp1.imp (fun q _ e=>by subst e;rintro(h|h);exact hS1l h;exact hxl h));have hfA2:Fr (fun q=>S0 q∨Bs q) w (A1.putObj (w.heap.size+1) (.loop {rec .ready none with state:= .busy})):=hfA1.Em hp1 (fun q hq e=>by omega);generalize hA2:A1.putObj (w.heap.size+1) (.loop {rec .ready none with state:= .busy})=A2 at hp1 hl2 hk2 hi2 hfA2;have hz2:A1.heap.size≤A2.heap.size:=hp1.size;refine wpIn_mono (hbody _ _ S1 pre x a1 A2 hi2 hpre hfA2) ?_;have fin:∀(jump:Option Code) (S':Nat→Prop) (W3:World),Fr S1 A2 W3→(∀q,S' q→S1 q∨A2.heap.size≤q)→
    (Instr.endRound (w.heap.size+1) jump).run P W3= .ok (.bool jump.isNone) (W3.putObj (w.heap.size+1) (.loop (rec (if jump.isNone then .ready else .done) jump)))∧
    (W3.putObj (w.heap.size+1) (.loop (rec (if jump.isNone then .ready else .done) jump))).heap[w.heap.size+1]? =some (.loop (rec (if jump.isNone then .ready else .done) jump))∧
    (W3.putObj (w.heap.size+1) (.loop (rec (if jump.isNone then .ready else .done) jump))).heap[w.heap.size]? =some (.deferred (some []))∧
    Fr (fun q=>q=w.heap.size+1) W3 (W3.putObj (w.heap.size+1) (.loop (rec (if jump.isNone then .ready else .done) jump)))∧¬S' (w.heap.size+1)∧¬S' w.heap.size∧
    Fr (fun q=>S0 q∨Bs q) w (W3.putObj (w.heap.size+1) (.loop (rec (if jump.isNone then .ready else .done) jump))):=fun jump S' W3 hf3 hS'=>by
    have hl3:W3.heap[w.heap.size+1]? =some (.loop {rec .ready none with state:= .busy}):=hf3.at_ hl2 hS1l;have hk3:W3.heap[w.heap.size]? =some (.deferred (some [])):=hf3.at_ hk2 hS1k;have:=run_endRound (P:=P) jump hl3;have hpf:=CY W3 (w.heap.size+1) (.loop (rec (if jump.isNone then .ready else .done) jump));refine⟨?_,World.putObj_heap_same (AZ.1 hl3).1,(World.putObj_heap_other (by omega)).trans hk3,hpf,fun h=> ?_,fun h=> ?_, ?_⟩
    ·rw[hrec] at this⊢;exact this
    ·rcases hS' _ h with h|h
     ·exact hS1l h
     ·omega
    ·rcases hS' _ h with h|h
     ·exact hS1k h
     ·omega
    ·refine(hfA2.Em hf3 (fun q hq hs=> ?_)).Em hpf (fun q hq e=>by omega)
     rcases hS1 q hs with h|h
     ·rcases hsb q h with h|h
      ·exact .inl h
      ·omega
     ·omega
   rintro e a3 W3 hp;cases e with
   |normal=>
     obtain⟨S',hi3,hf3,hS'⟩:=hp;obtain⟨hr,hl4,hk4,hpf,hSl,hSk,hfw⟩:=fin none S' W3 hf3 hS';have hcls:∀q,S' q→S q∨A.heap.size≤q:=fun q hq=>by
      rcases hS' q hq with h|h
      ·exact hS1 q h
      ·have:=hfa.size;exact .inr (by omega)
     refine⟨_,_,hr,.inl ⟨rfl,⟨S',hI _ _ _ _ hi3 (hpf.imp (fun q _ e hs=>by subst e;exact hSl hs)),fun q hq=>⟨?_, ?_,fun e=>by subst e;exact hSl hq,fun e=>by subst e;exact hSk hq⟩,hl4,hk4,hzl,hzk,hzb,fun q hq=> ?_,hfw⟩, ?_⟩⟩
     ·rcases hcls q hq with h|h
      ·exact(hS q h).1
      ·omega
     ·intro hz
      rcases hcls q hq with h|h
      ·exact(hS q h).2.1 hz
      ·have:=hZlt q hz;omega
     ·rcases hcls q hq with h|h
      ·exact hsb q h
      ·exact .inr (by omega)
     ·have hS1c:∀q,q < A.heap.size→S1 q→n₀≤q∧¬Z q:=fun q hq hs=>by
       rcases hS1 q hs with h|h
       ·exact⟨(hS q h).1,(hS q h).2.1⟩
       ·omega
      refine(((hfa.imp (fun q _ hs=>⟨(hS q hs).1,(hS q hs).2.1⟩)).Em hp1 (fun q hq e=> ?_)).Em hf3 (fun q hq hs=>hS1c q hq hs)).Em hpf (fun q hq e=> ?_)
      ·subst e;exact⟨by omega,hzl⟩
      ·subst e;exact⟨by omega,hzl⟩
   |ret=>
     obtain⟨S',hi3,hf3,hS'⟩:=hp;obtain⟨hr,hl4,hk4,hpf,hSl,hSk,hfw⟩:=fin (some .ret) S' W3 hf3 hS';exact⟨_,_,hr,.inr ⟨rfl,.ret,S',hIx _ _ _ _ _ hi3 (hpf.imp (fun q _ e hs=>by subst e;exact hSl hs)),fun q hq=>⟨fun e=>by subst e;exact hSl hq,fun e=>by subst e;exact hSk hq⟩,hl4,hk4,hfw⟩⟩
   |exit id=>
     obtain⟨S',hi3,hf3,hS'⟩:=hp;obtain⟨hr,hl4,hk4,hpf,hSl,hSk,hfw⟩:=fin (some (.exit id)) S' W3 hf3 hS';exact⟨_,_,hr,.inr ⟨rfl,.exit id,S',hIx _ _ _ _ _ hi3 (hpf.imp (fun q _ e hs=>by subst e;exact hSl hs)),fun q hq=>⟨fun e=>by subst e;exact hSl hq,fun e=>by subst e;exact hSk hq⟩,hl4,hk4,hfw⟩⟩
   |goto t=>exact hp.elim
   |panic ch=>exact hp.elim
   |outgrown=>exact hp.elim
  ·exact⟨S0,hI1',fun q hq=>⟨(hS0 q hq).1,(hS0 q hq).2.2,fun e=>by have:=(hS0 q hq).2.1;omega,fun e=>by have:=(hS0 q hq).2.1;omega⟩,hL1,hK1,fun h=>by have:=(hB0 _ h).2;omega,fun h=>by have:=(hB0 _ h).2;omega,fun q h=> .inl h,fun q h=> .inl h,hf1 _⟩
  ·rintro e W2 ⟨⟨v,rfl⟩,(⟨Z,ys,hys,S,hi,hS,hl,hk,-,-,-,-,hf⟩|⟨pre,hpre,c,S,hi,hS,hl,hk,hf⟩)⟩
   ·have hpf:=CY W2 (w.heap.size+1)
    refine⟨none,_,by have:=run_endLoop (P:=P) hl (by rw[hrec];simp);rw[hrec] at this;exact this, ?_⟩;exact hdone S ys _ hys (hI _ _ _ _ hi ((hpf _).imp (fun q _ e hs=>by subst e;exact(hS _ hs).2.2.1 rfl))) ((World.putObj_heap_other (by omega)).trans hk) (fun h=>(hS _ h).2.2.2 rfl) (hf.Em (hpf _) (fun q hq e=>by omega))
   ·have hpf:=CY W2 (w.heap.size+1)
    refine⟨some c,_,by have:=run_endLoop (P:=P) hl (by rw[hrec];simp);rw[hrec] at this;exact this, ?_⟩;exact hstop c S pre _ hpre (hIx _ _ _ _ _ hi ((hpf _).imp (fun q _ e hs=>by subst e;exact(hS _ hs).1 rfl))) ((World.putObj_heap_other (by omega)).trans hk) (fun h=>(hS _ h).2 rfl) (hf.Em (hpf _) (fun q hq e=>by omega))
end Go.Proofs.YthihjcannjhonaaGreatDoor
namespace Hg
def wk(M:Nat→Option Node):Nat→List Nat→List Nat→Option (List (Nat×Node))
 |0,_,_=>none
 |_+1,[],_=>some []
 |f+1,i::s,seen=>match M i with
   |none=>wk M f s seen
   |some n=>if i∈seen then wk M f s seen else(wk M f (n.kids++s) (i::seen)).map ((i,n):: ·)
theorem Rq(M:Nat→Option Node)(f:Nat)(seen:List Nat):wk M (f+1) [] seen=some []:=rfl
theorem EF(M:Nat→Option Node)(f i:Nat)(s seen:List Nat):wk M (f+1) (i::s) seen=match M i with
 |none=>wk M f s seen
 |some n=>if i∈seen then wk M f s seen else(wk M f (n.kids++s) (i::seen)).map ((i,n):: ·):=rfl
theorem O9(M:Nat→Option Node):∀(f:Nat) (s seen:List Nat) (r:List (Nat×Node)),wk M f s seen=some r→s.length < f
 |0,_,_,_,h=>by cases h
 |f+1,[],_,_,_=>by simp
 |f+1,i::s,seen,r,h=>by
   rw[EF] at h;cases hM:M i with
   |none=>rw[hM] at h;have:=O9 M f s seen r h;simp;omega
   |some n=>
     rw[hM] at h;dsimp only at h;by_cases hi:i∈seen
     ·rw[if_pos hi] at h;have:=O9 M f s seen r h;simp;omega
     ·rw[if_neg hi] at h
      cases hw:wk M f (n.kids++s) (i::seen) with
      |none=>rw[hw] at h;cases h
      |some r'=>have:=O9 M f _ _ r' hw;simp at this⊢;omega
theorem NN{p:Nat→Prop}(h:∃n,p n):∃m,p m∧∀n,p n→m≤n:=by
 obtain⟨n,hn⟩:=h
 induction n using Nat.strongRecOn with
 |_ n ih=>
   by_cases hm:∃k,k < n∧p k
   ·obtain⟨k,hk,hp⟩:=hm
    exact ih k hk hp
   ·refine⟨n,hn,fun k hk=> ?_⟩
    rcases Nat.lt_or_ge k n with h|h
    ·exact absurd ⟨k,h,hk⟩ hm
    ·exact h
open Classical in
noncomputable def least(p:Nat→Prop):Nat:=if h:∃n,p n then Classical.choose (NN h) else 0
theorem Jo{p:Nat→Prop}(h:∃n,p n):p (least p):=by
 unfold least;rw[dif_pos h];exact(Classical.choose_spec (NN h)).1
theorem Ic{p:Nat→Prop}{n:Nat}(h:p n):least p≤n:=by
 unfold least;rw[dif_pos ⟨n,h⟩];exact(Classical.choose_spec (NN ⟨n,h⟩)).2 n h
end Hg
namespace Go.Proofs.YthihjcannjhonaaGreatDoor
open Go.RowKit
open Hg (GT gl wk)
attribute [local go_sem] Oper.semAt_some
section
variable {P:Program}
theorem Jg{F:Fence}{k:Nat}(w:World){ops:Array Oper}{rest:List Oper}{o:Oper}{a:Act}{Q:Exit→Act→World→Prop}(hgd:o.guard=none)(s x:Operand)(t:TypeId)
 (ho:o.op= .call {callee:= .builtin .append,args:= #[s,x],argTypes:= #[t,t]})
 (base:Nat) (e:TypeId) (i:TypeInfo) (z:Value) (bytes:Nat) (ht:P.underlying t=some (.slice e)) (hi:P.info? e=some i) (hz:i.zero=some z)
 (hsize:i.size=1) (hby:i.bytes=bytes) (hzs:z.cells.size=1)
 (v:Value) (n:Nat) (xs:List Value) (hs:a.eval s=v) (hown:w.ownsRow base e 1 v n xs)
 (B:Nat) (vx:Value) (m:Nat) (news:List Value) (hx:a.eval x=vx) (hsl:Sl w B vx m news) (hl:news.length=m) (h1:∀u∈news,u.oneCell'=true)
 (h63:n+m≤maxLen) (hbytes:(n+m)*bytes≤140737488355328) (hbase:base≤w.heap.size)
 (h:∀v' w',w'.ownsRow base e 1 v' (n+m) (xs++news)→w.grownBy w' v.ownBlock→(v'.ownBlock=v.ownBlock∨v'.ownBlock=some w.heap.size)→wpListIn F k P ops Q rest (a.put o.dst v') w'):
 wpListIn F k P ops Q (o::rest) a w:=by
 obtain⟨ax,c,rfl,hc⟩:=hsl;cases ax with
 |none=>
   have hn0:news=[]:=by
    rcases Nat.eq_zero_or_pos news.length with h0|h0
    ·exact List.eq_nil_of_length_eq_zero h0
    ·obtain⟨b,o',hb,_⟩:=hc h0;cases hb
   subst hn0;simp only[List.length_nil] at hl;subst hl;refine wpListIn_plain hgd fun K hK=> ?_;have hrun:=H9 (P:=P) (w:=w) base t o.type e i 1 c ht hi v n xs hown;unfold Oper.wpIn;refine⟨by simp[Oper.about,ho,resolve,Target.leads,Sem.run_pure], ?_⟩;rw[Oper.semAt_plain F _ _ (by rw[ho];intro c hc';cases hc')]
   simp[execOp,ho,resolve,invoke,builtin,hs,hx,hrun,Result.andThen]
   refine hK _ _ (h v w ?_ ⟨rfl,rfl,rfl,AA,fun _ _ _=>rfl⟩ (.inl rfl));simpa using hown
 |some ad=>
   refine wpListIn_append_own_at w hgd s x t ho base e i z 1 bytes ht hi hz hsize hby hzs (by decide) v n xs hs hown ad m c news hx (by omega) (fun j u hj=> ?_) h1 h63 hbytes hbase (fun v' w' a1 a2 _ a4=>h v' w' a1 a2 a4);obtain⟨hlt,he⟩:=Ah.1 hj;obtain⟨b,o',hb,_,hcell⟩:=hc (by omega);injection hb with hb;subst hb;have hadd:(⟨b,o',none⟩:Addr).add j=⟨b,o'+j,none⟩:=by unfold Addr.add;split <;>simp_all
   rw[hadd,hcell j hlt,he]
end
def KD(l:List Nat):List (Nat×Value):=l.map fun k=>(k,.bool true)
abbrev IMap:=XMap (α:=Nat) 51 idV
structure WkSt (M:Nat→Option Hg.Node) (n₀ ib bb sb id ab:Nat) (F:Nat) (xs:List (Nat×Hg.Node)) (J:(Nat→Prop)→List Am→World→Prop) (w0:World) (f:Nat) (v:Value) (wr:World) (Z:Nat→Prop) (pre:List Am) (stack seen:List Nat) (rest:List (Nat×Hg.Node)):Prop where
 j:J Z pre wr
 z:∀q,Z q→n₀≤q∧q < wr.heap.size
 zi:Z ib∧Z bb∧Z sb
 box:wr.cell? ⟨ib,0,none⟩=some (idV id)∧wr.cell? ⟨bb,0,none⟩=some (.pointer (some ⟨ab,0,none⟩))
 own:wr.ownsRow n₀ 51 1 v stack.length (stack.reverse.map idV)
 vz:∀q,v.ownBlock=some q→Z q∧q≠ib∧q≠bb
 sne:sb≠ib∧sb≠bb
 mp:IMap wr sb (KD seen)
 top:∀x∈stack,x < Ai
 run:wk M f stack seen=some rest
 all:pre.map Am.strip++rest=xs
 cnt:seen.length+f≤F
 fr:Fr (fun q=>n₀≤q) w0 wr
section
variable {M:Nat→Option Hg.Node} {n₀ ib bb sb id ab F:Nat} {xs:List (Nat×Hg.Node)} {J:(Nat→Prop)→List Am→World→Prop} {w0:World} {f g z i:Nat} {wr W2 W3 W4 W5 W6:World} {Z:Nat→Prop} {pre:List Am} {s seen:List Nat} {rest:List (Nat×Hg.Node)}
theorem WkSt.pop(h:WkSt M n₀ ib bb sb id ab F xs J w0 f (.slice (some ⟨g,0,none⟩) (s.length+1) z) wr Z pre (i::s) seen rest):wr.ownsRow n₀ 51 1 (.slice (some ⟨g,0,none⟩) s.length z) s.length (s.reverse.map idV):=
 ownsRow_pop (n:=s.length) (size:=1) (xs:=s.reverse.map idV) (by simp) (show wr.ownsRow n₀ 51 1 (.slice (some ⟨g,0,none⟩) (s.length+1) z) (s.length+1) (s.reverse.map idV++[idV i]) from by simpa using h.own)
theorem WkSt.skip(h:WkSt M n₀ ib bb sb id ab F xs J w0 (f+1) (.slice (some ⟨g,0,none⟩) (s.length+1) z) wr Z pre (i::s) seen rest)(hJ:∀Z pre A B,J Z pre A→Fr Z A B→J (fun q=>Z q∨A.heap.size≤q∧q < B.heap.size) pre B)
 (hf:Fr (fun _=>False) wr W2) (hw:wk M (f+1) (i::s) seen=wk M f s seen):
 WkSt M n₀ ib bb sb id ab F xs J w0 f (.slice (some ⟨g,0,none⟩) s.length z) W2 (fun q=>Z q∨wr.heap.size≤q∧q < W2.heap.size) pre s seen rest:=by
 have hD:∀D,Fr D wr W2:=fun D=>hf.imp (fun _ _ e=>e.elim);have hsz:=hf.size;have hn₀:n₀≤wr.heap.size:=by have:=h.z ib h.zi.1;omega
 refine⟨hJ _ _ _ _ h.j (hD _), ?_,⟨.inl h.zi.1,.inl h.zi.2.1,.inl h.zi.2.2⟩,⟨(hf.cell (p:=⟨ib,0,none⟩) (h.z ib h.zi.1).2 (fun e=>e)).trans h.box.1,(hf.cell (p:=⟨bb,0,none⟩) (h.z bb h.zi.2.1).2 (fun e=>e)).trans h.box.2⟩,Av h.pop hf (fun _ _ e=>e),fun q e=> ?_,h.sne,h.mp.fr hf (fun e=>e),fun x hx=>h.top x (by simp[hx]),by rw[←hw];exact h.run,h.all,by have:=h.cnt;omega,h.fr.trans (hD _)⟩
 ·rintro q (hq|hq)
  ·have:=h.z q hq;exact⟨this.1,by omega⟩
  ·exact⟨by omega,hq.2⟩
 ·have:=h.vz q e
  exact⟨.inl this.1,this.2⟩
theorem WkSt.row(h:WkSt M n₀ ib bb sb id ab F xs J w0 (f+1) (.slice (some ⟨g,0,none⟩) (s.length+1) z) wr Z pre (i::s) seen rest)(hf3:Fr (fun q=>q=sb) wr W3)(hk4:Fr (fun q=>n₀≤q∧¬(Z q∨wr.heap.size≤q∧q < W3.heap.size)) W3 W4)
 {kb:Nat→Prop} (hkb:∀q,kb q→wr.heap.size≤q∧q < W3.heap.size) (hf5:Fr kb W4 W5):W5.ownsRow n₀ 51 1 (.slice (some ⟨g,0,none⟩) s.length z) s.length (s.reverse.map idV):=by
 have hgz:=h.vz g rfl;have hgl:=h.z g hgz.1;obtain⟨es,ck,hm⟩:=h.mp.obj;have hgs:g≠sb:=fun e=>by
  rcases Ep h.own hm with h'|h'
  ·cases h'
  ·exact h' (by rw[←e];rfl)
 refine Av (Av (Av h.pop hf3 (fun q e e'=> ?_)) hk4 (fun q e e'=> ?_)) hf5 (fun q e e'=> ?_)
 ·injection e with e;exact hgs (e.trans e')
 ·injection e with e;have e:g=q:=e;subst e;exact e'.2 (.inl hgz.1)
 ·injection e with e;have e:g=q:=e;subst e;have:=hkb _ e';omega
theorem WkSt.next(h:WkSt M n₀ ib bb sb id ab F xs J w0 (f+1) (.slice (some ⟨g,0,none⟩) (s.length+1) z) wr Z pre (i::s) seen rest)(hJ:∀Z pre A B,J Z pre A→Fr Z A B→J (fun q=>Z q∨A.heap.size≤q∧q < B.heap.size) pre B)
 {nd:Hg.Node} (hM:M i=some nd) (hi:i∉seen) (hk:∀k∈nd.kids,k < Ai) (x:Am) (hx:x.strip=(i,nd)) (hf3:Fr (fun q=>q=sb) wr W3) (hm3:IMap W3 sb (KD (i::seen)))
 (hJ4:J (fun q=>Z q∨wr.heap.size≤q∧q < W3.heap.size) (pre++[x]) W4) (hk4:Fr (fun q=>n₀≤q∧¬(Z q∨wr.heap.size≤q∧q < W3.heap.size)) W3 W4)
 {kb:Nat→Prop} (hkb:∀q,kb q→wr.heap.size≤q∧q < W3.heap.size) (hf5:Fr kb W4 W5) {v':Value} (own6:W6.ownsRow n₀ 51 1 v' (s.length+nd.kids.length) (s.reverse.map idV++nd.kids.reverse.map idV)) (g6:W5.grownBy W6 (some g)) (at6:v'.ownBlock=some g∨v'.ownBlock=some W5.heap.size):
 ∃Z' rest',WkSt M n₀ ib bb sb id ab F xs J w0 f v' W6 Z' (pre++[x]) (nd.kids++s) (i::seen) rest':=by
 have hgz:=h.vz g rfl;have hgl:=h.z g hgz.1;have hn₀:n₀≤wr.heap.size:=by have:=h.z ib h.zi.1;omega
 obtain⟨es,ck,hm⟩:=h.mp.obj;have hgs:g≠sb:=fun e=>by
  rcases Ep h.own hm with h'|h'
  ·cases h'
  ·exact h' (by rw[←e];rfl)
 have s3:=hf3.size;have s4:=hk4.size;have s5:=hf5.size;have s6:=g6.size;have hf6:Fr (fun q=>q=g) W5 W6:=Fr.ED g6 (fun q e=>by injection e with e;exact e.symm);have hf46:Fr (fun q=>Z q∨wr.heap.size≤q∧q < W3.heap.size) W4 W6:=(hf5.imp (fun q _ e=> .inr (hkb q e))).Em hf6 (fun q _ e=>by subst e;exact .inl hgz.1);have hzi:=(h.z ib h.zi.1).2;have hzb:=(h.z bb h.zi.2.1).2;have hzs:=(h.z sb h.zi.2.2).2;have hcell:∀q,q < wr.heap.size→Z q→q≠sb→q≠g→W6.heap[q]? =wr.heap[q]? :=fun q hq hz h1 h2=>
  (hf6.block q (by omega) h2).trans ((hf5.block q (by omega) (fun e=>by have:=hkb q e;omega)).trans ((hk4.block q (by omega) (fun e=>e.2 (.inl hz))).trans (hf3.block q hq h1)))
 have hrun:=h.run;rw[Hg.EF,hM] at hrun;dsimp only at hrun;rw[if_neg hi] at hrun;cases hr:wk M f (nd.kids++s) (i::seen) with
 |none=>rw[hr] at hrun;cases hrun
 |some rest'=>
   rw[hr] at hrun;have hrun:(i,nd)::rest'=rest:=Option.some.inj hrun;refine⟨_,rest',hJ _ _ _ _ hJ4 hf46, ?_,⟨.inl (.inl h.zi.1),.inl (.inl h.zi.2.1),.inl (.inl h.zi.2.2)⟩,⟨?_, ?_⟩, ?_,fun q e=> ?_,h.sne, ?_,fun y hy=> ?_,hr, ?_, ?_, ?_⟩
   ·rintro q ((hq|hq)|hq)
    ·have:=h.z q hq;exact⟨this.1,by omega⟩
    ·exact⟨by omega,by omega⟩
    ·exact⟨by omega,by omega⟩
   ·exact(World.cell?_of_block (a:=⟨ib,0,none⟩) (hcell ib hzi h.zi.1 (fun e=>h.sne.1 e.symm) (fun e=>hgz.2.1 e.symm))).trans h.box.1
   ·exact(World.cell?_of_block (a:=⟨bb,0,none⟩) (hcell bb hzb h.zi.2.1 (fun e=>h.sne.2 e.symm) (fun e=>hgz.2.2 e.symm))).trans h.box.2
   ·have e1:(nd.kids++s).length=s.length+nd.kids.length:=by simp[Nat.add_comm]
    have e2:(nd.kids++s).reverse.map idV=s.reverse.map idV++nd.kids.reverse.map idV:=by simp
    rw[e1,e2];exact own6
   ·rcases at6 with h'|h'
    ·rw[h'] at e
     injection e with e;subst e;exact⟨.inl (.inl hgz.1),hgz.2⟩
    ·have hq:=own6.lt q e
     rw[h'] at e;injection e with e;exact⟨.inr ⟨by omega,hq.2⟩,by omega,by omega⟩
   ·have h4:=hm3.fr hk4 (fun e=>e.2 (.inl h.zi.2.2))
    have h5:=h4.fr hf5 (fun e=>by have:=hkb sb e;omega);exact h5.fr hf6 (fun e=>hgs e.symm)
   ·rcases List.mem_append.1 hy with hy|hy
    ·exact hk y hy
    ·exact h.top y (by simp[hy])
   ·rw[List.map_append,List.append_assoc]
    show pre.map Am.strip++([x.strip]++rest')=xs;rw[hx,←h.all,←hrun];rfl
   ·have:=h.cnt;simp;omega
   ·refine(((h.fr.Em hf3 (fun q hq e=>by subst e;exact(h.z q h.zi.2.2).1)).Em hk4 (fun q _ e=>e.1)).Em hf5 (fun q hq e=>by have:=hkb q e;omega)).Em hf6 (fun q _ e=>by subst e;exact hgl.1)
end
theorem IG(ab mb c:Nat)(M:Nat→Option Hg.Node)(n₀ id ib bb F:Nat)(xs:List (Nat×Hg.Node))(w0:World)(hAr:∀W',Fr (fun q=>n₀≤q) w0 W'→ArAt W' ab mb c M)(hib:w0.cell? ⟨ib,0,none⟩=some (idV id))(hbb:w0.cell? ⟨bb,0,none⟩=some (.pointer (some ⟨ab,0,none⟩)))
 (hlt:n₀≤ib∧n₀≤bb∧ib < w0.heap.size∧bb < w0.heap.size) (hid:id < Ai) (hk:∀i nd,M i=some nd→∀k∈nd.kids,k < Ai) (hxs:wk M F [id] []=some xs) (hF:F≤1000000):
 SeqW Tryz.prog 135 #[.pointer (some ⟨ib,0,none⟩),.pointer (some ⟨bb,0,none⟩)] (fun q=>q=ib∨q=bb) n₀ xs w0:=by
 intro m l J Jx W hW hJ hY h0;obtain⟨j0,hj,hj0,hj1,hj2⟩:=info_parts Ie;have hzb:∀W:World,(zeroValue 4).run Tryz.prog W= .ok (.bool false) W:=fun W=>by kernel_rfl
 have hmm:= @run_makeMap Tryz.prog;refine callsIn_of_wp Tryz.func135 rfl trivial ?_ rfl;simp only[Tryz.ntmps135,List.size_toArray,List.length_cons,List.length_nil,Nat.reduceAdd,Nat.reduceSub,Array.replicate_succ,Array.replicate_zero,List.push_toArray,List.append_toArray,List.nil_append,List.cons_append];have ci:W.cell? ⟨ib,0,none⟩=some (idV id):=(hW.cell (p:=⟨ib,0,none⟩) hlt.2.2.1 (fun h=>h.2 (.inl rfl))).trans hib;have cb:W.cell? ⟨bb,0,none⟩=some (.pointer (some ⟨ab,0,none⟩)):=(hW.cell (p:=⟨bb,0,none⟩) hlt.2.2.2 (fun h=>h.2 (.inr rfl))).trans hbb;have hli:ib < W.heap.size:=Ad hlt.2.2.1 hW.size;have hlb:bb < W.heap.size:=Ad hlt.2.2.2 hW.size;gi_wp2;have hst:∃Z pre stack seen rest,WkSt M n₀ ib bb W.heap.size id ab F xs J w0 F (.slice (some ⟨W.heap.size+1,0,none⟩) 1 1) ((W.alloc (.map #[] 0)).alloc (.cells #[idV id] 51)) Z pre stack seen rest:=by
  have hfr:∀D,Fr D W ((W.alloc (.map #[] 0)).alloc (.cells #[idV id] 51)):=fun D=>((Fr.refl D W).alloc _).alloc _;have hn:=Ac (W.alloc (.map #[] 0)) (.cells #[idV id] 51);rw[show(W.alloc (.map #[] 0)).heap.size=W.heap.size+1 by simp] at hn;refine⟨_,[],[id],[],xs,hJ _ _ _ _ h0 (hfr _), ?_,⟨.inl (.inl rfl),.inl (.inr rfl),.inr ⟨AA,by simp;omega⟩⟩,⟨((hfr (fun _=>False)).cell (p:=⟨ib,0,none⟩) hli (fun h=>h)).trans ci,((hfr (fun _=>False)).cell (p:=⟨bb,0,none⟩) hlb (fun h=>h)).trans cb⟩,
   ⟨rfl,.inr ⟨W.heap.size+1,1,#[idV id],rfl,by omega,hn,AA,by unfold maxLen;omega,rfl,rfl⟩⟩, ?_,⟨by omega,by omega⟩,(XMap.made 51 idV W).keep (heap_alloc_old _ _ (by simp)),fun x hx=>(by simp at hx;subst hx;exact hid),hxs,rfl,by simp,(hW.imp (fun q _ h=>h.1)).trans (hfr _)⟩
  ·rintro q ((h|h)|h)
   ·subst h;exact⟨hlt.1,by simp;omega⟩
   ·subst h;exact⟨hlt.2.1,by simp;omega⟩
   ·exact⟨by omega,by simpa using h.2⟩
  ·intro q e
   injection e with e;have e:W.heap.size+1=q:=e;subst e;exact⟨.inr ⟨by omega,by simp⟩,by omega,by omega⟩
 have HST:=zz hst;have HJ:=zz hJ;have HY:=zz hY;have HAR:=zz hAr;have HK:=zz hk;clear hst hJ hY hAr hk hW h0 ci cb hib hbb hxs hid;generalize W.heap.size=sb at HST⊢;generalize World.alloc (World.alloc W _) _=W1 at HST⊢;clear hli hlb
 gi_loopw [5] (fun p wr=>∃v,p=v∧∃f Z pre stack seen rest,WkSt M n₀ ib bb sb id ab F xs J w0 f v wr Z pre stack seen rest) (fun v wr=>Hg.least (fun f=>∃Z pre stack seen rest,WkSt M n₀ ib bb sb id ab F xs J w0 f v wr Z pre stack seen rest))
 case atStart=>exact⟨_,rfl,F,HST.out⟩
 case round=>
  obtain⟨v,hv,hrel⟩:=hrel;have hv:=hv.symm;subst hv;have hl:=Hg.Jo hrel;clear hrel HST;generalize hf0:Hg.least _=f at hl;have HF0:=zz hf0;clear hf0;obtain⟨Z,pre,stack,seen,rest,hS⟩:=hl;have HS:=zz hS;cases stack with
  |nil=>
    have hown:=hS.own;have hv0:∃a cc,v= .slice a 0 cc:=by
     obtain⟨a,cc,e⟩:=(Sl.Aj hown).form;exact⟨a,cc,e⟩
    obtain⟨a,cc,rfl⟩:=hv0;clear hS hown;gi_wp2;go_end0;refine⟨⟨_,rfl⟩,.inl ⟨Z,pre, ?_,HS.out.j⟩⟩;have h1:=HS.out.run;have h2:=HS.out.all;cases f with
    |zero=>cases h1
    |succ f=>
      rw[Hg.Rq] at h1;injection h1 with h1;subst h1;simpa using h2
  |cons i s=>
    have hown:=hS.own;obtain⟨g,z,rfl⟩:=ownsRow_succ (k:=s.length) (show wr.ownsRow n₀ 51 1 v (s.length+1) _ from hown);have hlen:s.length+1≤1000000:=by
     have h1:=Hg.O9 M f _ _ _ hS.run;have h2:=hS.cnt;simp at h1;omega
    have kc:wr.cell? ⟨g,s.length,none⟩=some (idV i):=by
     rw[hown.cellAt s.length (by simp)];simp
    have hcap:s.length+1≤z:=(by obtain⟨c9,e,h,_⟩:=IR hown rfl;injection e with _ _ e;simp at h;omega);have hcap2:s.length≤z:=by omega
    have hks:IntKind.i64.wrap (((s.length+1:Nat):Int)-1)=(s.length:Int):=by rw[IntWalk.i64_in _ (by omega)];omega
    have hks2:IntKind.i64.wrap (s.length:Int)=(s.length:Int):=IntWalk.i64_in _ (by omega);have hit:=hS.top i (by simp);have hbb:=hS.box.2;have TG:=zz (Na ab mb c M i wr (HAR.out wr hS.fr) hit);cases f with
    |zero=>exact absurd hS.run (by intro h;cases h)
    |succ f=>
    have hszr:∀q,Z q→q < wr.heap.size:=fun q hq=>(hS.z q hq).2;have hgetn:∀(o:Option Hg.Node),M i=o→Calls Tryz.prog 43 #[.pointer (some ⟨ab,0,none⟩),.int .u64 (i:Int)] wr (H5 wr o):=fun o h=>h ▸ TG.out;clear hS hown TG;cases hM:M i with
    |none=>
      have TG:=zz (hgetn none hM);clear hgetn;gi_wp2_with fail;refine⟨trivial,fun h=>(by cases h),(callsIn_wide.2 TG.out).mono ?_⟩;rintro e w1 ⟨ka,kc1,rfl,ho1,hb1⟩;have HF1:=zz (Fr.of_below (D:=fun _=>False) hb1);clear ho1 hb1 TG kc hbb;gi_wp2;go_roundw
      case rel=>exact⟨_,rfl,f,_,_,_,_,_,HS.out.skip HJ.out (HF1.out.alloc _) (by rw[Hg.EF,hM])⟩
      case measure=>
       rw[HF0.out];refine Nat.lt_succ_of_le (Hg.Ic ?_);exact⟨_,_,_,_,_,HS.out.skip HJ.out (HF1.out.alloc _) (by rw[Hg.EF,hM])⟩
    |some nd=>
      have TG:=zz (hgetn (some nd) hM);have hmp:=HS.out.mp;have hsb:=(HS.out.z sb HS.out.zi.2.2).2;clear hgetn;gi_wp2_with fail;refine⟨trivial,fun h=>(by cases h),(callsIn_wide.2 TG.out).mono ?_⟩;rintro e w1 ⟨ka,kc1,rfl,ho1,hb1⟩;have HF1:=zz (Fr.of_below (D:=fun _=>False) hb1);have HO1:=zz ho1;have hsz1:wr.heap.size≤w1.heap.size:=hb1.size;have hm1:IMap (w1.alloc (.cells #[.int .u8 (nd.kind:Int),strV nd.name,.int .i64 nd.num,.int .u8 (nd.type:Int),.int .u64 (nd.ref:Int),.slice ka nd.kids.length kc1] 54)) sb (KD seen):=hmp.fr (HF1.out.alloc _) (fun e=>e);have hlk:=hm1.look (x:=i) (t:=184) BP Tryz.underlying184 (hzb _) ⟨_,BQ hit⟩;unfold KD at hlk;rw[Hg.XC] at hlk;clear ho1 hb1 TG kc hbb hmp;by_cases hi:i∈seen
      ·rw[if_pos hi] at hlk
       replace hlk:(Instr.lookup 184 (.map (some sb)) (.int .u64 (i:Int)) false).run Tryz.prog (w1.alloc (.cells #[.int .u8 (nd.kind:Int),strV nd.name,.int .i64 nd.num,.int .u8 (nd.type:Int),.int .u64 (nd.ref:Int),.slice ka nd.kids.length kc1] 54))= .ok (.bool true) _:=hlk;clear hm1;gi_wp2;go_roundw
       case rel=>exact⟨_,rfl,f,_,_,_,_,_,HS.out.skip HJ.out (HF1.out.alloc _) (by rw[Hg.EF,hM];simp[hi])⟩
       case measure=>
        rw[HF0.out];refine Nat.lt_succ_of_le (Hg.Ic ?_);exact⟨_,_,_,_,_,HS.out.skip HJ.out (HF1.out.alloc _) (by rw[Hg.EF,hM];simp[hi])⟩
      ·rw[if_neg hi] at hlk
       replace hlk:(Instr.lookup 184 (.map (some sb)) (.int .u64 (i:Int)) false).run Tryz.prog (w1.alloc (.cells #[.int .u8 (nd.kind:Int),strV nd.name,.int .i64 nd.num,.int .u8 (nd.type:Int),.int .u64 (nd.ref:Int),.slice ka nd.kids.length kc1] 54))= .ok (.bool false) _:=hlk;obtain⟨W3,hrun3,hU3,hg3⟩:=hm1.put (t:=184) BP Tryz.underlying184 (fun x y h=>by injection h with _ h;exact Int.ofNat.inj h) (by have:=HS.out.cnt;unfold KD;simp;omega) i ⟨_,BQ hit⟩ (.bool true);have hnw:=Ac w1 (.cells #[.int .u8 (nd.kind:Int),strV nd.name,.int .i64 nd.num,.int .u8 (nd.type:Int),.int .u64 (nd.ref:Int),.slice ka nd.kids.length kc1] 54);have hb3:W3.heap[w1.heap.size]? =some (.cells #[.int .u8 (nd.kind:Int),strV nd.name,.int .i64 nd.num,.int .u8 (nd.type:Int),.int .u64 (nd.ref:Int),.slice ka nd.kids.length kc1] 54 (0,0)):=(hg3.block w1.heap.size (by simp) (fun e=>by injection e with e;omega)).trans hnw;have hf3a:Fr (fun q=>q=sb) wr (w1.alloc (.cells #[.int .u8 (nd.kind:Int),strV nd.name,.int .i64 nd.num,.int .u8 (nd.type:Int),.int .u64 (nd.ref:Int),.slice ka nd.kids.length kc1] 54)):=(HF1.out.alloc _).imp (fun _ _ e=>e.elim);have HF3:=zz (hf3a.step hg3 (fun q e=>by injection e with e;exact .inl e.symm));have hsz3:w1.heap.size+1≤W3.heap.size:=by have:=hg3.size;simpa using this
       have HO3:=zz (show W3.ownsRow wr.heap.size 51 1 (.slice ka nd.kids.length kc1) nd.kids.length (nd.kids.map idV) from Av (HO1.out.alloc _) (Fr.ED hg3 (fun q e=>by injection e with e;exact e.symm):Fr (fun q=>q=sb) _ _) (fun q e e'=>by have:=(HO1.out.lt q e).1;omega));have HU3:=zz hU3;replace hrun3:(Instr.mapUpdate 184 (.map (some sb)) (.int .u64 (i:Int)) (.bool true)).run Tryz.prog (w1.alloc (.cells #[.int .u8 (nd.kind:Int),strV nd.name,.int .i64 nd.num,.int .u8 (nd.type:Int),.int .u64 (nd.ref:Int),.slice ka nd.kids.length kc1] 54))= .ok () W3:=hrun3;have hJ3:=HJ.out _ _ _ _ HS.out.j (HF3.out.imp (D':=Z) (fun q _ e=>by subst e;exact HS.out.zi.2.2));have hpre:(pre++[(⟨i,nd,ka,kc1⟩:Am)]).map Am.strip <+:xs:=by
        have hrun:=HS.out.run;have hall:=HS.out.all;rw[Hg.EF,hM] at hrun;dsimp only at hrun;rw[if_neg hi] at hrun;cases hr:wk M f (nd.kids++s) (i::seen) with
        |none=>rw[hr] at hrun;cases hrun
        |some rest'=>
          rw[hr] at hrun;have hrun:(i,nd)::rest'=rest:=Option.some.inj hrun;exact⟨rest',by rw[←hall,←hrun];simp[Am.strip]⟩
       obtain⟨fn,tmps,assign,body,hy,hR⟩:=HY.out _ pre ⟨i,nd,ka,kc1⟩ W3 hJ3 (fun q hq=>by
        rcases hq with hq|hq
        ·have:=hszr q hq;omega
        ·exact hq.2) hpre (Sl.Aj HO3.out) (fun q hq=> .inr (HO3.out.lt q hq))
       dsimp only[Am.enc] at hy;have e0:=AJ W3 w1.heap.size 0 _ _ (0,0) hb3;have e1:=AJ W3 w1.heap.size 1 _ _ (0,0) hb3;have e2:=AJ W3 w1.heap.size 2 _ _ (0,0) hb3;have e3:=AJ W3 w1.heap.size 3 _ _ (0,0) hb3;have e4:=AJ W3 w1.heap.size 4 _ _ (0,0) hb3;have e5:=AJ W3 w1.heap.size 5 _ _ (0,0) hb3;simp at e0 e1 e2 e3 e4 e5;clear hm1 hU3 hg3 hnw hf3a hJ3;gi_wp2;refine⟨fun h=>(by cases h),hR.mono ?_⟩;rintro e W4 (⟨rfl,hJ4,hk4⟩|⟨rfl,hJx4⟩)
       ·have hl5:nd.kids.length≤1000000:=by
         have:=(HAR.out wr HS.out.fr).map.len i;rw[hM] at this;exact this
        have hkb:∀q,(Value.slice ka nd.kids.length kc1).ownBlock=some q→wr.heap.size≤q∧q < W3.heap.size:=fun q e=>by have:=HO1.out.lt q e;omega
        have HKB:=zz hkb;have hb4:W4.heap[w1.heap.size]? =W3.heap[w1.heap.size]? :=hk4.block _ (by omega) (fun e=>e.2 (.inr ⟨by omega,by omega⟩));have HO4:=zz (show W4.ownsRow wr.heap.size 51 1 (.slice ka nd.kids.length kc1) nd.kids.length (nd.kids.map idV) from Av HO3.out hk4 (fun q e e'=>e'.2 (.inr (hkb q e))));have d5:W4.cell? ⟨w1.heap.size,5,none⟩=some (.slice ka nd.kids.length kc1):=(World.cell?_of_block (a:=⟨w1.heap.size,5,none⟩) hb4).trans e5;have TR:=zz (QY wr.heap.size _ nd.kids W4 hl5 HO4.out);have HJ4:=zz hJ4;have HK4:=zz hk4;have hz4:W3.heap.size≤W4.heap.size:=hk4.size;clear hy hR hJ4 hk4 e0 e1 e2 e3 e4 e5 hlk hrun3 hkb;gi_wp2_with fail;refine⟨trivial,fun h=>(by cases h),(callsIn_wide.2 TR.out).mono ?_⟩;rintro e W5 ⟨rfl,ho5,hf5⟩;have hb5:W5.heap[w1.heap.size]? =W4.heap[w1.heap.size]? :=hf5.block _ (by omega) (fun e=>by have:=HO1.out.lt _ e;omega);have c5:W5.cell? ⟨w1.heap.size,5,none⟩=some (.slice ka nd.kids.length kc1):=(World.cell?_of_block (a:=⟨w1.heap.size,5,none⟩) hb5).trans d5;have HROW:=zz (HS.out.row HF3.out HK4.out HKB.out hf5);have HF5:=zz hf5;have HO5:=zz ho5;have hz5:W4.heap.size≤W5.heap.size:=hf5.size;have hn5:n₀≤W5.heap.size:=by have:=HS.out.z ib HS.out.zi.1;omega
        clear hf5 ho5 hb5 hb4 d5 TR
        gi_wp2_with (gi_at_builtin;refine Jg _ rfl (.tmp 49) (.tmp 51) _ rfl n₀ 51 j0 _ 8 Tryz.underlying52 hj hj0 hj1 hj2 rfl _ s.length (s.reverse.map idV) rfl HROW.out W5.heap.size _ nd.kids.length (nd.kids.reverse.map idV) rfl (Sl.Aj HO5.out) ?_ (FM _) ?_ ?_ ?_ ?_)
        ·simp
        ·unfold maxLen;omega
        ·omega
        ·exact hn5
        intro v6 W6 own6 g6 at6;rw[←List.map_reverse,←List.map_reverse] at own6;obtain⟨Z6,rest6,hS6⟩:=HS.out.next HJ.out hM hi (HK.out i nd hM) ⟨i,nd,ka,kc1⟩ rfl HF3.out HU3.out HJ4.out HK4.out HKB.out HF5.out own6 g6 at6;have HS6:=zz hS6;clear own6 g6 at6 hS6;gi_wp2;go_roundw
        case rel=>exact⟨_,rfl,f,_,_,_,_,_,HS6.out⟩
        case measure=>
         rw[HF0.out];refine Nat.lt_succ_of_le (Hg.Ic ?_);exact⟨_,_,_,_,_,HS6.out⟩
       ·gi_wp2
        refine bodyPost_ret (results_none rfl _ _ _) rfl ?_;exact⟨⟨_,rfl⟩,.inr ⟨_,hpre,hJx4⟩⟩
end Go.Proofs.YthihjcannjhonaaGreatDoor
namespace Hg
def isK(M:Nat→Option Node)(kind:Nat)(k:Nat):Bool:=match M k with|some n=>n.kind==kind|none=>false
def ndAt(M:Nat→Option Node)(id:Nat):Node:=(M id).getD Node.zero
def Bl(M:Nat→Option Node)(id kind:Nat):List Nat:=(ndAt M id).kids.filter (isK M kind)
end Hg
namespace Go.Proofs.YthihjcannjhonaaGreatDoor
open Go.RowKit
open Hg (GT gl wk isK ndAt Bl)
theorem J2(ab id:Nat)(w:World):Calls Tryz.prog 83 #[.pointer (some ⟨ab,0,none⟩),idV id] w fun e w'=>e= .returned (.func (.func 135) #[] #[.pointer (some ⟨w.heap.size+1,0,none⟩),.pointer (some ⟨w.heap.size,0,none⟩)])∧w'=(w.alloc (.cells #[.pointer (some ⟨ab,0,none⟩)] 25)).alloc (.cells #[idV id] 51):=by
 go_enter Tryz.func83,Tryz.ntmps83;go_wp2;go_ret;exact⟨rfl,rfl⟩
theorem IP(ab:Nat)(w:World):Calls Tryz.prog 84 #[.pointer (some ⟨ab,0,none⟩)] w fun e w'=>e= .returned (idV 1)∧w'=w:=by
 go_enter Tryz.func84,Tryz.ntmps84;go_wp2;go_ret;exact⟨rfl,rfl⟩
theorem Nn{w1:World}(nd:Hg.Node)(ka:Option Addr)(kc:Nat):∀i,((w1.alloc (.cells #[.int .u8 (nd.kind:Int),strV nd.name,.int .i64 nd.num,.int .u8 (nd.type:Int),.int .u64 (nd.ref:Int),.slice ka nd.kids.length kc] 54)).cell? ⟨w1.heap.size,i,none⟩)=(#[.int .u8 (nd.kind:Int),strV nd.name,.int .i64 nd.num,.int .u8 (nd.type:Int),.int .u64 (nd.ref:Int),.slice ka nd.kids.length kc]:Array Value)[i]? :=fun i=>AJ _ w1.heap.size i _ _ (0,0) (Ac w1 _)
theorem Q3(ab mb c:Nat)(M:Nat→Option Hg.Node)(x kind b1 b2:Nat)(w:World)(hA:ArAt w ab mb c M)(h1:w.cell? ⟨b1,0,none⟩=some (.pointer (some ⟨ab,0,none⟩)))(h2:w.cell? ⟨b2,0,none⟩=some (.int .u8 (kind:Int)))(hb2:b2 < w.heap.size)(hx:x < Ai):
 Calls Tryz.prog 101 #[idV x,.pointer (some ⟨b1,0,none⟩),.pointer (some ⟨b2,0,none⟩)] w fun e w'=>e= .returned (.bool (!isK M kind x))∧Below w.heap.size w w':=by
 have hget:∀o,M x=o→Calls Tryz.prog 43 #[.pointer (some ⟨ab,0,none⟩),.int .u64 (x:Int)] w (H5 w o):=fun o h=>h ▸ Na ab mb c M x w hA hx;unfold isK;cases hM:M x with
 |none=>
   have TG:=zz (hget none hM);clear hget hA;go_enter Tryz.func101,Tryz.ntmps101;go_wp2_with fail;refine TG.out.mono ?_;rintro e w1 ⟨ka,kc,rfl,ho1,hb1⟩;have HB:=zz hb1;clear ho1 hb1 TG;go_wp2;go_ret;exact⟨rfl,HB.out.alloc HB.out.size _⟩
 |some nd=>
   have TG:=zz (hget (some nd) hM);clear hget hA;go_enter Tryz.func101,Tryz.ntmps101;go_wp2_with fail;refine TG.out.mono ?_;rintro e w1 ⟨ka,kc,rfl,ho1,hb1⟩;have HB:=zz hb1;have d2:w1.cell? ⟨b2,0,none⟩=some (.int .u8 (kind:Int)):=(hb1.cell hb2).trans h2;have hb3:b2 < w1.heap.size:=Ad hb2 hb1.size;have hq:((nd.kind:Int) !=(kind:Int))= !(nd.kind==kind):=by
    by_cases e:nd.kind=kind
    ·subst e;simp
    ·have h1:(nd.kind==kind)=false:=by simpa using e
     have h2:((nd.kind:Int) !=(kind:Int))=true:=by simp;omega
     rw[h1,h2];rfl
   clear ho1 hb1 TG;go_wp2;go_ret;refine⟨?_,HB.out.alloc HB.out.size _⟩
   first|rfl|(simp[hq];done)|(rw[hq])
theorem W9(ab mb c:Nat)(M:Nat→Option Hg.Node)(kind b1 b2:Nat)(v:Value)(xs:List Nat)(B:Nat)(w:World)(hA:ArAt w ab mb c M)(h1:w.cell? ⟨b1,0,none⟩=some (.pointer (some ⟨ab,0,none⟩)))(h2:w.cell? ⟨b2,0,none⟩=some (.int .u8 (kind:Int)))(hb1:b1 < w.heap.size)(hb2:b2 < w.heap.size)(hx:∀x∈xs,x < Ai)
 (hs:Sl w w.heap.size v xs.length (xs.map idV)) (hl:xs.length≤1000000):
 Calls Tryz.prog 151 #[v,.func (.func 101) #[] #[.pointer (some ⟨b1,0,none⟩),.pointer (some ⟨b2,0,none⟩)]] w fun e w'=>(∃r:Int,e= .returned (.int .i64 r)∧((r= -1∧∀x∈xs,isK M kind x=true)∨∃i:Nat,r=(i:Int)∧∃x,xs[i]? =some x∧isK M kind x=false∧∀j y,j < i→xs[j]? =some y→isK M kind y=true))∧Below w.heap.size w w':=by
 have HS:=zz hs;have HA:=zz hA;obtain⟨a,cc,rfl⟩:=hs.form;have HC:=zz (And.intro h1 h2);have HX:=zz hx;clear hs hA h1 h2 hx;go_enter Tryz.func151,Tryz.ntmps151;go_wp2
 go_loopw [8] (fun p wr=>∃k:Nat,p= .int .i64 (k:Int)∧k≤xs.length∧Below w.heap.size w wr∧∀j y,j < k→xs[j]? =some y→isK M kind y=true) (fun p wr=>xs.length-(intOf p).toNat)
 case atStart=>exact⟨0,rfl,Nat.zero_le _,AP,fun j y hj=>by omega⟩
 case round=>
  obtain⟨k,rfl,hk,hb,hno⟩:=hrel;have HN:=zz hno;have HB:=zz hb;clear hno hb;by_cases hlt:k < xs.length
  ·obtain⟨b,o,rfl,_,kc⟩:=(HS.out.below HB.out AA).mapAt hlt
   have hm:xs[k]∈xs:=List.getElem_mem hlt;have TI:=zz (Q3 ab mb c M xs[k] kind b1 b2 wr (HA.out.below HB.out AA) ((HB.out.cell hb1).trans HC.out.1) ((HB.out.cell hb2).trans HC.out.2) (Ad hb2 HB.out.size) (HX.out _ hm));have hy:=Aa hlt;generalize xs[k]=y at kc TI hy;have HY:=zz hy;clear hm hy;cases hp:isK M kind y with
   |false=>
     rw[hp] at TI;have HP:=zz hp;clear hp;go_wp2_with fail;refine TI.out.mono ?_;rintro e w1 ⟨rfl,hb9⟩;have HB1:=zz (HB.out.trans (hb9.mono HB.out.size));clear TI hb9;go_wp2;go_ret;exact⟨⟨(k:Int),rfl,.inr ⟨k,rfl,y,HY.out,HP.out,HN.out⟩⟩,HB1.out⟩
   |true=>
     rw[hp] at TI;have HP:=zz hp;clear hp;go_wp2_with fail;refine TI.out.mono ?_;rintro e w1 ⟨rfl,hb9⟩;have HB1:=zz (HB.out.trans (hb9.mono HB.out.size));clear TI hb9;go_wp2;go_roundw
     case rel=>exact⟨k+1,by go_num,by omega,HB1.out,fun j z hj hz=>by
      by_cases e:j=k
      ·subst e;rw[HY.out] at hz;injection hz with hz;rw[←hz];exact HP.out
      ·exact HN.out j z (by omega) hz⟩
     case measure=>simp[intOf];omega
  ·obtain rfl:k=xs.length:=by omega
   go_wp2;go_ret;refine⟨⟨-1,rfl,.inl ⟨rfl,fun x hx=> ?_⟩⟩,HB.out⟩;obtain⟨j,hj,he⟩:=List.mem_iff_getElem.1 hx;exact HN.out j x hj (by rw[Aa hj,he])
theorem KI{w:World}{base:Nat}{e:TypeId}{g n cap m:Nat}{xs:List Value}(h:w.ownsRow base e 1 (.slice (some ⟨g,0,none⟩) n cap) n xs)(hm:m≤n):w.ownsRow base e 1 (.slice (some ⟨g,0,none⟩) m cap) m (xs.take m):=by
 obtain⟨h1,h2⟩:=h;refine⟨by simp;omega, ?_⟩;rcases h2 with⟨h2,_⟩|⟨g',cap',cur,hv,hg,hh,hc1,hc2,hc3,ht⟩
 ·cases h2
 ·injection hv with e1 e2 e3
  injection e1 with e1;injection e1 with e1;subst e1;subst e3;refine .inr ⟨g,cap,cur,rfl,hg,hh,by omega,hc2,hc3, ?_⟩;rw[←ht,List.take_take]
  congr 1
  omega
theorem Gc{base:Nat}{e:TypeId}{g n cap:Nat}{xs:List Value}:∀(vs:List Value) (o:Nat) (w:World),w.ownsRow base e 1 (.slice (some ⟨g,0,none⟩) n cap) n xs→n≤o→(w.setCells g o vs).ownsRow base e 1 (.slice (some ⟨g,0,none⟩) n cap) n xs∧Fr (fun q=>q=g) w (w.setCells g o vs)
 |[],_,w,h,_=>⟨h,Fr.refl _ _⟩
 |v::vs,o,w,h,ho=>by
   have h1:=(h.stored o v).1;rw[List.set_eq_of_length_le (by have:=h.1;simp at this;omega)] at h1;obtain⟨a,b⟩:=Gc vs (o+1) (w.setCell ⟨g,o,none⟩ v) h1 (by omega);exact⟨a,((Fr.refl (fun q=>q=g) w).set (p:=⟨g,o,none⟩) (.inl rfl) v).trans b⟩
structure ME (p:Nat→Bool) (xs:List Nat) (i j:Nat) (ys:List Nat):Prop where
 len:ys.length=xs.length
 lt:i < j
 le:j≤xs.length
 kept:ys.take i=(xs.take j).filter p
 rest:ys.drop j=xs.drop j
theorem ME.skip{p:Nat→Bool}{xs ys:List Nat}{i j x:Nat}(h:ME p xs i j ys)(hx:xs[j]? =some x)(hp:p x=false):ME p xs i (j+1) ys:=by
 have hj:j < xs.length:=(Ah.1 hx).1;refine⟨h.len,by have:=h.lt;omega,by omega, ?_, ?_⟩
 ·rw[h.kept,List.take_succ,hx,List.filter_append]
  simp[hp]
 ·rw[←List.drop_drop,h.rest,List.drop_drop]
theorem ME.keep{p:Nat→Bool}{xs ys:List Nat}{i j x:Nat}(h:ME p xs i j ys)(hx:xs[j]? =some x)(hp:p x=true):ME p xs (i+1) (j+1) (ys.set i x):=by
 have hj:j < xs.length:=(Ah.1 hx).1;have hij:=h.lt;refine⟨by simp[h.len],by omega,by omega, ?_, ?_⟩
 ·rw[List.take_succ,List.take_set_of_le AA,h.kept,List.take_succ,hx,List.filter_append]
  rw[List.getElem?_set_self (by rw[h.len];omega)]
  simp[hp]
 ·rw[List.drop_set_of_lt (by omega),←List.drop_drop,h.rest,List.drop_drop]
theorem XP(ab mb c:Nat)(M:Nat→Option Hg.Node)(kind b1 b2:Nat)(v:Value)(xs:List Nat)(B:Nat)(w:World)(hA:∀W,Fr (fun q=>v.ownBlock=some q) w W→ArAt W ab mb c M)(h1:w.cell? ⟨b1,0,none⟩=some (.pointer (some ⟨ab,0,none⟩)))(h2:w.cell? ⟨b2,0,none⟩=some (.int .u8 (kind:Int)))(hb1:b1 < w.heap.size∧v.ownBlock≠some b1)(hb2:b2 < w.heap.size∧v.ownBlock≠some b2)(hx:∀x∈xs,x < Ai)
 (ho:w.ownsRow B 51 1 v xs.length (xs.map idV)) (hl:xs.length≤1000000):
 Calls Tryz.prog 100 #[v,.func (.func 101) #[] #[.pointer (some ⟨b1,0,none⟩),.pointer (some ⟨b2,0,none⟩)]] w fun e w'=>(∃v',e= .returned v'∧w'.ownsRow B 51 1 v' (xs.filter (isK M kind)).length ((xs.filter (isK M kind)).map idV))∧Fr (fun q=>v.ownBlock=some q) w w':=by
 have hv0:∀W:World,(zeroValue 51).run Tryz.prog W= .ok (.int .u64 0) W:=fun W=>by kernel_rfl
 have T1:=zz (W9 ab mb c M kind b1 b2 v xs B w (hA w (Fr.refl _ _)) h1 h2 hb1.1 hb2.1 hx (Sl.Aj ho) hl);obtain⟨a,cc,rfl⟩:=(Sl.Aj ho).form;have HO:=zz ho;have HA:=zz hA;have HC:=zz (And.intro h1 (And.intro h2 (And.intro hb1 hb2)));have HX:=zz hx;clear ho hA h1 h2 hx hb1 hb2;go_enter Tryz.func100,Tryz.ntmps100;go_wp2_with fail;refine T1.out.mono ?_;rintro e w1 ⟨⟨r,rfl,hr⟩,hbw⟩;have hf1:Fr (fun q=>(Value.slice a xs.length cc).ownBlock=some q) w w1:=Fr.of_below hbw;have HO1:=zz (show w1.ownsRow B 51 1 (.slice a xs.length cc) xs.length (xs.map idV) from Av HO.out (Fr.of_below (D:=fun _=>False) hbw) (fun _ _ e=>e));have HF1:=zz hf1;clear T1 hbw hf1;rcases hr with⟨rfl,hall⟩|⟨i0,rfl,x0,hx0,hp0,hbef⟩
 ·have hfil:xs.filter (isK M kind)=xs:=List.filter_eq_self.2 hall
  clear hall;go_wp2;go_ret;rw[hfil];exact⟨⟨_,rfl,HO1.out⟩,HF1.out⟩
 ·have hi0:i0 < xs.length:=(Ah.1 hx0).1
  obtain⟨g,rfl⟩:∃g,a=some ⟨g,0,none⟩:=by
   rcases HO.out.2 with⟨_,h⟩|⟨g,cap,cur,hv,_⟩
   ·omega
   ·injection hv with h1 h2 h3;exact⟨g,h1⟩
  have hst0:ME (isK M kind) xs i0 (i0+1) xs:=by
   refine⟨rfl,by omega,by omega, ?_,rfl⟩;rw[List.take_succ,hx0,List.filter_append];have h1:(xs.take i0).filter (isK M kind)=xs.take i0:=List.filter_eq_self.2 (fun y hy=>by
    obtain⟨k,hk,e⟩:=List.mem_iff_getElem.1 hy;rw[List.length_take] at hk;rw[List.getElem_take] at e;exact hbef k y (by omega) (by rw[Aa (by omega),e]))
   rw[h1]
   simp[hp0]
  have HST:=zz hst0;have hq:((i0:Int)== -1)=false:=by simp
  have hwi:IntKind.i64.wrap ((i0:Int)+1)=((i0+1:Nat):Int):=by rw[IntWalk.i64_in _ (by omega)];push_cast;rfl
  have hcap:xs.length≤cc:=(by obtain⟨c9,e,h,_⟩:=IR HO.out rfl;injection e with _ _ e;omega);clear hst0 hbef hp0 hx0;go_wp2
  go_loopw [5,6] (fun p q wr=>∃(i j:Nat) (ys:List Nat),p= .int .i64 (i:Int)∧q= .int .i64 (j:Int)∧ME (isK M kind) xs i j ys∧wr.ownsRow B 51 1 (.slice (some ⟨g,0,none⟩) xs.length cc) xs.length (ys.map idV)∧Fr (fun q=>(Value.slice (some ⟨g,0,none⟩) xs.length cc).ownBlock=some q) w wr) (fun _ q wr=>xs.length-(intOf q).toNat)
  case atStart=>exact⟨i0,i0+1,xs,rfl,by first|rfl|go_num,HST.out,HO1.out,HF1.out⟩
  case round=>
   obtain⟨i,j,ys,rfl,rfl,hD,ho,hf⟩:=hrel;have hij:=hD.lt;have hjl:=hD.le;by_cases hlt:j < xs.length
   ·obtain⟨x,hxj⟩:∃x,xs[j]? =some x:=⟨_,Aa hlt⟩
    have hyj:ys[j]? =some x:=by
     have h:=congrArg (fun l=>l[0]?) hD.rest;simpa[hxj] using h
    have cj:wr.cell? ⟨g,j,none⟩=some (idV x):=by rw[ho.cellAt j (by omega)];simp[hyj]
    have fz:∀k,wr.frozen? ⟨g,k,none⟩=false:=ho.frozenAt;have hxx:x∈xs:=List.mem_of_getElem? hxj;have TI:=zz (Q3 ab mb c M x kind b1 b2 wr (HA.out wr hf) ((hf.cell (p:=⟨b1,0,none⟩) HC.out.2.2.1.1 HC.out.2.2.1.2).trans HC.out.1) ((hf.cell (p:=⟨b2,0,none⟩) HC.out.2.2.2.1 HC.out.2.2.2.2).trans HC.out.2.1) (Ad HC.out.2.2.2.1 hf.size) (HX.out x hxx));have HD:=zz hD;have HOw:=zz ho;have HFw:=zz hf;have HXJ:=zz hxj;have hwj:IntKind.i64.wrap ((j:Int)+1)=(j:Int)+1:=IntWalk.i64_in _ (by omega);have hwi:IntKind.i64.wrap ((i:Int)+1)=(i:Int)+1:=IntWalk.i64_in _ (by omega);have hil:i < xs.length:=by omega
    have ci:∃u,wr.cell? ⟨g,i,none⟩=some u:=by
     have:i < ys.length:=by rw[hD.len];omega
     exact⟨idV ys[i],by rw[ho.cellAt i (by omega)];simp[this]⟩
    have CI:=zz ci;clear hD ho hf hyj hxj hxx ci;cases hp:isK M kind x with
    |false=>
      rw[hp] at TI;have HP:=zz hp;clear hp;go_wp2_with fail;refine TI.out.mono ?_;rintro e w2 ⟨rfl,hb9⟩;have HF2:=zz (HFw.out.trans (Fr.of_below hb9));have HO2:=zz (Av HOw.out (Fr.of_below (D:=fun _=>False) hb9) (fun _ _ e=>e));clear TI hb9;go_wp2;go_roundw
      case rel=>exact⟨i,j+1,ys,rfl,by go_num,HD.out.skip HXJ.out HP.out,HO2.out,HF2.out⟩
      case measure=>simp[intOf];omega
    |true=>
      rw[hp] at TI;have HP:=zz hp;clear hp;go_wp2_with fail;refine TI.out.mono ?_;rintro e w2 ⟨rfl,hb9⟩;have HF2:=zz ((HFw.out.trans (Fr.of_below hb9)).set (p:=⟨g,i,none⟩) (.inl rfl) (idV x));have ho2:=Av HOw.out (Fr.of_below (D:=fun _=>False) hb9) (fun _ _ e=>e);have HO2:=zz (show(w2.setCell ⟨g,i,none⟩ (idV x)).ownsRow B 51 1 (.slice (some ⟨g,0,none⟩) xs.length cc) xs.length ((ys.set i x).map idV) from by rw[List.map_set];exact(ho2.stored i (idV x)).1);have fz2:∀k,w2.frozen? ⟨g,k,none⟩=false:=ho2.frozenAt;obtain⟨u,ci2⟩:∃u,w2.cell? ⟨g,i,none⟩=some u:=by
       obtain⟨u,hu⟩:=CI.out;have hgl:g < wr.heap.size:=(HOw.out.lt g rfl).2;exact⟨u,(hb9.cell (p:=⟨g,i,none⟩) hgl).trans hu⟩
      clear TI hb9 ho2 fz cj;go_wp2;go_roundw
      case rel=>exact⟨i+1,j+1,ys.set i x,by go_num,by go_num,HD.out.keep HXJ.out HP.out,HO2.out,HF2.out⟩
      case measure=>simp[intOf];omega
   ·obtain rfl:j=xs.length:=by omega
    have hkept:=hD.kept;rw[List.take_length] at hkept;have hlenk:(xs.filter (isK M kind)).length=i:=by rw[←hkept,List.length_take,hD.len];omega
    have hcl:∀ty,(Builtin.clear_ #[52] ty #[.slice (some ⟨g,i,none⟩) (xs.length-i) (cc-i)]).run Tryz.prog wr= .ok (.tuple #[]) (wr.setCells g i (List.replicate (xs.length-i) (.int .u64 0))):=fun ty=>
     Lib.run_clear_slice wr _ _ ty _ Tryz.underlying52 hv0 rfl rfl g i _ _ (by omega) (fun k hk=>by
      have:i+k < ys.length:=by rw[hD.len];omega
      rw[ho.cellAt (i+k) (by omega)];simp[this]) (fun k hk=>ho.frozenAt (i+k))
    have hfin:=Gc (List.replicate (xs.length-i) (.int .u64 0)) i wr (KI ho (show i≤xs.length by omega)) AA;have HFIN:=zz (show(wr.setCells g i (List.replicate (xs.length-i) (.int .u64 0))).ownsRow B 51 1 (.slice (some ⟨g,0,none⟩) i cc) (xs.filter (isK M kind)).length ((xs.filter (isK M kind)).map idV) from by
     have:=hfin.1;rw[←List.map_take,hkept] at this;rw[hlenk];exact this)
    have HFF:=zz (hf.trans (hfin.2.imp (D':=fun q=>(Value.slice (some ⟨g,0,none⟩) xs.length cc).ownBlock=some q) (fun q _ e=>by subst e;rfl)));have hil:i≤xs.length:=by omega
    have hic:i≤cc:=by omega
    clear hD ho hf hkept hfin hlenk;go_wp2;go_ret;exact⟨⟨_,rfl,HFIN.out⟩,HFF.out⟩
end Go.Proofs.YthihjcannjhonaaGreatDoor
namespace Hg
def Bq(M:Nat→Option Node):List Nat:=Bl M 1 2
def BI(M:Nat→Option Node)(m:Nat):List Nat:=Bl M m 3
def KB(M:Nat→Option Node):Prop:=∀i nd,M i=some nd→∀k∈nd.kids,k < 18446744073709551616
theorem KB.at{M:Nat→Option Node}(h:KB M)(id:Nat):∀k∈(ndAt M id).kids,k < 18446744073709551616:=by
 intro k hk;unfold ndAt at hk;cases hM:M id with
 |none=>rw[hM] at hk;simp[Node.zero] at hk
 |some nd=>rw[hM] at hk;exact h id nd hM k hk
theorem KB.kids{M:Nat→Option Node}(h:KB M)(id kind:Nat):∀k∈Bl M id kind,k < 18446744073709551616:=fun k hk=>h.at id k (List.mem_filter.1 hk).1
end Hg
namespace Go.Proofs.YthihjcannjhonaaGreatDoor
open Go.RowKit
open Hg (GT gl wk isK ndAt Bl Bq BI KB)
theorem Fr.below'{n:Nat}{w w':World}(h:Fr (fun q=>n≤q) w w')(hn:n≤w.heap.size):Below n w w':=⟨h.os,h.tape,h.output,h.size,fun i hi=>h.block i (by omega) (by omega)⟩
def ArOk(w:World)(ab:Nat)(M:Nat→Option Hg.Node):Prop:=(∃mb c,ArAt w ab mb c M)∧KB M
theorem ArOk.below{w w':World}{ab:Nat}{M:Nat→Option Hg.Node}(h:ArOk w ab M)(hb:Below w.heap.size w w'):ArOk w' ab M:=by
 obtain⟨⟨mb,c,hA⟩,hk⟩:=h;exact⟨⟨mb,c,hA.below hb AA⟩,hk⟩
theorem ArOk.fr{w w':World}{ab:Nat}{M:Nat→Option Hg.Node}(h:ArOk w ab M)(hb:Fr (fun q=>w.heap.size≤q) w w'):ArOk w' ab M:=h.below (hb.below (fun q h1 h2=>by omega))
theorem ArOk.len{w:World}{ab:Nat}{M:Nat→Option Hg.Node}(h:ArOk w ab M)(id:Nat):(ndAt M id).kids.length≤1000000:=by
 obtain⟨⟨mb,c,hA⟩,_⟩:=h;exact hA.map.len id
theorem ArOk.lenK{w:World}{ab:Nat}{M:Nat→Option Hg.Node}(h:ArOk w ab M)(id kind:Nat):(Bl M id kind).length≤1000000:=by
 have h1:=h.len id;have h2:(Bl M id kind).length≤(ndAt M id).kids.length:=List.length_filter_le _ _;omega
theorem ArOk.lt{w:World}{ab:Nat}{M:Nat→Option Hg.Node}(h:ArOk w ab M):ab < w.heap.size:=by
 obtain⟨⟨mb,c,hA⟩,_⟩:=h;exact hA.lt
theorem ArOk.get{w:World}{ab:Nat}{M:Nat→Option Hg.Node}(h:ArOk w ab M){id:Nat}(hid:id < Ai):Calls Tryz.prog 43 #[.pointer (some ⟨ab,0,none⟩),.int .u64 (id:Int)] w (H5 w (M id)):=by
 obtain⟨⟨mb,c,hA⟩,_⟩:=h;exact Na ab mb c M id w hA hid
def Zg(w:World)(M:Nat→Option Hg.Node)(id:Nat)(e:Ending)(w':World):Prop:=
 ∃ka kc,e= .returned (.tuple #[ndV (ndAt M id) ka kc,.bool (M id).isSome])∧w'.ownsRow w.heap.size 51 1 (.slice ka (ndAt M id).kids.length kc) (ndAt M id).kids.length ((ndAt M id).kids.map idV)∧Below w.heap.size w w'
theorem ArOk.getN{w:World}{ab:Nat}{M:Nat→Option Hg.Node}(h:ArOk w ab M){id:Nat}(hid:id < Ai):Calls Tryz.prog 43 #[.pointer (some ⟨ab,0,none⟩),.int .u64 (id:Int)] w (Zg w M id):=(h.get hid).mono (fun _ _ h=>h)
def Pp(w:World)(xs:List Nat)(e:Ending)(w':World):Prop:=(∃v,e= .returned v∧w'.ownsRow w.heap.size 51 1 v xs.length (xs.map idV))∧Below w.heap.size w w'
theorem KQ(ab:Nat)(M:Nat→Option Hg.Node)(id kind:Nat)(w:World)(hA:ArOk w ab M)(hid:id < Ai):
 Calls Tryz.prog 44 #[.pointer (some ⟨ab,0,none⟩),idV id,.int .u8 (kind:Int)] w (Pp w (Bl M id kind)):=by
 have hba:Below w.heap.size w ((w.alloc (.cells #[.pointer (some ⟨ab,0,none⟩)] 25)).alloc (.cells #[.int .u8 (kind:Int)] 5)):=((AP).alloc AA _).alloc (by simp) _;have TG:=zz ((hA.below hba).getN hid);have HA:=zz hA;have HBA:=zz hba;have hxs:=hA.2.at id;have hln:=hA.len id;have hc1:∀W:World,Below (w.heap.size+2) ((w.alloc (.cells #[.pointer (some ⟨ab,0,none⟩)] 25)).alloc (.cells #[.int .u8 (kind:Int)] 5)) W→W.cell? ⟨w.heap.size,0,none⟩=some (.pointer (some ⟨ab,0,none⟩))∧W.cell? ⟨w.heap.size+1,0,none⟩=some (.int .u8 (kind:Int)):=fun W hW=>by
  have h2:=Ac (w.alloc (.cells #[.pointer (some ⟨ab,0,none⟩)] 25)) (.cells #[.int .u8 (kind:Int)] 5);rw[show(w.alloc (.cells #[.pointer (some ⟨ab,0,none⟩)] 25)).heap.size=w.heap.size+1 by simp] at h2;have h1:((w.alloc (.cells #[.pointer (some ⟨ab,0,none⟩)] 25)).alloc (.cells #[.int .u8 (kind:Int)] 5)).heap[w.heap.size]? =_:=(heap_alloc_old _ _ (by simp)).trans (Ac w (.cells #[.pointer (some ⟨ab,0,none⟩)] 25));exact⟨AJ W w.heap.size 0 _ _ (0,0) ((hW.block _ (by omega)).trans h1),AJ W (w.heap.size+1) 0 _ _ (0,0) ((hW.block _ (by omega)).trans h2)⟩
 have HC1:=zz hc1;clear hA hba hc1;go_enter Tryz.func44,Tryz.ntmps44;go_wp2_with fail;refine TG.out.mono ?_;rintro e w1 ⟨ka,kc,rfl,ho1,hb1⟩;have hz1:w.heap.size+2≤w1.heap.size:=by have:=hb1.size;simpa using this
 have hz0:((w.alloc (.cells #[.pointer (some ⟨ab,0,none⟩)] 25)).alloc (.cells #[.int .u8 (kind:Int)] 5)).heap.size=w.heap.size+2:=by simp
 have hbn:=Nn (w1:=w1) (ndAt M id) ka kc;have ho2:=ho1.alloc (.cells #[.int .u8 ((ndAt M id).kind:Int),strV (ndAt M id).name,.int .i64 (ndAt M id).num,.int .u8 ((ndAt M id).type:Int),.int .u64 ((ndAt M id).ref:Int),.slice ka (ndAt M id).kids.length kc] 54);have hb2:=hb1.alloc hb1.size (.cells #[.int .u8 ((ndAt M id).kind:Int),strV (ndAt M id).name,.int .i64 (ndAt M id).num,.int .u8 ((ndAt M id).type:Int),.int .u64 ((ndAt M id).ref:Int),.slice ka (ndAt M id).kids.length kc] 54);rw[hz0] at ho2 hb2;have hbw:Below w.heap.size w (w1.alloc (.cells #[.int .u8 ((ndAt M id).kind:Int),strV (ndAt M id).name,.int .i64 (ndAt M id).num,.int .u8 ((ndAt M id).type:Int),.int .u64 ((ndAt M id).ref:Int),.slice ka (ndAt M id).kids.length kc] 54)):=HBA.out.trans (hb2.mono (by omega));have c5:=hbn 5;simp at c5;have hql:=ho2.lt;obtain⟨hcc1,hcc2⟩:=HC1.out _ hb2;have hz2:(w1.alloc (.cells #[.int .u8 ((ndAt M id).kind:Int),strV (ndAt M id).name,.int .i64 (ndAt M id).num,.int .u8 ((ndAt M id).type:Int),.int .u64 ((ndAt M id).ref:Int),.slice ka (ndAt M id).kids.length kc] 54)).heap.size=w1.heap.size+1:=by simp
 obtain⟨⟨mb,cc,hAr⟩,hkb⟩:=HA.out;have TD:=XP ab mb cc M kind w.heap.size (w.heap.size+1) (.slice ka (ndAt M id).kids.length kc) (ndAt M id).kids w.heap.size _ (fun W hf=>hAr.below (hbw.trans ((hf.imp (D':=fun q=>w.heap.size≤q) (fun q _ e=>by have:=(hql _ e).1;omega)).below' hbw.size)) AA) hcc1 hcc2 ⟨by omega,fun e=>by have:=(hql _ e).1;omega⟩ ⟨by omega,fun e=>by have:=(hql _ e).1;omega⟩ hxs (Cw ho2 (by omega)) hln;have TD2:=zz TD;have HBW:=zz hbw;have HQL:=zz hql;clear ho1 hb1 ho2 hb2 hbw hql TD hbn hcc1 hcc2 TG hAr hkb;go_wp2_with fail;refine TD2.out.mono ?_;rintro e w3 ⟨⟨v,rfl,ho3⟩,hf3⟩;have HO3:=zz ho3;have HB3:=zz (HBW.out.trans ((hf3.imp (D':=fun q=>w.heap.size≤q) (fun q _ e=>by have:=(HQL.out _ e).1;omega)).below' HBW.out.size));clear TD2 ho3 hf3;go_wp2;go_ret;exact⟨⟨v,rfl,HO3.out⟩,HB3.out⟩
end Go.Proofs.YthihjcannjhonaaGreatDoor
namespace Go.Proofs.YthihjcannjhonaaGreatDoor
open Go.RowKit
open Hg (KB)
abbrev i64V(n:Int):Value:= .int .i64 n
def FrAt(w:World)(fb n:Nat)(V:Nat→Int):Prop:=∃D,w.ownsMap Tryz.prog 51 rawR fb n D∧Maps.IsMap D∧∀k,k < Ai→D.atKey (idL k) (.held (i64V 0))= .held (i64V (V k))
theorem FrAt.made(w:World):FrAt (w.alloc (.map #[] 0)) w.heap.size 0 (fun _=>0):=⟨.map [],World.ownsMap_made w _ _ _,⟨[],rfl⟩,fun _ _=>rfl⟩
theorem FrAt.lt{w:World}{b n:Nat}{V:Nat→Int}(h:FrAt w b n V):b < w.heap.size:=by
 obtain⟨D,ho,_⟩:=h;exact ho.lt
theorem FrAt.obj{w:World}{b n:Nat}{V:Nat→Int}(h:FrAt w b n V):∃es ck,w.heap[b]? =some (.map es ck):=by
 obtain⟨D,ho,_⟩:=h;exact IQ ho
theorem FrAt.look{w:World}{b n:Nat}{V:Nat→Int}(h:FrAt w b n V){k:Nat}(hk:k < Ai):(Instr.lookup 103 (.map (some b)) (.int .u64 (k:Int)) false).run Tryz.prog w= .ok (i64V (V k)) w:=by
 obtain⟨D,ho,_,hs⟩:=h;have hz:(zeroValue 2).run Tryz.prog w= .ok (i64V 0) w:=by kernel_rfl
 obtain⟨v,ps,hrun,hv⟩:=ho.lookup BP Tryz.underlying103 hz (zd:= .held (i64V 0)) (zp:=[]) rfl (BQ hk);rw[hs k hk] at hv;simp only[rawR,Option.some.injEq,Prod.mk.injEq] at hv;have e:v=i64V (V k):=by simpa using hv.1
 rw[hrun,e]
theorem FrAt.put{w:World}{b n:Nat}{V:Nat→Int}(h:FrAt w b n V){k:Nat}(x:Int)(hk:k < Ai)(hn:n≤1000000):
 ∃w',(Instr.mapUpdate 103 (.map (some b)) (.int .u64 (k:Int)) (i64V x)).run Tryz.prog w= .ok () w'∧FrAt w' b (n+1) (fun j=>if j=k then x else V j)∧w.grownBy w' (some b):=by
 obtain⟨D,ho,hi,hs⟩:=h;obtain⟨w',hrun,ho',hg⟩:=ho.update BP Tryz.underlying103 (by unfold maxLen;omega) (BQ hk) (val:=i64V x) (d:= .held (i64V x)) (ps:=[]) rfl;refine⟨w',hrun,⟨_,ho',Maps.IsMap.put hi _ _,fun j hj=> ?_⟩,hg⟩;dsimp only;by_cases e:j=k
 ·subst e
  rw[if_pos rfl];exact Maps.atKey_put_same hi (by trivial) _ _
 ·rw[if_neg e,Maps.atKey_put_other (NW e)]
  exact hs j hj
theorem FrAt.fr{S:Nat→Prop}{w w':World}{b n:Nat}{V:Nat→Int}(h:FrAt w b n V)(hf:Fr S w w')(hb:¬S b):FrAt w' b n V:=by
 obtain⟨D,ho,hi,hs⟩:=h;exact⟨D,NB ho hf hb,hi,hs⟩
theorem Bi.frr{D:Nat→Prop}{Z:Nat→Prop}{w w':World}{nb c:Nat}{M:Nat→Option Hg.Node}(h:Bi Z w nb c M)(hf:Fr D w w')(h2:¬D nb)(h3:∀q,Z q→¬D q):Bi Z w' nb c M:=by
 obtain⟨⟨E,hw,hc,hk⟩,hbd⟩:=h;refine⟨⟨E,NB hw hf h2,hc,fun id hid=> ?_⟩,hbd⟩;have hx:=hk id hid;cases hM:M id with
 |none=>rw[hM] at hx;exact hx
 |some nd=>
   rw[hM] at hx;obtain⟨ka,kc,g1,g2,g3⟩:=hx;exact⟨ka,kc,g1,(g2.fr AA hf (fun q e=>h3 q (g3 q e))).more hf.size,g3⟩
theorem Bi.other{Z:Nat→Prop}{w w':World}{nb fb c:Nat}{M:Nat→Option Hg.Node}{es:Array MapEntry}{ck:Nat}(h:Bi Z w nb c M)(hm:w.heap[fb]? =some (.map es ck))(hg:w.grownBy w' (some fb))(hne:nb≠fb):Bi Z w' nb c M:=by
 obtain⟨⟨E,hw,hc,hk⟩,hbd⟩:=h;refine⟨⟨E,hw.kept hg (fun e=>by injection e with e;exact hne e),hc,fun id hid=> ?_⟩,hbd⟩;have hx:=hk id hid;cases hM:M id with
 |none=>rw[hM] at hx;exact hx
 |some nd=>
   rw[hM] at hx;obtain⟨ka,kc,g1,g2,g3⟩:=hx;exact⟨ka,kc,g1,(Gz g2 AA hm hg).more hg.size,g3⟩
end Go.Proofs.YthihjcannjhonaaGreatDoor
namespace Go.Proofs.YthihjcannjhonaaGreatDoor.Rn
open Go.RowKit
open Hg (Fz FV FO FT IT KB WF)
structure QC where
 M:Nat→Option Hg.Node
 fuel:Nat
 input:List Int
 ids:List Nat
 iv:Value
def QC.nd(C:QC)(id:Nat):Hg.Node:=Hg.ndAt C.M id
def QC.burn(C:QC)(s:Fz):Bool×Fz:=
 if s.e=0 then(if C.fuel≤s.used then(false,{s with e:=2}) else(true,{s with used:=s.used+1})) else(false,s)
@[reducible] def JF(iv:Value)(ab nb fu:Nat)(s:Fz)(tv:Value):Array Value:= #[.pointer (some ⟨ab,0,none⟩),.map (some nb),iv,.int .i64 (fu:Int),.int .u8 (s.e:Int),.int .i64 0,tv,.int .i64 (s.used:Int),.int .i64 (s.rd:Int)]
structure Mach (C:QC) (X:Nat→Prop) (ab mb nb:Nat) (w0 w:World) (s:Fz) (tv:Value):Prop where
 cell:w.heap[mb]? =some (.cells (JF C.iv ab nb C.fuel s tv) 63 (0,0))
 ar:ArOk w0 ab C.M
 bel:Below w0.heap.size w0 w
 tr:w.ownsRow w0.heap.size 2 1 tv s.trace.length (s.trace.map i64V)
 nodes:∃c Mc,Bi (fun q=>q≠mb∧tv.ownBlock≠some q∧q < w.heap.size∧¬X q) w nb c Mc∧(∃ks:List Nat,ks.Nodup∧ks.length=c∧(∀k,(Mc k).isSome=true↔k∈ks)∧∀k∈ks,k∈C.ids)∧∀id n,Mc id=some n→n=C.nd id
 lo:w0.heap.size≤mb∧w0.heap.size≤nb
 tm:tv.ownBlock≠some mb
 fu:C.fuel≤50000
 us:s.used≤50000
 tl:s.trace.length≤s.used
 il:C.ids.length≤1000000
 xl:∀q,X q→q < w.heap.size
 inp:Sl w0 w0.heap.size C.iv C.input.length (C.input.map i64V)∧C.input.length≤1000000
variable {C:QC} {X:Nat→Prop} {ab mb nb fb n:Nat} {w0 w w':World} {s s':Fz} {tv tv':Value} {V:Nat→Int}
theorem Mach.nobj(h:Mach C X ab mb nb w0 w s tv):∃es ck,w.heap[nb]? =some (.map es ck):=by
 obtain⟨c,Mc,hm,_⟩:=h.nodes;obtain⟨⟨D,ho,_⟩,_⟩:=hm;exact IQ ho
theorem Mach.ne(h:Mach C X ab mb nb w0 w s tv):nb≠mb:=by
 obtain⟨es,ck,hm⟩:=h.nobj;intro e;have:=h.cell;rw[←e,hm] at this;cases this
theorem Mach.lt(h:Mach C X ab mb nb w0 w s tv):mb < w.heap.size:=(AZ.1 h.cell).1
def MD(mb nb fb:Nat)(tv:Value):Nat→Prop:=fun q=>q=mb∨q=nb∨q=fb∨tv.ownBlock=some q
def Ko(mb nb fb:Nat)(w:World)(tv:Value)(w':World)(tv':Value):Prop:=Fr (MD mb nb fb tv) w w'∧∀q,tv'.ownBlock=some q→tv.ownBlock=some q∨w.heap.size≤q
theorem Ko.refl(mb nb fb:Nat)(w:World)(tv:Value):Ko mb nb fb w tv w tv:=⟨Fr.refl _ _,fun q h=> .inl h⟩
theorem Ko.trans{w1 w2:World}{tv1 tv2:Value}(h:Ko mb nb fb w tv w1 tv1)(k:Ko mb nb fb w1 tv1 w2 tv2):Ko mb nb fb w tv w2 tv2:=by
 refine⟨h.1.Em k.1 (fun q hq e=> ?_),fun q e=> ?_⟩
 ·rcases e with e|e|e|e
  ·exact .inl e
  ·exact .inr (.inl e)
  ·exact .inr (.inr (.inl e))
  ·rcases h.2 q e with e|e
   ·exact .inr (.inr (.inr e))
   ·omega
 ·rcases k.2 q e with e|e
  ·exact h.2 q e
  ·exact .inr (AO h.1.size e)
theorem Ko.of_below{w1:World}(hb:Below w.heap.size w w1):Ko mb nb fb w tv w1 tv:=⟨(Fr.of_below hb),fun q e=> .inl e⟩
theorem Mach.below(h:Mach C X ab mb nb w0 w s tv)(hb:Below w.heap.size w w'):Mach C X ab mb nb w0 w' s tv:=by
 obtain⟨c,Mc,hm,hc,hn⟩:=h.nodes;exact⟨(hb.block mb h.lt).trans h.cell,h.ar,h.bel.trans (hb.mono h.bel.size),BK h.tr hb AA,⟨c,Mc,(hm.below hb AA).imp (fun q hz=>⟨hz.1,hz.2.1,Ad hz.2.2.1 hb.size,hz.2.2.2⟩),hc,hn⟩,h.lo,h.tm,h.fu,h.us,h.tl,h.il,fun q hq=>Ad (h.xl q hq) hb.size,h.inp⟩
theorem Mach.turn(h:Mach C X ab mb nb w0 w s tv)(hf:Fr (fun q=>q=mb) w w')(hc:w'.heap[mb]? =some (.cells (JF C.iv ab nb C.fuel s' tv) 63 (0,0)))(ht:s'.trace=s.trace)(hn:s.used≤s'.used)(hu:s'.used≤50000):Mach C X ab mb nb w0 w' s' tv:=by
 obtain⟨c,Mc,hm,hcc,hnn⟩:=h.nodes;have hne:=h.ne;refine⟨hc,h.ar,⟨hf.os.trans h.bel.os,hf.tape.trans h.bel.tape,hf.output.trans h.bel.output,AO h.bel.size hf.size,fun i hi=>(hf.block i (Ad hi h.bel.size) (fun e=>by have:=h.lo.1;omega)).trans (h.bel.block i hi)⟩, ?_,⟨c,Mc,(hm.frr hf hne (fun q hz e=>hz.1 e)).imp (fun q hz=>⟨hz.1,hz.2.1,Ad hz.2.2.1 hf.size,hz.2.2.2⟩),hcc,hnn⟩,h.lo,h.tm,h.fu,hu,by rw[ht];exact AO h.tl hn,h.il,fun q hq=>Ad (h.xl q hq) hf.size,h.inp⟩;rw[ht];exact Av h.tr hf (fun q e e'=>h.tm (e' ▸ e))
theorem Mach.put{w1:World}{x:Nat}(h:Mach C X ab mb nb w0 w s tv){c':Nat}{Mc':Nat→Option Hg.Node}(hA:Bi (fun q=>q≠mb∧tv.ownBlock≠some q∧(q < w.heap.size∧¬X q)∧q≠x) w' nb c' Mc')(hg:w.grownBy w' (some nb))(hx:w0.heap.size≤x∧x≠mb∧x≠nb∧tv.ownBlock≠some x)(hf2:Fr (fun q=>q=x) w' w1)(hc:∃ks:List Nat,ks.Nodup∧ks.length=c'∧(∀k,(Mc' k).isSome=true↔k∈ks)∧∀k∈ks,k∈C.ids)(hn:∀id n,Mc' id=some n→n=C.nd id):Mach C X ab mb nb w0 w1 s tv:=by
 obtain⟨es,ck,hm⟩:=h.nobj;have hf:Fr (fun q=>q=nb) w w':=Fr.ED hg (fun q e=>by injection e with e;exact e.symm);have hne:=h.ne;obtain⟨x1,x2,x3,x4⟩:=hx;refine⟨hf2.at_ (hf.at_ h.cell (fun e=>hne e.symm)) (fun e=>x2 e.symm),h.ar,⟨hf2.os.trans (hf.os.trans h.bel.os),hf2.tape.trans (hf.tape.trans h.bel.tape),hf2.output.trans (hf.output.trans h.bel.output),AO (AO h.bel.size hf.size) hf2.size,fun i hi=> ?_⟩,
  Av (Av h.tr hf (fun q e e'=> ?_)) hf2 (fun q e e'=>x4 (e' ▸ e)),⟨c',Mc',(hA.frr hf2 (fun e=>x3 e.symm) (fun q hz e=>hz.2.2.2 e)).imp (fun q hz=>⟨hz.1,hz.2.1,Ad hz.2.2.1.1 (AO hf.size hf2.size),hz.2.2.1.2⟩),hc,hn⟩,h.lo,h.tm,h.fu,h.us,h.tl,h.il,fun q hq=>Ad (h.xl q hq) (AO hf.size hf2.size),h.inp⟩
 ·have hl:=h.lo
  have hi2:=Ad hi h.bel.size;exact(hf2.block i (Ad hi2 hf.size) (by omega)).trans ((hf.block i hi2 (by omega)).trans (h.bel.block i hi))
 ·subst e'
  rcases Ep h.tr hm with h1|h1
  ·rw[h1] at e;cases e
  ·exact h1 e
def Keep(mb:Nat)(w:World)(tv v:Value)(n:Nat)(xs:List Value):Prop:=Sl w w.heap.size v n xs∧(0 < xs.length→∀q,v.ownBlock=some q→q≠mb∧tv.ownBlock≠some q)
theorem Keep.step{v:Value}{k:Nat}{xs:List Value}(h:Keep mb w tv v k xs)(hs:Ko mb nb fb w tv w' tv')(hN:∃es ck,w.heap[nb]? =some (.map es ck))(hF:∃es ck,w.heap[fb]? =some (.map es ck)):Keep mb w' tv' v k xs:=by
 obtain⟨⟨a,c,rfl,hc⟩,ho⟩:=h;refine⟨⟨a,c,rfl,fun hn=> ?_⟩,fun hn q hq=> ?_⟩
 ·obtain⟨b,o,rfl,hb,hx⟩:=hc hn
  have hq:=ho hn b rfl;have h0:=hx 0 hn;have hmap:∀m,(∃es ck,w.heap[m]? =some (.map es ck))→b≠m:=by
   rintro m ⟨es,ck,hm⟩ rfl
   simp[World.cell?,hm] at h0
  have h1:=hmap nb hN;have h2:=hmap fb hF;refine⟨b,o,rfl,Ad hb hs.1.size,fun j hj=> ?_⟩;refine(hs.1.cell (p:=⟨b,o+j,none⟩) hb ?_).trans (hx j hj);rintro(e|e|e|e)
  ·exact hq.1 e
  ·exact h1 e
  ·exact h2 e
  ·exact hq.2 e
 ·obtain⟨b,o,rfl,hb,hx⟩:=hc hn
  have e:b=q:=by injection hq
  subst e;have hq2:=ho hn b rfl;refine⟨hq2.1,fun e=> ?_⟩;rcases hs.2 b e with e|e
  ·exact hq2.2 e
  ·omega
theorem Keep.below{v:Value}{k:Nat}{xs:List Value}(h:Keep mb w tv v k xs)(hb:Below w.heap.size w w'):Keep mb w' tv v k xs:=⟨(h.1.below hb AA).more hb.size,h.2⟩
structure St (C:QC) (X:Nat→Prop) (ab mb nb fb:Nat) (w0 w:World) (s:Fz) (tv:Value) (V:FV):Prop where
 m:Mach C X ab mb nb w0 w s tv
 f:∃n,FrAt w fb n V∧n≤100000+s.used
 ne:fb≠nb
 lo:w0.heap.size≤fb
variable {R:FV}
theorem St.fne(h:St C X ab mb nb fb w0 w s tv R):fb≠mb:=by
 obtain⟨n,hf,_⟩:=h.f;obtain⟨es,ck,hm⟩:=hf.obj;intro e;have:=h.m.cell;rw[←e,hm] at this;cases this
theorem St.below(h:St C X ab mb nb fb w0 w s tv R)(hb:Below w.heap.size w w'):St C X ab mb nb fb w0 w' s tv R:=
 ⟨h.m.below hb,h.f.imp fun _ hf=>⟨hf.1.fr (Fr.of_below hb:Fr (fun _=>False) w w') (fun e=>e),hf.2⟩,h.ne,h.lo⟩
theorem St.node(h:St C X ab mb nb fb w0 w s tv R)(hm:Mach C X ab mb nb w0 w' s tv)(hf:Fr (fun q=>q=nb) w w'):St C X ab mb nb fb w0 w' s tv R:=⟨hm,h.f.imp fun _ h2=>⟨h2.1.fr hf h.ne,h2.2⟩,h.ne,h.lo⟩
theorem St.burn(h:St C X ab mb nb fb w0 w s tv R)(hm:Mach C X ab mb nb w0 w' s' tv)(hf:Fr (fun q=>q=mb) w w')(hu:s.used≤s'.used):St C X ab mb nb fb w0 w' s' tv R:=⟨hm,h.f.imp fun _ h2=>⟨h2.1.fr hf h.fne,AO h2.2 (Nat.add_le_add_left hu _)⟩,h.ne,h.lo⟩
end Go.Proofs.YthihjcannjhonaaGreatDoor.Rn
namespace Go.Proofs.YthihjcannjhonaaGreatDoor.Rn
open Go.RowKit
open Hg (Fz FV FO FT IT KB WF Ou isB)
variable {C:QC} {X:Nat→Prop} {ab mb nb fb n:Nat} {w0 w w':World} {s s':Fz} {tv tv':Value} {V:Nat→Int}
theorem Mach.read(h:Mach C X ab mb nb w0 w s tv):w.cell? ⟨mb,0,none⟩=some (.pointer (some ⟨ab,0,none⟩))∧w.cell? ⟨mb,1,none⟩=some (.map (some nb))∧w.cell? ⟨mb,3,none⟩=some (.int .i64 (C.fuel:Int))∧
 w.cell? ⟨mb,4,none⟩=some (.int .u8 (s.e:Int))∧w.cell? ⟨mb,6,none⟩=some tv∧w.cell? ⟨mb,7,none⟩=some (.int .i64 (s.used:Int))∧w.cell? ⟨mb,2,none⟩=some C.iv∧w.cell? ⟨mb,8,none⟩=some (.int .i64 (s.rd:Int))∧∀i,w.frozen? ⟨mb,i,none⟩=false:=by
 have z:=fun i=>AJ w mb i _ _ (0,0) h.cell;have z0:=z 0;have z1:=z 1;have z3:=z 3;have z4:=z 4;have z6:=z 6;have z7:=z 7;have z2:=z 2;have z8:=z 8;simp at z0 z1 z2 z3 z4 z6 z7 z8;exact⟨z0,z1,z3,z4,z6,z7,z2,z8,fun i=>by simp[World.frozen?,h.cell]⟩
theorem Mach.setEnd(h:Mach C X ab mb nb w0 w s tv)(e:Nat):Mach C X ab mb nb w0 (w.setCell ⟨mb,4,none⟩ (.int .u8 (e:Int))) {s with e:=e} tv:=
 h.turn ((Fr.refl (fun q=>q=mb) w).set (.inl rfl) _) (heap_setCell_same (i:=4) h.cell _) rfl AA h.us
theorem Mach.setUsed(h:Mach C X ab mb nb w0 w s tv)(u:Nat)(hu:u≤50000)(hsu:s.used≤u):Mach C X ab mb nb w0 (w.setCell ⟨mb,7,none⟩ (.int .i64 (u:Int))) {s with used:=u} tv:=
 h.turn ((Fr.refl (fun q=>q=mb) w).set (.inl rfl) _) (heap_setCell_same (i:=7) h.cell _) rfl hsu hu
theorem Mach.drew(h:Mach C X ab mb nb w0 w s tv):Mach C X ab mb nb w0 w.drew s tv:=h.below (AP).drew
def Py(C:QC)(X:Nat→Prop)(ab mb nb:Nat)(w0:World)(s:Fz)(tv:Value)(w:World)(e:Ending)(w':World):Prop:=
 e= .returned (.bool (C.burn s).1)∧Mach C X ab mb nb w0 w' (C.burn s).2 tv∧Fr (fun q=>q=mb) w w'
theorem XU(h:Mach C X ab mb nb w0 w s tv):Calls Tryz.prog 39 #[.pointer (some ⟨mb,0,none⟩)] w (Py C X ab mb nb w0 s tv w):=by
 have h:=h.drew;obtain⟨-,-,c3,c4,-,c7,-,-,hf⟩:=h.read;have f4:=hf 4;have f7:=hf 7;have hus:=h.us;have hlt:=h.lt;have hsame:=fun(u:Value) i=>((Fr.refl (fun q=>q=mb) w).drew).set (p:=⟨mb,i,none⟩) (.inl rfl) u;have hHeld:(fun w':World=>w'.cell? ⟨mb,4,none⟩=some (.int .u8 (s.e:Int))∧w'.cell? ⟨mb,3,none⟩=some (.int .i64 (C.fuel:Int))∧w'.cell? ⟨mb,7,none⟩=some (.int .i64 (s.used:Int))) w.drew:=⟨c4,c3,c7⟩;unfold Py QC.burn;by_cases he:s.e=0
 ·rw[if_pos he]
  have q1:((s.e:Int)==0)=true:=by simp[he]
  by_cases hu:C.fuel≤s.used
  ·rw[if_pos hu]
   have q2:decide ((C.fuel:Int)≤(s.used:Int))=true:=by simp;omega
   have q3:decide (C.fuel≤s.used)=true:=by simpa using hu
   have HM:=zz (h.setEnd 2);have HF:=zz (hsame (.int .u8 2) 4);clear h hf hu hsame;go_enter Tryz.func39,Tryz.ntmps39;go_wp2;refine Ao (fun w':World=>w'.cell? ⟨mb,4,none⟩=some (.int .u8 (s.e:Int))∧w'.cell? ⟨mb,3,none⟩=some (.int .i64 (C.fuel:Int))∧w'.cell? ⟨mb,7,none⟩=some (.int .i64 (s.used:Int))) 17 (by kernel_rfl) ?_;refine tz 0 ?_;refine tz 1 ?_;refine tz 2 ?_;refine tz 3 ?_;refine tz 4 ?_;refine tz 5 ?_;refine tz 6 ?_;refine tz 7 ?_;refine tz 8 ?_;refine tz 9 ?_;refine tz 10 ?_;refine tz 11 ?_;refine tz 12 ?_;refine tz 13 ?_;refine tz 14 ?_;refine tz 15 ?_;refine tz 16 ?_;refine Af (by kernel_rfl) ?_;simp only[List.drop_succ_cons,List.drop_zero];generalize w.drew=wd at c3 c4 c7 f4 f7 hHeld HM HF⊢;go_upto_region 3 with fail;clear c3 c4 c7 hHeld f4 f7;generalize World.setCell wd _ _=w4 at HM HF⊢;have c4:=HM.out.read.2.2.2.1;go_wp2;go_ret;exact⟨rfl,HM.out,HF.out⟩
  ·rw[if_neg hu]
   have q2:decide ((C.fuel:Int)≤(s.used:Int))=false:=by simp;omega
   have q3:decide (C.fuel≤s.used)=false:=by simpa using hu
   have q4:((s.e:Int) !=0)=false:=by simp[he]
   have hfu:=h.fu;have HM:=zz (h.setUsed (s.used+1) (by omega) (by omega));have HF:=zz (hsame (.int .i64 ((s.used+1:Nat):Int)) 7);have hw1:wrap64 ((s.used:Int)+1)=((s.used+1:Nat):Int):=by unfold wrap64;omega
   clear h hf hu hsame;go_enter Tryz.func39,Tryz.ntmps39;go_wp2;refine Ao (fun w':World=>w'.cell? ⟨mb,4,none⟩=some (.int .u8 (s.e:Int))∧w'.cell? ⟨mb,3,none⟩=some (.int .i64 (C.fuel:Int))∧w'.cell? ⟨mb,7,none⟩=some (.int .i64 (s.used:Int))) 17 (by kernel_rfl) ?_;refine tz 0 ?_;refine tz 1 ?_;refine tz 2 ?_;refine tz 3 ?_;refine tz 4 ?_;refine tz 5 ?_;refine tz 6 ?_;refine tz 7 ?_;refine tz 8 ?_;refine tz 9 ?_;refine tz 10 ?_;refine tz 11 ?_;refine tz 12 ?_;refine tz 13 ?_;refine tz 14 ?_;refine tz 15 ?_;refine tz 16 ?_;refine Af (by kernel_rfl) ?_;simp only[List.drop_succ_cons,List.drop_zero];go_wp2;go_ret;exact⟨rfl,HM.out,HF.out⟩
 ·rw[if_neg he]
  have q1:((s.e:Int)==0)=false:=by simp;omega
  have q2:((s.e:Int) !=0)=true:=by simp;omega
  have HM:=zz h;have HF:=zz ((Fr.refl (fun q=>q=mb) w).drew);clear h hf he hsame;go_enter Tryz.func39,Tryz.ntmps39;go_wp2;refine Ao (fun w':World=>w'.cell? ⟨mb,4,none⟩=some (.int .u8 (s.e:Int))∧w'.cell? ⟨mb,3,none⟩=some (.int .i64 (C.fuel:Int))∧w'.cell? ⟨mb,7,none⟩=some (.int .i64 (s.used:Int))) 17 (by kernel_rfl) ?_;refine tz 0 ?_;refine tz 1 ?_;refine tz 2 ?_;refine tz 3 ?_;refine tz 4 ?_;refine tz 5 ?_;refine tz 6 ?_;refine AC (i:=7) rfl (by kernel_rfl) (fun _ _ _ h=>h) (by assumption) (Or.inr ⟨by rfl,rfl⟩) ?_
  try simp only[Act.put,sA,sB,sC,sD,sE,sF]
  refine AC (i:=8) rfl (by kernel_rfl) (fun _ _ _ h=>h) (by assumption) (Or.inr ⟨by rfl,rfl⟩) ?_
  try simp only[Act.put,sA,sB,sC,sD,sE,sF]
  refine AC (i:=9) rfl (by kernel_rfl) (fun _ _ _ h=>h) (by assumption) (Or.inr ⟨by rfl,rfl⟩) ?_
  try simp only[Act.put,sA,sB,sC,sD,sE,sF]
  refine AC (i:=10) rfl (by kernel_rfl) (fun _ _ _ h=>h) (by assumption) (Or.inr ⟨by rfl,rfl⟩) ?_
  try simp only[Act.put,sA,sB,sC,sD,sE,sF]
  refine AC (i:=11) rfl (by kernel_rfl) (fun _ _ _ h=>h) (by assumption) (Or.inr ⟨by rfl,rfl⟩) ?_
  try simp only[Act.put,sA,sB,sC,sD,sE,sF]
  refine AC (i:=12) rfl (by kernel_rfl) (fun _ _ _ h=>h) (by assumption) (Or.inr ⟨by rfl,rfl⟩) ?_
  try simp only[Act.put,sA,sB,sC,sD,sE,sF]
  refine AC (i:=13) rfl (by kernel_rfl) (fun _ _ _ h=>h) (by assumption) (Or.inr ⟨by rfl,rfl⟩) ?_
  try simp only[Act.put,sA,sB,sC,sD,sE,sF]
  refine AC (i:=14) rfl (by kernel_rfl) (fun _ _ _ h=>h) (by assumption) (Or.inr ⟨by rfl,rfl⟩) ?_
  try simp only[Act.put,sA,sB,sC,sD,sE,sF]
  refine AC (i:=15) rfl (by kernel_rfl) (fun _ _ _ h=>h) (by assumption) (Or.inr ⟨by rfl,rfl⟩) ?_
  try simp only[Act.put,sA,sB,sC,sD,sE,sF]
  refine AC (i:=16) rfl (by kernel_rfl) (fun _ _ _ h=>h) (by assumption) (Or.inr ⟨by rfl,rfl⟩) ?_
  try simp only[Act.put,sA,sB,sC,sD,sE,sF]
  refine Af (by kernel_rfl) ?_;simp only[List.drop_succ_cons,List.drop_zero];go_wp2;go_ret;exact⟨rfl,HM.out,HF.out⟩
def Yp(op x y:Int)(w:World)(e:Ending)(w':World):Prop:=
 (∃v ok,e= .returned (.tuple #[i64V v,.bool ok])∧ok=(Ou op x y).isSome∧∀u,Ou op x y=some u→(op=12∨op=13→isB x∧isB y)→v=u)∧w'=w
theorem Yp.mk{op x y v:Int}{ok:Bool}{w:World}(h1:ok=(Ou op x y).isSome)(h2:∀u,Ou op x y=some u→(op=12∨op=13→isB x∧isB y)→v=u):Yp op x y w (.returned (.tuple #[i64V v,.bool ok])) w:=⟨⟨v,ok,rfl,h1,h2⟩,rfl⟩
end Go.Proofs.YthihjcannjhonaaGreatDoor.Rn
namespace Hg
def Cf(M:Nat→Option Node)(id:Nat):Str:=(ndAt M id).name
def CW(M:Nat→Option Node)(id:Nat):Nat:=
 if (ndAt M id).kind=13∨(ndAt M id).kind=17∨(ndAt M id).kind=20 then 1
 else if (ndAt M id).kind=14∨(ndAt M id).kind=16 then 2
 else if (ndAt M id).kind=18 then(if (ndAt M id).num≤5 then 1 else 2)
 else if (ndAt M id).kind=15∨(ndAt M id).kind=19 then(ndAt M (ndAt M id).ref).type
 else 0
end Hg
namespace Go.Proofs.YthihjcannjhonaaGreatDoor
open Go.RowKit Go.Sort Go.Lib
open Hg (GT gl wk isK ndAt Bl Bq BI KB Cf CW)
theorem LJ(ab:Nat)(M:Nat→Option Hg.Node)(id:Nat)(w:World)(hA:ArOk w ab M)(hid:id < Ai):
 Calls Tryz.prog 99 #[.pointer (some ⟨ab,0,none⟩),idV id] w fun e w'=>e= .returned (strV (Cf M id))∧Below w.heap.size w w':=by
 have TG:=zz (hA.getN hid);unfold Cf;clear hA;go_enter Tryz.func99,Tryz.ntmps99;go_wp2_with fail;refine TG.out.mono ?_;rintro e w1 ⟨ka,kc,rfl,ho1,hb1⟩;have HB:=zz hb1;clear TG ho1 hb1;go_wp2;go_ret;exact⟨rfl,HB.out.alloc HB.out.size _⟩
theorem Lr(ab:Nat)(M:Nat→Option Hg.Node)(w:World)(hA:ArOk w ab M):
 Calls Tryz.prog 91 #[.pointer (some ⟨ab,0,none⟩)] w (Pp w (Bq M)):=by
 have T1:=zz (IP ab w);have T2:=zz (KQ ab M 1 2 w hA (by decide));clear hA;go_enter Tryz.func91,Tryz.ntmps91;go_wp2_with fail;refine T1.out.mono ?_;rintro e w1 ⟨rfl,rfl⟩;clear T1;go_wp2_with fail;refine T2.out.mono ?_;rintro e w2 ⟨⟨v,rfl,ho⟩,hb⟩;have HO:=zz ho;have HB:=zz hb;clear T2 ho hb;go_wp2;go_ret;exact⟨⟨v,rfl,HO.out⟩,HB.out⟩
theorem Ot(ab:Nat)(M:Nat→Option Hg.Node)(m:Nat)(w:World)(hA:ArOk w ab M)(hm:m < Ai):
 Calls Tryz.prog 92 #[.pointer (some ⟨ab,0,none⟩),idV m] w (Pp w (BI M m)):=by
 have T2:=zz (KQ ab M m 3 w hA hm);clear hA;go_enter Tryz.func92,Tryz.ntmps92;go_wp2_with fail;refine T2.out.mono ?_;rintro e w2 ⟨⟨v,rfl,ho⟩,hb⟩;have HO:=zz ho;have HB:=zz hb;clear T2 ho hb;go_wp2;go_ret;exact⟨⟨v,rfl,HO.out⟩,HB.out⟩
theorem OH:(Tryz.prog.info? 9).map (fun i=>(i.zero,i.size,i.bytes))=some (some (.string ⟨#[]⟩),1,16):=by kernel_rfl
def Xh(w:World)(l:List (List UInt8))(e:Ending)(w':World):Prop:=(∃v,e= .returned v∧w'.ownsRow w.heap.size 9 1 v l.length (l.map strV))∧Below w.heap.size w w'
theorem OZ(ab:Nat)(M:Nat→Option Hg.Node)(v:Value)(ids:List Nat)(w:World)(hA:ArOk w ab M)(hs:Sl w w.heap.size v ids.length (ids.map idV))(hi:∀x∈ids,x < Ai)(hl:ids.length≤1000000):
 Calls Tryz.prog 90 #[.pointer (some ⟨ab,0,none⟩),v] w (Xh w (ids.map (Cf M))):=by
 obtain⟨i0,hi0,hz0,hz1,hz2⟩:=info_parts OH;have HA:=zz hA;have HS:=zz hs;have HI:=zz hi;obtain⟨a,c,rfl⟩:=hs.form;clear hA hs hi;go_enter Tryz.func90,Tryz.ntmps90;go_wp2
 go_loopw [5,10] (fun p q wr=>∃(k:Nat) (u:Value),p=u∧q= .int .i64 (k:Int)∧k≤ids.length∧wr.ownsRow w.heap.size 9 1 u k ((ids.take k).map (fun x=>strV (Cf M x)))∧Below w.heap.size w wr) (fun _ q wr=>ids.length-(intOf q).toNat)
 case atStart=>exact⟨0,_,rfl,rfl,Nat.zero_le _,⟨rfl,.inl ⟨rfl,rfl⟩⟩,AP⟩
 case round=>
  obtain⟨k,u,hu,rfl,hk,ho,hb⟩:=hrel;have hu:=hu.symm;subst hu;have HB:=zz hb;have HO:=zz ho;by_cases hlt:k < ids.length
  ·obtain⟨b,o,rfl,_,kc⟩:=(HS.out.below HB.out AA).mapAt hlt
   have TN:=zz (LJ ab M ids[k] wr (HA.out.below HB.out) (HI.out _ (List.getElem_mem hlt)));have htk:ids.take (k+1)=ids.take k++[ids[k]]:=List.take_succ_eq_append_getElem hlt;generalize ids[k]=x at kc TN htk;have HTK:=zz htk;clear hb ho htk;go_wp2_with fail;refine TN.out.mono ?_;rintro e w1 ⟨rfl,hb1⟩;have HB1:=zz (HB.out.trans (hb1.mono HB.out.size));have HO1:=zz (Av HO.out (Fr.of_below (D:=fun _=>False) hb1) (fun _ _ e=>e));have hsz:=HB1.out.size;clear hb1 TN
   go_wp2_with (at_builtin;refine wpList_append_own_at _ rfl (.tmp 14) (.tmp 18) _ rfl w.heap.size 9 i0 _ 1 16 Tryz.underlying93 hi0 hz0 hz1 hz2 rfl (by decide) _ k ((ids.take k).map (fun x=>strV (Cf M x))) rfl (HO1.out.alloc _) ⟨w1.heap.size,0,none⟩ 1 1 [strV (Cf M x)] rfl rfl (Ap _ _ _) ?_ ?_ ?_ ?_ ?_)
   all_goals first
    |intro v3 W3 own3 g3 _ at3
    |(unfold maxLen;omega)
    |omega
    |(simp;omega)
    |(intro u hu;simp only[List.mem_singleton] at hu;subst hu;rfl)
   have HO3:=zz (show W3.ownsRow w.heap.size 9 1 v3 (k+1) ((ids.take (k+1)).map (fun x=>strV (Cf M x))) from by rw[HTK.out,List.map_append,List.map_take];exact own3);have HB3:=zz ((HB1.out.alloc HB1.out.size _).grown g3 (by simp;omega) (fun q hq=>(HO1.out.lt q hq).1));clear own3 g3 at3;go_wp2;go_roundw
   case rel=>exact⟨k+1,v3,rfl,by go_num,by omega,HO3.out,HB3.out⟩
   case measure=>simp[intOf];omega
  ·obtain rfl:k=ids.length:=by omega
   rw[List.take_length] at ho;have HO2:=zz ho;clear hb ho;go_wp2;go_ret;refine⟨⟨_,rfl, ?_⟩,HB.out⟩;rw[List.length_map,List.map_map];exact HO2.out
theorem Wn(w:World):Calls Tryz.prog 176 #[.int .u64 0] w fun e w'=>e= .returned (.int .i64 0)∧w'=w:=by
 have T1:Calls Tryz.prog 206 #[.int .u64 0] w fun e w'=>e= .returned (.int .i64 0)∧w'=w:=by
  go_enter Tryz.func206,Tryz.ntmps206;go_wp2;go_ret;exact⟨by kernel_rfl,rfl⟩
 have T1:=zz T1;go_enter Tryz.func176,Tryz.ntmps176;go_wp2_with fail;refine T1.out.mono ?_;rintro e w1 ⟨rfl,rfl⟩;go_wp2;go_ret;exact⟨rfl,rfl⟩
theorem Um(a:Option Addr)(c:Nat)(w:World):Calls Tryz.prog 145 #[.slice a 0 c] w fun e w'=>e= .returned (.tuple #[])∧w'=w:=by
 have T1:Calls Tryz.prog 196 #[.slice a 0 c,.int .i64 0,.int .i64 0] w fun e w'=>e= .returned (.tuple #[])∧w'=w:=by
  go_enter Tryz.func196,Tryz.ntmps196;go_wp2
  go_loopw [6] (fun p wr=>p= .int .i64 1∧wr=w) (fun p wr=>0)
  case atStart=>exact⟨rfl,rfl⟩
  case round=>
   obtain⟨rfl,rfl⟩:=hrel;go_wp2;go_end0;exact⟨rfl,rfl⟩
 have T1:=zz T1;have T2:Calls Tryz.prog 175 #[.slice a 0 c,.int .i64 0,.int .i64 0,.int .i64 0] w fun e w'=>e= .returned (.tuple #[])∧w'=w:=by
  go_enter Tryz.func175,Tryz.ntmps175;go_wp2;refine wp_loop_once ?_;go_wp2_with fail;refine T1.out.mono ?_;rintro e w1 ⟨rfl,rfl⟩;go_wp2;refine bodyPost_ret (results_none rfl _ _ _) rfl ?_;exact⟨rfl,rfl⟩
 have T2:=zz T2;have T3:=zz (Wn w);go_enter Tryz.func145,Tryz.ntmps145;go_wp2_with fail;refine T3.out.mono ?_;rintro e w1 ⟨rfl,rfl⟩;go_wp2_with fail;refine T2.out.mono ?_;rintro e w1 ⟨rfl,rfl⟩;go_wp2;go_end0;exact⟨rfl,rfl⟩
theorem XK(T:TypeId):EqlAt Tryz.prog T encStr (fun x y=>decide (x=y)):=by
 refine⟨fun x y w=> ?_,fun op a b x y w=>(EqlAt.string Tryz.prog T).2 op a b ⟨x.toArray⟩ ⟨y.toArray⟩ w⟩;have:=(EqlAt.string Tryz.prog T).1 ⟨x.toArray⟩ ⟨y.toArray⟩ w;rw[this];by_cases h:x=y <;>simp[h]
theorem Wh(T:TypeId):NeqAt Tryz.prog T encStr (fun x y=>decide (x=y)):=by
 refine⟨fun x y w=> ?_,fun op a b x y w=>(NeqAt.string Tryz.prog T).2 op a b ⟨x.toArray⟩ ⟨y.toArray⟩ w⟩;have:=(NeqAt.string Tryz.prog T).1 ⟨x.toArray⟩ ⟨y.toArray⟩ w;rw[this];by_cases h:x=y <;>simp[h]
theorem Jb{l:List (List UInt8)}(h:l.Nodup):(compactUpTo l.toArray l.toArray.size)=l:=by
 have:compact l=l:=compact_all l (fun j hj=>by
  unfold keeps;rw[decide_eq_true_iff];by_cases h0:j=0
  ·exact .inl h0
  ·refine .inr (fun e=> ?_)
   have h1:l.toArray[j]! =l[j]:=by simp[hj]
   have h2:l.toArray[j-1]! =l[j-1]:=by simp[show j-1 < l.length by omega]
   rw[h1,h2] at e;exact(List.pairwise_iff_getElem.1 h (j-1) j (by omega) hj (by omega)) e.symm)
 simpa[compact] using this
theorem Ua(B:Nat)(v:Value)(l:List (List UInt8))(w:World)(hn:l.Nodup)(hl:l.length≤1000000)(ho:w.ownsRow B 9 1 v l.length (l.map strV)):
 Calls Tryz.prog 89 #[v] w fun e w'=>e= .returned (.bool false)∧Fr (fun q=>v.ownBlock=some q) w w':=by
 rcases ho.2 with⟨h0,h1⟩|⟨g,cap,cur,hv,hg,hh,hc1,hc2,hc3,ht⟩
 ·subst h0
  have T1:=zz (Um none 0 w);have T2:Calls Tryz.prog 146 #[.slice none 0 0] w fun e w'=>e= .returned (.slice none 0 0)∧w'=w:=by
   go_enter Tryz.func146,Tryz.ntmps146;go_wp2;go_ret;exact⟨rfl,rfl⟩
  have T2:=zz T2;clear ho;go_enter Tryz.func89,Tryz.ntmps89;go_wp2_with fail;refine T1.out.mono ?_;rintro e w1 ⟨rfl,rfl⟩;go_wp2_with fail;refine T2.out.mono ?_;rintro e w1 ⟨rfl,rfl⟩;go_wp2;go_ret;exact⟨rfl,Fr.refl _ _⟩
 ·subst hv
  rw[Nat.mul_one] at ht;have hperm:(l.mergeSort fun x y=>decide (x≤y)).Perm l:=List.mergeSort_perm l _;have hts:(l.mergeSort fun x y=>decide (x≤y)).Nodup:=hperm.nodup_iff.2 hn;have hlen:(l.mergeSort fun x y=>decide (x≤y)).length=l.length:=hperm.length_eq;generalize hT:(l.mergeSort fun x y=>decide (x≤y))=ts at hts hlen;have hgl:g < w.heap.size:=(AZ.1 hh).1;have T1:=zz ((Tryz.slices_Sort_string g 0 cap l w (holds_of_block hh ht) hgl (by omega)).mono (R':=fun e w'=>e= .returned (.tuple #[])∧w'.ownsRow B 9 1 (.slice (some ⟨g,0,none⟩) l.length cap) l.length (ts.map strV)∧Fr (fun q=>q=g) w w') (by
   rintro e w' ⟨rfl,n,os,rfl⟩;rw[hT];exact⟨rfl,ownsRow_sorted hlen hg hh (by simpa using hc1) hc2 hc3,Fr.ED (grownBy_sorted _) (fun q e=>by injection e with e;exact e.symm)⟩))
  have T2:=zz (fun(W:World) (h:W.ownsRow B 9 1 (.slice (some ⟨g,0,none⟩) l.length cap) l.length (ts.map strV))=>show Calls Tryz.prog 146 #[.slice (some ⟨g,0,none⟩) l.length cap] W fun e w'=>e= .returned (.slice (some ⟨g,0,none⟩) l.length cap)∧Fr (fun q=>q=g) W w' from by
   rcases h.2 with⟨h0,_⟩|⟨g',cap',cur',hv',hg',hh',hc1',hc2',hc3',ht'⟩
   ·cases h0
   ·injection hv' with e1 e2 e3
    injection e1 with e1;injection e1 with e1;subst e1;subst e3;rw[Nat.mul_one,←hlen] at ht';have:=AnyE.slices_Compact Tryz.lCmp encStr (fun x=>rfl) (XK _) (Wh _) [] (fun W=>by kernel_rfl) g 0 cap ts.toArray W (holds_of_block hh' ht') (by simp;omega) (by simp;omega);rw[Jb hts] at this;have hsz:ts.toArray.size=l.length:=by simpa using hlen
    rw[hsz] at this;refine this.mono ?_;rintro e w' ⟨rfl,q,rfl⟩;exact⟨by rw[hlen],frE encStr _⟩)
  clear ho hh hg hc1 hc2 hc3 ht;go_enter Tryz.func89,Tryz.ntmps89;go_wp2_with fail;refine T1.out.mono ?_;rintro e w1 ⟨rfl,ho1,hf1⟩;have T3:=zz (T2.out w1 ho1);have HF1:=zz hf1;clear T1 T2 ho1 hf1;go_wp2_with fail;refine T3.out.mono ?_;rintro e w2 ⟨rfl,hf2⟩;have HF2:=zz (HF1.out.trans hf2);clear T3 hf2;go_wp2;go_ret;refine⟨?_,HF2.out.imp (fun q _ e=>by subst e;rfl)⟩;simp
theorem P9(ab:Nat)(M:Nat→Option Hg.Node)(id:Nat)(w:World)(hA:ArOk w ab M)(hid:id < Ai)(href:(ndAt M id).ref < Ai):
 Calls Tryz.prog 97 #[.pointer (some ⟨ab,0,none⟩),idV id] w fun e w'=>e= .returned (.int .u8 (CW M id:Int))∧Below w.heap.size w w':=by
 have TG:=zz (hA.getN hid);have HA:=zz hA;generalize hr:CW M id=r;unfold CW at hr;clear hA;go_enter Tryz.func97,Tryz.ntmps97;go_wp2_with fail;refine TG.out.mono ?_;rintro e w1 ⟨ka,kc,rfl,ho1,hb1⟩;have hbn:=Nn (w1:=w1) (ndAt M id) ka kc;have hbw:=hb1.alloc hb1.size (.cells #[.int .u8 ((ndAt M id).kind:Int),strV (ndAt M id).name,.int .i64 (ndAt M id).num,.int .u8 ((ndAt M id).type:Int),.int .u64 ((ndAt M id).ref:Int),.slice ka (ndAt M id).kids.length kc] 54);have c0:=hbn 0;have c2:=hbn 2;have c4:=hbn 4;simp at c0 c2 c4;have HB:=zz hbw;have T2:=zz ((HA.out.below hbw).getN href);generalize ndAt M id=nd at*;obtain⟨kd,nm,nu,ty,rf,ks⟩:=nd;clear TG ho1 hb1 hbn hbw c0 c2 c4;dsimp only at href HB T2 hr;have HR:=zz hr;clear hr;by_cases h13:kd=13
 ·subst h13
  go_wp2;go_ret;have hr:=HR.out;simp at hr;subst hr;exact⟨rfl,HB.out⟩
 by_cases h17:kd=17
 ·subst h17
  go_wp2;go_ret;have hr:=HR.out;simp at hr;subst hr;exact⟨rfl,HB.out⟩
 by_cases h20:kd=20
 ·subst h20
  go_wp2;go_ret;have hr:=HR.out;simp at hr;subst hr;exact⟨rfl,HB.out⟩
 by_cases h14:kd=14
 ·subst h14
  go_wp2;go_ret;have hr:=HR.out;simp at hr;subst hr;exact⟨rfl,HB.out⟩
 by_cases h16:kd=16
 ·subst h16
  go_wp2;go_ret;have hr:=HR.out;simp at hr;subst hr;exact⟨rfl,HB.out⟩
 by_cases h18:kd=18
 ·subst h18
  by_cases h5:nu≤5
  ·go_wp2
   go_ret;have hr:=HR.out
   simp[h5] at hr
   subst hr;exact⟨rfl,HB.out⟩
  ·go_wp2
   go_ret;have hr:=HR.out;simp at hr;rw[if_neg (by omega)] at hr;subst hr;exact⟨rfl,HB.out⟩
 have hq:∀n:Nat,kd≠n→((kd:Int)==(n:Int))=false:=fun n h=>by simpa using(show¬(kd:Int)=(n:Int) by omega)
 have q13:=hq 13 h13;have q17:=hq 17 h17;have q20:=hq 20 h20;have q14:=hq 14 h14;have q16:=hq 16 h16;have q18:=hq 18 h18;by_cases h15:kd=15
 ·subst h15
  clear q13 q17 q20 q14 q16 q18 hq;go_wp2_with fail;refine T2.out.mono ?_;rintro e w2 ⟨ka2,kc2,rfl,ho2,hb2⟩;have HB2:=zz ((HB.out.trans (hb2.mono HB.out.size)));clear T2 ho2 hb2;go_wp2;go_ret;have hr:=HR.out;simp at hr;subst hr;exact⟨rfl,HB2.out.alloc HB2.out.size _⟩
 by_cases h19:kd=19
 ·subst h19
  clear q13 q17 q20 q14 q16 q18 hq;go_wp2_with fail;refine T2.out.mono ?_;rintro e w2 ⟨ka2,kc2,rfl,ho2,hb2⟩;have HB2:=zz ((HB.out.trans (hb2.mono HB.out.size)));clear T2 ho2 hb2;go_wp2;go_ret;have hr:=HR.out;simp at hr;subst hr;exact⟨rfl,HB2.out.alloc HB2.out.size _⟩
 have q15:=hq 15 h15;have q19:=hq 19 h19;clear hq T2;go_wp2;go_ret;have hr:=HR.out;rw[if_neg (by omega),if_neg (by omega),if_neg h18,if_neg (by omega)] at hr;subst hr;exact⟨rfl,HB.out⟩
end Go.Proofs.YthihjcannjhonaaGreatDoor
namespace Hg
def Bo(xs:List (Nat×Node)):List Str:=(xs.filter fun x=>x.2.kind==4||x.2.kind==6).map fun x=>x.2.name
end Hg
namespace Go.Proofs.YthihjcannjhonaaGreatDoor
open Go.RowKit
open Hg (GT gl wk isK ndAt Bl Bq BI KB Cf CW Bo)
attribute [local go_sem] Oper.semAt_some
theorem Qt(l:List (Nat×Hg.Node))(p:Nat×Hg.Node):Bo (l++[p])=Bo l++(if p.2.kind==4||p.2.kind==6 then[p.2.name] else[]):=by
 unfold Bo;rw[List.filter_append,List.map_append]
 congr 1
 by_cases h:(p.2.kind==4||p.2.kind==6)=true
 ·simp[h]
 ·simp only[Bool.not_eq_true] at h
  simp[h]
theorem NI(l:List (Nat×Hg.Node)):(Bo l).length≤l.length:=by unfold Bo;rw[List.length_map];exact List.length_filter_le _ _
theorem Ma(M:Nat→Option Hg.Node):∀(f:Nat) (s seen:List Nat) (r:List (Nat×Hg.Node)),wk M f s seen=some r→r.length < f
 |0,_,_,_,h=>by cases h
 |f+1,[],_,r,h=>by rw[Hg.Rq] at h;injection h with h;subst h;simp
 |f+1,i::s,seen,r,h=>by
   rw[Hg.EF] at h;cases hM:M i with
   |none=>rw[hM] at h;have:=Ma M f s seen r h;omega
   |some n=>
     rw[hM] at h;dsimp only at h;by_cases hi:i∈seen
     ·rw[if_pos hi] at h;have:=Ma M f s seen r h;omega
     ·rw[if_neg hi] at h
      cases hw:wk M f (n.kids++s) (i::seen) with
      |none=>rw[hw] at h;cases h
      |some r'=>
        rw[hw] at h;have h:(i,n)::r'=r:=Option.some.inj h;have:=Ma M f _ _ r' hw;rw[←h];simp;omega
@[reducible] def Ae(nd:Hg.Node)(ka:Option Addr)(kc:Nat):Array Value:= #[.int .u8 (nd.kind:Int),strV nd.name,.int .i64 nd.num,.int .u8 (nd.type:Int),.int .u64 (nd.ref:Int),.slice ka nd.kids.length kc]
def Iy(B:Nat)(S:Nat→Prop)(pre:List Am)(A:World):Prop:=∃v,A.heap[B]? =some (.cells #[v] 93 (0,0))∧A.ownsRow (B+1) 9 1 v (Bo (pre.map Am.strip)).length ((Bo (pre.map Am.strip)).map strV)∧∀q,S q↔q=B∨v.ownBlock=some q
theorem Iy.fr{B:Nat}{S:Nat→Prop}{pre:List Am}{A A':World}(h:Iy B S pre A)(hf:Fr (fun q=>¬S q) A A'):Iy B S pre A':=by
 obtain⟨v,h1,h2,h3⟩:=h;exact⟨v,hf.at_ h1 (fun h=>h ((h3 B).2 (.inl rfl))),Av h2 hf (fun q e h=>h ((h3 q).2 (.inr e))),h3⟩
theorem Iy.lt{B:Nat}{S:Nat→Prop}{pre:List Am}{A:World}(h:Iy B S pre A):∀q,S q→B≤q∧q < A.heap.size:=by
 obtain⟨v,h1,h2,h3⟩:=h;intro q hq;rcases(h3 q).1 hq with e|e
 ·subst e;exact⟨AA,(AZ.1 h1).1⟩
 ·have:=h2.lt q e;exact⟨by omega,this.2⟩
def Y9(p5 p7:Value)(a:Act):Prop:=∃u0 u1 u2 u3 u4 u6 u8 u9 u10 u11 u12 u13 u14 u15 u16 u17 u18 u19 u20 u21 u22 u23 u24 u25 u26:Value,a={tmps:= #[u0,u1,u2,u3,u4,p5,u6,p7,u8,u9,u10,u11,u12,u13,u14,u15,u16,u17,u18,u19,u20,u21,u22,u23,u24,u25,u26],defers:=[]}
def ZN(B:Nat)(S:Nat→Prop)(pre:List Am)(x:Am)(a:Act)(A:World):Prop:=
 ∃S0 blk,Iy B S0 pre A∧Y9 (.pointer (some ⟨B,0,none⟩)) (.pointer (some ⟨blk,0,none⟩)) a∧A.heap[blk]? =some (.cells (Ae x.nd x.ka x.kc) 54 (0,0))∧(∀q,S q↔S0 q∨q=blk)∧¬S0 blk
theorem SV(ab:Nat)(M:Nat→Option Hg.Node)(id F:Nat)(xs:List (Nat×Hg.Node))(w:World)(hA:ArOk w ab M)(hid:id < Ai)(hxs:wk M F [id] []=some xs)(hF:F≤1000000):
 Calls Tryz.prog 93 #[.pointer (some ⟨ab,0,none⟩),idV id] w (Xh w (Bo xs)):=by
 obtain⟨i0,hi0,hz0,hz1,hz2⟩:=info_parts OH;have HA:=zz hA;have TW:=zz (J2 ab id);refine(callsIn_wide (n:=5)).1 (callsIn_of_wp_marks Tryz.func93 rfl trivial ?_ rfl);simp only[Tryz.ntmps93,List.size_toArray,List.length_cons,List.length_nil,Nat.reduceAdd,Nat.reduceSub,Array.replicate_succ,Array.replicate_zero,List.push_toArray,List.append_toArray,List.nil_append,List.cons_append];gi_wp2_with fail;refine⟨trivial,(callsIn_wide.2 (TW.out _)).mono ?_⟩;rintro e w1 ⟨rfl,rfl⟩;gi_wp2;obtain⟨⟨mb,c,hAr⟩,hkb⟩:=HA.out;have hb0:Below w.heap.size w (((w.alloc (.cells #[.slice none 0 0] 93)).alloc (.cells #[.pointer (some ⟨ab,0,none⟩)] 25)).alloc (.cells #[idV id] 51)):=(((AP).alloc AA _).alloc (by simp) _).alloc (by simp;omega) _;have hzW:(((w.alloc (.cells #[.slice none 0 0] 93)).alloc (.cells #[.pointer (some ⟨ab,0,none⟩)] 25)).alloc (.cells #[idV id] 51)).heap.size=w.heap.size+3:=by simp
 have h0:(((w.alloc (.cells #[.slice none 0 0] 93)).alloc (.cells #[.pointer (some ⟨ab,0,none⟩)] 25)).alloc (.cells #[idV id] 51)).heap[w.heap.size]? =some (.cells #[.slice none 0 0] 93 (0,0)):=(heap_alloc_old _ _ (by simp;omega)).trans ((heap_alloc_old _ _ (by simp)).trans (Ac w _));have h1:(((w.alloc (.cells #[.slice none 0 0] 93)).alloc (.cells #[.pointer (some ⟨ab,0,none⟩)] 25)).alloc (.cells #[idV id] 51)).heap[w.heap.size+1]? =some (.cells #[.pointer (some ⟨ab,0,none⟩)] 25 (0,0)):=by
  have:=Ac (w.alloc (.cells #[.slice none 0 0] 93)) (.cells #[.pointer (some ⟨ab,0,none⟩)] 25);rw[show(w.alloc (.cells #[.slice none 0 0] 93)).heap.size=w.heap.size+1 by simp] at this;exact(heap_alloc_old _ _ (by simp)).trans this
 have h2:(((w.alloc (.cells #[.slice none 0 0] 93)).alloc (.cells #[.pointer (some ⟨ab,0,none⟩)] 25)).alloc (.cells #[idV id] 51)).heap[w.heap.size+2]? =some (.cells #[idV id] 51 (0,0)):=by
  have:=Ac ((w.alloc (.cells #[.slice none 0 0] 93)).alloc (.cells #[.pointer (some ⟨ab,0,none⟩)] 25)) (.cells #[idV id] 51);rw[show((w.alloc (.cells #[.slice none 0 0] 93)).alloc (.cells #[.pointer (some ⟨ab,0,none⟩)] 25)).heap.size=w.heap.size+2 by simp] at this;exact this
 generalize World.alloc (World.alloc (World.alloc w _) _) _=W1 at hb0 hzW h0 h1 h2⊢;have hseq:=IG ab mb c M w.heap.size id (w.heap.size+2) (w.heap.size+1) F xs W1 (fun W' hf=>hAr.below (hb0.trans (hf.below' (by omega))) AA) (AJ W1 (w.heap.size+2) 0 _ _ (0,0) h2) (AJ W1 (w.heap.size+1) 0 _ _ (0,0) h1) ⟨by omega,by omega,by omega,by omega⟩ hid hkb hxs hF;have HB0:=zz hb0;have hxl:=Ma M F _ _ _ hxs;clear hA TW hAr hkb h1 h2;refine GV (gf:=135) rfl (enters_of Tryz.func135 (by kernel_rfl) rfl) hseq (Fr.refl _ _) rfl (fun q h=>by rcases h with h|h <;>omega) (by omega)
  (Iy w.heap.size) (fun _ _ _ _=>False) (ZN w.heap.size) (fun S pre A A' h hf=>h.fr hf) (fun _ _ _ _ _ h _=>h) ?hI1 (fun S pre A h q hq=>(h.lt q hq).2) ?hI1l
  (fun q=>q=w.heap.size) ⟨_,h0,⟨rfl,.inl ⟨rfl,rfl⟩⟩,fun q=>by simp[Value.ownBlock]⟩ (fun q e=>by subst e;exact⟨AA,by omega,by omega⟩) ?assign ?body ?done ?stop
 case hI1=>
  rintro S pre x a A A' ⟨S0,blk,hi,ha,hb,hS,hn⟩ hf;exact⟨S0,blk,hi.fr (hf.imp (fun q _ h h'=>h (.inl ((hS q).2 (.inl h'))))),ha,hf.at_ hb (fun h=>h (.inl ((hS blk).2 (.inr rfl)))),hS,hn⟩
 case hI1l=>
  rintro S pre x a A ⟨S0,blk,hi,ha,hb,hS,hn⟩ q hq;rcases(hS q).1 hq with h|h
  ·exact(hi.lt q h).2
  ·subst h;exact(AZ.1 hb).1
 case assign=>
  intro l m S pre x A K hi hpre hx hkb hf hK;gi_wp2;refine hK (fun q=>S q∨q=A.heap.size) _ _ ⟨S,A.heap.size,hi.fr ((Fr.refl _ _).alloc _), ?_,Ac A _,fun q=>Iff.rfl,fun h=>by have:=(hi.lt _ h).2;omega⟩ ((Fr.refl _ _).alloc _) (fun q h=>h.imp (fun h=>h) (fun h=>by omega));exact⟨_,_,_,_,_,_,_,_,_,_,_,_,_,_,_,_,_,_,_,_,_,_,_,_,_,rfl⟩
 case body=>
  rintro l m S pre x a1 A ⟨S0,blk,⟨v,hbx,hrow,hSv⟩,ha,hb,hS,hn⟩ hpre hf;obtain⟨u0,u1,u2,u3,u4,u6,u8,u9,u10,u11,u12,u13,u14,u15,u16,u17,u18,u19,u20,u21,u22,u23,u24,u25,u26,rfl⟩:=ha;have hlen:(Bo (pre.map Am.strip)).length≤1000000:=by
   have h1:=NI (pre.map Am.strip);have h2:=hpre.length_le;simp at h1 h2;omega
  have hsn:=Qt (pre.map Am.strip) x.strip;rw[show pre.map Am.strip++[x.strip]=(pre++[x]).map Am.strip by simp] at hsn;have e0:=AJ A blk 0 _ _ (0,0) hb;have e1:=AJ A blk 1 _ _ (0,0) hb;have eB:=AJ A w.heap.size 0 _ _ (0,0) hbx;have fB:A.frozen? ⟨w.heap.size,0,none⟩=false:=by simp[World.frozen?,hbx]
  have hBl:=(AZ.1 hbx).1;have hbl:=(AZ.1 hb).1;simp at e0 e1 eB;generalize hnd:x.nd=nd at e0 e1;have HSN:=zz hsn;have HND:=zz hnd;have HROW:=zz hrow;have HBX:=zz hbx;have HSS:=zz (And.intro hSv hS);clear hsn hrow hSv hS hb hpre hf;by_cases hk:nd.kind=4∨nd.kind=6
  ·have hcond:(x.strip.2.kind==4||x.strip.2.kind==6)=true:=by
    show(x.nd.kind==4||x.nd.kind==6)=true;rw[hnd];rcases hk with h|h <;>simp[h]
   rw[hcond] at HSN;have HSN2:=zz (show Bo ((pre++[x]).map Am.strip)=Bo (pre.map Am.strip)++[nd.name] from by rw[HSN.out,←hnd];rfl);have hq:((nd.kind:Int)==4)=true∨(((nd.kind:Int)==4)=false∧((nd.kind:Int)==6)=true):=by
    rcases hk with h|h
    ·exact .inl (by simp[h])
    ·exact .inr ⟨by simp[h],by simp[h]⟩
   clear hcond HSN hnd hk;rcases hq with hq|⟨hq,hq6⟩
   all_goals
    gi_wp2_with (gi_at_builtin;refine wpListIn_append_own_at _ rfl (.tmp 21) (.tmp 24) _ rfl (w.heap.size+1) 9 i0 _ 1 16 Tryz.underlying93 hi0 hz0 hz1 hz2 rfl (by decide) _ (Bo (pre.map Am.strip)).length ((Bo (pre.map Am.strip)).map strV) rfl (HROW.out.alloc _) ⟨A.heap.size,0,none⟩ 1 1 [strV nd.name] rfl rfl (Ap _ _ _) ?_ ?_ ?_ ?_ ?_)
    all_goals first
     |intro v3 W3 own3 g3 _ at3
     |(unfold maxLen;omega)
     |omega
     |(simp;omega)
     |(intro u hu;simp only[List.mem_singleton] at hu;subst hu;rfl)
    obtain⟨y3,z3,rfl⟩:=ownsRow_succ own3;have hfa:Fr (fun q=>v.ownBlock=some q) A W3:=((Fr.refl _ A).alloc _).step g3 (fun q e=> .inl e);have hb3:W3.heap[w.heap.size]? =some (.cells #[v] 93 (0,0)):=hfa.at_ HBX.out (fun e=>by have:=(HROW.out.lt _ e).1;omega);have c3:W3.cell? ⟨w.heap.size,0,none⟩=some v:=by have:=AJ W3 w.heap.size 0 _ _ (0,0) hb3;simpa using this
    have f3:W3.frozen? ⟨w.heap.size,0,none⟩=false:=by simp[World.frozen?,hb3]
    have hBl3:w.heap.size < W3.heap.size:=(AZ.1 hb3).1;have HFIN:=zz (show∃S',Iy w.heap.size S' (pre++[x]) (W3.setCell ⟨w.heap.size,0,none⟩ (.slice (some ⟨y3,0,none⟩) ((Bo (pre.map Am.strip)).length+1) z3))∧Fr S A (W3.setCell ⟨w.heap.size,0,none⟩ (.slice (some ⟨y3,0,none⟩) ((Bo (pre.map Am.strip)).length+1) z3))∧∀q,S' q→S q∨A.heap.size≤q from by
     refine⟨fun q=>q=w.heap.size∨y3=q,⟨_,heap_setCell_same hb3 _, ?_,fun q=>by simp[Value.ownBlock]⟩, ?_,fun q hq=> ?_⟩
     ·rw[HSN2.out,List.map_append,List.length_append]
      exact Av own3 ((Fr.refl (fun q=>q=w.heap.size) W3).set (p:=⟨w.heap.size,0,none⟩) (.inl rfl) _) (fun q e e'=>by have:=(own3.lt q e).1;omega)
     ·refine(hfa.imp (fun q _ e=>(HSS.out.2 q).2 (.inl ((HSS.out.1 q).2 (.inr e))))).set (p:=⟨w.heap.size,0,none⟩) (.inl ((HSS.out.2 w.heap.size).2 (.inl ((HSS.out.1 w.heap.size).2 (.inl rfl))))) _
     ·rcases hq with e|e
      ·exact .inl ((HSS.out.2 q).2 (.inl ((HSS.out.1 q).2 (.inl e))))
      ·rcases at3 with h|h
       ·exact .inl ((HSS.out.2 q).2 (.inl ((HSS.out.1 q).2 (.inr (by rw[←h,←e];rfl)))))
       ·injection h with h
        have h:y3=_:=h
        try simp at h
        exact .inr (by omega))
    clear own3 g3 at3 hfa hb3;gi_wp2;exact HFIN.out
  ·have hcond:(x.strip.2.kind==4||x.strip.2.kind==6)=false:=by
    show(x.nd.kind==4||x.nd.kind==6)=false;rw[hnd]
    simp;omega
   rw[hcond] at HSN;have HSN2:=zz (show Bo ((pre++[x]).map Am.strip)=Bo (pre.map Am.strip) from by rw[HSN.out];simp);have q4:((nd.kind:Int)==4)=false:=by simp;omega
   have q6:((nd.kind:Int)==6)=false:=by simp;omega
   clear hcond HSN hnd hk;gi_wp2;exact⟨_,⟨v,HBX.out,by rw[HSN2.out];exact HROW.out,HSS.out.1⟩,Fr.refl _ _,fun q h=> .inl ((HSS.out.2 q).2 (.inl h))⟩
 case done=>
  rintro S ys W hys ⟨v,hbx,hrow,hSv⟩ hK hnS hf;have eB:=AJ W w.heap.size 0 _ _ (0,0) hbx;simp at eB;have hpf:=CY W W1.heap.size (.deferred none);have hnv:∀q,v.ownBlock=some q→¬q=W1.heap.size:=fun q e e'=>hnS ((hSv _).2 (.inr (e' ▸ e)));have HFIN:=zz (show(∃u,(Ending.returned v= .returned u)∧(W.putObj W1.heap.size (.deferred none)).ownsRow w.heap.size 9 1 u (Bo xs).length ((Bo xs).map strV))∧Below w.heap.size w (W.putObj W1.heap.size (.deferred none)) from⟨⟨v,rfl,by
   rw[←hys];exact Cw (Av hrow hpf (fun q e e'=>hnv q e e')) (by omega)⟩,by
   have h1:=HB0.out.trans ((hf.imp (D':=fun q=>w.heap.size≤q) (fun q _ e=>by rcases e with e|e|e <;>omega)).below' (by omega));exact h1.trans ((hpf.imp (D':=fun q=>w.heap.size≤q) (fun q _ e=>by omega)).below' h1.size)⟩)
  clear hbx hrow hSv hf hpf hnv;gi_wp2;refine⟨by simp,.inl ⟨_,_,rfl,run_takeDeferred hK, ?_⟩⟩;refine⟨_,results_tmp rfl _ _ _, ?_⟩;exact HFIN.out
 case stop=>
  intro c S pre W hpre h;exact h.elim
end Go.Proofs.YthihjcannjhonaaGreatDoor
namespace Hg
def Gj(M:Nat→Option Node)(mod fn:Str)(m:Nat)(l:List Nat):Option Nat:=l.find? fun f=>Cf M m==mod && Cf M f==fn
def Ey(M:Nat→Option Node)(mod fn:Str):List Nat→Option Nat
 |[]=>none
 |m::l=>match Gj M mod fn m (BI M m) with|some f=>some f|none=>Ey M mod fn l
def Ih(M:Nat→Option Node)(mod fn:Str):Nat:=(Ey M mod fn (Bq M)).getD 0
def F8(M:Nat→Option Node):Nat:=match M (Ih M Cj Cj) with
 |none=>0
 |some n=>if n.type=1∧(Bl M (Ih M Cj Cj) 4).length=0 then Ih M Cj Cj else 0
theorem LV{M:Nat→Option Node}{mod fn:Str}{m f:Nat}{l:List Nat}(h:Gj M mod fn m l=some f):f∈l:=List.mem_of_find?_eq_some h
theorem RF{M:Nat→Option Node}(hk:KB M){mod fn:Str}{f:Nat}:∀{l:List Nat},Ey M mod fn l=some f→f < 18446744073709551616
 |[],h=>by cases h
 |m::l,h=>by
   rw[Ey] at h;cases hf:Gj M mod fn m (BI M m) with
   |some g=>
     rw[hf] at h;have h:some g=some f:=h;injection h with h;subst h;exact hk.kids m 3 _ (LV hf)
   |none=>rw[hf] at h;exact RF hk h
theorem XF{M:Nat→Option Node}(hk:KB M)(mod fn:Str):Ih M mod fn < 18446744073709551616:=by
 unfold Ih;cases h:Ey M mod fn (Bq M) with
 |none=>decide
 |some f=>exact RF hk h
end Hg
namespace Go.Proofs.YthihjcannjhonaaGreatDoor
open Go.RowKit
open Hg (GT gl wk isK ndAt Bl Bq BI KB Cf CW Bo Gj Ey Ih F8 Cj)
theorem XE(ab:Nat)(M:Nat→Option Hg.Node)(mod fn:List UInt8)(w:World)(hA:ArOk w ab M):
 Calls Tryz.prog 42 #[.pointer (some ⟨ab,0,none⟩),strV mod,strV fn] w fun e w'=>e= .returned (idV (Ih M mod fn))∧Below w.heap.size w w':=by
 have T1:=zz (Lr ab M w hA);have HA:=zz hA;have hml:=hA.lenK 1 2;have hmm:=hA.2.kids 1 2;have HMM:=zz hmm;generalize hR:Ey M mod fn (Bq M)=R;have HR0:=zz hR;have HFK:=zz (show Ih M mod fn=R.getD 0 from by unfold Ih;rw[hR]);clear hA hmm hR;go_enter Tryz.func42,Tryz.ntmps42;go_wp2_with fail;refine T1.out.mono ?_;rintro e w1 ⟨⟨v,rfl,ho1⟩,hb1⟩;obtain⟨a,c,rfl⟩:=(Sl.Aj ho1).form;have HS:=zz (Sl.Aj ho1);have HB1:=zz hb1;have HA1:=zz (HA.out.below hb1);change (Bq M).length≤1000000 at hml;clear ho1 hb1 T1;go_wp2
 go_loopw [14] (fun p wr=>∃i:Nat,p= .int .i64 (i:Int)∧i≤(Bq M).length∧Below w1.heap.size w1 wr∧Ey M mod fn ((Bq M).drop i)=R) (fun p wr=>(Bq M).length-(intOf p).toNat)
 case atStart=>exact⟨0,rfl,Nat.zero_le _,AP,HR0.out⟩
 case round=>
  obtain⟨i,rfl,hi,hb,hR⟩:=hrel;have HB:=zz hb;clear hb;by_cases hlt:i < (Bq M).length
  ·obtain⟨b,o,rfl,_,kc⟩:=(HS.out.below HB.out AA).mapAt hlt
   have hmi:=HMM.out _ (List.getElem_mem hlt);rw[Aw hlt,Ey] at hR;generalize(Bq M)[i]=m at kc hmi hR;have T2:=zz (Ot ab M m wr (HA1.out.below HB.out) hmi);have hfl:=(HA1.out.below HB.out).lenK m 3;have HFM:=zz (HA.out.2.kids m 3);have HR:=zz hR;change (BI M m).length≤1000000 at hfl;clear hR;go_wp2_with fail;refine T2.out.mono ?_;rintro e w2 ⟨⟨v2,rfl,ho2⟩,hb2⟩;obtain⟨a2,c2,rfl⟩:=(Sl.Aj ho2).form;have HS2:=zz (Sl.Aj ho2);have HB2:=zz (HB.out.trans (hb2.mono HB.out.size));clear ho2 hb2 T2;generalize hR2:Gj M mod fn m (BI M m)=R2 at HR;have HR2:=zz hR2;clear hR2;go_wp2
   go_loopw [22] (fun p wr=>∃j:Nat,p= .int .i64 (j:Int)∧j≤(BI M m).length∧Below w2.heap.size w2 wr∧Gj M mod fn m ((BI M m).drop j)=R2) (fun p wr=>(BI M m).length-(intOf p).toNat)
   case atStart=>exact⟨0,rfl,Nat.zero_le _,AP,HR2.out⟩
   case round=>
    obtain⟨j,rfl,hj,hb3,hr2⟩:=hrel;have HB3:=zz hb3;have HB3':=zz (HB2.out.trans (hb3.mono HB2.out.size));clear hb3;by_cases hltj:j < (BI M m).length
    ·obtain⟨b2,o2,rfl,_,kc2⟩:=(HS2.out.below HB3.out AA).mapAt hltj
     have hfj:=HFM.out _ (List.getElem_mem hltj);rw[Aw hltj] at hr2;unfold Gj at hr2;rw[List.find?_cons] at hr2;generalize(BI M m)[j]=f at kc2 hfj hr2;have TN:=zz (LJ ab M m wr (HA1.out.below HB3'.out) hmi);replace hr2:(match Cf M m==mod && Cf M f==fn with|true=>some f|false=>Gj M mod fn m ((BI M m).drop (j+1)))=R2:=hr2;have HR3:=zz hr2;clear hr2;generalize hnm:Cf M m=nm at TN HR3;have HNM:=zz hnm;clear hnm;by_cases hm:nm=mod
     ·subst hm
      go_wp2_with fail;refine TN.out.mono ?_;rintro e w3 ⟨rfl,hb3⟩;have HB4:=zz (HB3'.out.trans (hb3.mono HB3'.out.size));have HB5:=zz (HB3.out.trans (hb3.mono HB3.out.size));have TF:=zz (LJ ab M f w3 (HA1.out.below HB4.out) hfj);generalize hnf:Cf M f=nf at TF HR3;have HNF:=zz hnf;clear hb3 TN hnf;by_cases hf:nf=fn
      ·subst hf
       have hr3:=HR3.out;simp only[beq_self_eq_true,Bool.and_self] at hr3;go_wp2_with fail;refine TF.out.mono ?_;rintro e w4 ⟨rfl,hb4⟩;have HB6:=zz (HB1.out.trans ((HB4.out.trans (hb4.mono HB4.out.size)).mono HB1.out.size));clear hb4 TF;subst hr3;have hR:=HR.out;have hR:some f=R:=hR;subst hR;go_wp2;go_ret;rw[HFK.out];exact⟨rfl,HB6.out⟩
      ·have hr3:=HR3.out
       have hbf:(nf==fn)=false:=by simpa using hf
       rw[hbf,Bool.and_false] at hr3;have HR5:=zz hr3;clear hr3;go_wp2_with fail;refine TF.out.mono ?_;rintro e w4 ⟨rfl,hb4⟩;have HB7:=zz (HB5.out.trans (hb4.mono HB5.out.size));clear hb4 TF;go_wp2;go_roundw
       case rel=>exact⟨j+1,by go_num,by omega,HB7.out,HR5.out⟩
       case measure=>simp[intOf];omega
     ·have hr3:=HR3.out
      have hbf:(nm==mod)=false:=by simpa using hm
      rw[hbf,Bool.false_and] at hr3;have HR5:=zz hr3;clear hr3;go_wp2_with fail;refine TN.out.mono ?_;rintro e w3 ⟨rfl,hb3⟩;have HB5:=zz (HB3.out.trans (hb3.mono HB3.out.size));clear hb3 TN;go_wp2;go_roundw
      case rel=>exact⟨j+1,by go_num,by omega,HB5.out,HR5.out⟩
      case measure=>simp[intOf];omega
    ·obtain rfl:j=(BI M m).length:=by omega
     rw[List.drop_length] at hr2;have hr2:none=R2:=hr2;subst hr2;have HR4:=zz (show Ey M mod fn ((Bq M).drop (i+1))=R from HR.out);go_wp2;go_roundw
     case rel=>exact⟨i+1,by go_num,by omega,HB3'.out,HR4.out⟩
     case measure=>simp[intOf];omega
  ·obtain rfl:i=(Bq M).length:=by omega
   rw[List.drop_length] at hR;have hR:none=R:=hR;subst hR;go_wp2;go_ret;rw[HFK.out];exact⟨rfl,HB1.out.trans (HB.out.mono HB1.out.size)⟩
theorem NK(ab:Nat)(M:Nat→Option Hg.Node)(w:World)(hA:ArOk w ab M):
 Calls Tryz.prog 20 #[.pointer (some ⟨ab,0,none⟩)] w fun e w'=>e= .returned (idV (F8 M))∧Below w.heap.size w w':=by
 have T1:=zz (XE ab M Cj Cj w hA);have HA:=zz hA;generalize hr:F8 M=r;unfold F8 at hr;have hfl:=Hg.XF hA.2 Cj Cj;generalize hf:Ih M Cj Cj=f at hr hfl T1;clear hA hf;have hget:∀W,ArOk W ab M→∀o,M f=o→Calls Tryz.prog 43 #[.pointer (some ⟨ab,0,none⟩),.int .u64 (f:Int)] W (H5 W o):=fun W h o e=>e ▸ h.get hfl;cases hM:M f with
 |none=>
   rw[hM] at hr;have hr:0=r:=hr;subst hr;go_enter Tryz.func20,Tryz.ntmps20;go_wp2_with fail;refine T1.out.mono ?_;rintro e w1 ⟨rfl,hb1⟩;have TG:=zz (hget w1 (HA.out.below hb1) none hM);have HB1:=zz hb1;clear T1 hb1;go_wp2_with fail;refine TG.out.mono ?_;rintro e w2 ⟨ka,kc,rfl,ho,hb2⟩;have HB2:=zz (HB1.out.trans (hb2.mono HB1.out.size));clear TG ho hb2;go_wp2;go_ret;exact⟨rfl,HB2.out.alloc HB2.out.size _⟩
 |some nd=>
   rw[hM] at hr;have hr:(if nd.type=1∧(Bl M f 4).length=0 then f else 0)=r:=hr;have HR:=zz hr;clear hr;go_enter Tryz.func20,Tryz.ntmps20;go_wp2_with fail;refine T1.out.mono ?_;rintro e w1 ⟨rfl,hb1⟩;have TG:=zz (hget w1 (HA.out.below hb1) (some nd) hM);have HB1:=zz hb1;clear T1 hb1;go_wp2_with fail;refine TG.out.mono ?_;rintro e w2 ⟨ka,kc,rfl,ho,hb2⟩;have HB2:=zz (HB1.out.trans (hb2.mono HB1.out.size));have hb3:=HB2.out.alloc HB2.out.size (.cells (Ae nd ka kc) 54);have HB3:=zz hb3;have TK:=zz (KQ ab M f 4 _ (HA.out.below hb3) hfl);clear TG ho hb2 hb3;by_cases ht:nd.type=1
   ·have hq:((nd.type:Int) !=1)=false:=by simp[ht]
    have hq2:((nd.type:Int)==1)=true:=by simp[ht]
    rw[ht] at HR;clear ht;go_wp2_with fail;refine TK.out.mono ?_;rintro e w4 ⟨⟨v,rfl,ho4⟩,hb4⟩;obtain⟨a4,c4,rfl⟩:=(Sl.Aj ho4).form;have HB4:=zz (HB3.out.trans (hb4.mono HB3.out.size));have hr:=HR.out;simp only[true_and] at hr;clear TK ho4 hb4;by_cases hk:(Bl M f 4).length=0
    ·rw[if_pos hk] at hr
     subst hr;generalize(Bl M f 4).length=n at hk⊢;subst hk;go_wp2;go_ret;exact⟨rfl,HB4.out⟩
    ·rw[if_neg hk] at hr
     subst hr;generalize(Bl M f 4).length=n at hk⊢;have hk2:0 < n:=by omega
     go_wp2;go_ret;exact⟨rfl,HB4.out⟩
   ·have hq:((nd.type:Int) !=1)=true:=by simp;omega
    have hq2:((nd.type:Int)==1)=false:=by simp;omega
    have hr:=HR.out;rw[if_neg (fun h=>ht h.1)] at hr;subst hr;clear ht TK;go_wp2;go_ret;exact⟨rfl,HB3.out⟩
end Go.Proofs.YthihjcannjhonaaGreatDoor
namespace Go.Proofs.YthihjcannjhonaaGreatDoor.Rn
open Go.RowKit
open Hg (Fz fs0)
variable {ab mb nb:Nat} {w0 w w':World}
@[reducible] def resV(e:Nat)(x:Int)(v:Value)(u rd:Nat):Value:= .agg #[.int .u8 (e:Int),i64V x,v,.int .i64 (u:Int),.int .i64 (rd:Int)]
def C0(M:Nat→Option Hg.Node):QC:=⟨M,0,[],[],.slice none 0 0⟩
theorem Mach.Yu{M:Nat→Option Hg.Node}(hA:ArOk w ab M):
 Mach (C0 M) (fun _=>False) ab (w.heap.size+1) w.heap.size w ((w.alloc (.map #[] 0)).alloc (.cells (JF (.slice none 0 0) ab w.heap.size 0 fs0 (.slice none 0 0)) 63)) fs0 (.slice none 0 0):=by
 have h1:Below w.heap.size w (w.alloc (.map #[] 0)):=(AP).alloc AA _;have hz:(w.alloc (.map #[] 0)).heap.size=w.heap.size+1:=by simp
 have h2:∀o,Below (w.alloc (.map #[] 0)).heap.size (w.alloc (.map #[] 0)) ((w.alloc (.map #[] 0)).alloc o):=fun o=>(AP).alloc AA _;refine⟨?_,hA,h1.trans ((h2 _).mono h1.size),World.ownsRow_nil _ _ _ _,⟨0,fun _=>none,(Bi.made _ w).below (h2 _) AA,⟨[],List.nodup_nil,rfl,fun k=>by simp,fun k hk=>by cases hk⟩,fun id n h=>(by cases h)⟩,⟨by omega,AA⟩,fun e=>(by cases e),Nat.zero_le _,Nat.zero_le _,AA,Nat.zero_le _,fun q e=>e.elim,Sl.nil _ _,Nat.zero_le _⟩;have h3:=Ac (w.alloc (.map #[] 0)) (.cells (JF (.slice none 0 0) ab w.heap.size 0 fs0 (.slice none 0 0)) 63);rw[hz] at h3;exact h3
theorem VZ{M:Nat→Option Hg.Node}(f:Nat)(hM:Mach (C0 M) (fun _=>False) ab mb nb w0 w fs0 (.slice none 0 0)):
 Calls Tryz.prog 19 #[.pointer (some ⟨mb,0,none⟩),.int .u64 (f:Int),.slice none 0 0] w fun e w'=>e= .returned (i64V 0)∧Mach (C0 M) (fun _=>False) ab mb nb w0 w' {fs0 with e:=2} (.slice none 0 0):=by
 have TB:=XU hM;unfold Py at TB;rw[show(C0 M).burn fs0=(false,{fs0 with e:=2}) from rfl] at TB;have TB:=zz TB;clear hM;go_enter Tryz.func19,Tryz.ntmps19;go_wp2_with fail;refine TB.out.mono ?_;rintro e w1 ⟨rfl,hm1,hf1⟩;have HM1:=zz hm1;clear hm1 hf1 TB;go_wp2;go_ret;exact⟨rfl,HM1.out⟩
theorem Sj{w:World}{b:Nat}{a0 a1 a2 a3 a4 a5 a6 a7 a8:Value}(h:w.heap[b]? =some (.cells #[a0,a1,a2,a3,a4,a5,a6,a7,a8] 63 (0,0))):
 w.cell? ⟨b,4,none⟩=some a4∧w.cell? ⟨b,5,none⟩=some a5∧w.cell? ⟨b,6,none⟩=some a6∧w.cell? ⟨b,7,none⟩=some a7∧w.cell? ⟨b,8,none⟩=some a8∧∀i,w.frozen? ⟨b,i,none⟩=false:=by
 have z:=fun i=>AJ w b i _ _ (0,0) h;have z4:=z 4;have z5:=z 5;have z6:=z 6;have z7:=z 7;have z8:=z 8;simp at z4 z5 z6 z7 z8;exact⟨z4,z5,z6,z7,z8,fun i=>by simp[World.frozen?,h]⟩
theorem Ms{B g:Nat}{w w1:World}(h:Below B w w1)(hg:B≤g)(u0 u1 u2 u3 u4:Value):
 Below B w (((((w1.setCell ⟨g,0,none⟩ u0).setCell ⟨g,1,none⟩ u1).setCell ⟨g,2,none⟩ u2).setCell ⟨g,3,none⟩ u3).setCell ⟨g,4,none⟩ u4):=
 ((((h.setCell (p:=⟨g,0,none⟩) hg _).setCell (p:=⟨g,1,none⟩) hg _).setCell (p:=⟨g,2,none⟩) hg _).setCell (p:=⟨g,3,none⟩) hg _).setCell (p:=⟨g,4,none⟩) hg _
def Xl(e:Nat)(w:World)(x:Ending)(w':World):Prop:=x= .returned (resV e 0 (.slice none 0 0) 0 0)∧Below w.heap.size w w'
theorem WE{M:Nat→Option Hg.Node}{F:Int}(hF:F≤0)(hA:ArOk w ab M)(hT:DX w)
 (hR:∀W,ArOk W ab M→DX W→Calls Tryz.prog 18 #[.pointer (some ⟨ab,0,none⟩)] W fun e w'=>e= .returned (.int .i64 0)∧Below W.heap.size W w'):
 Calls Tryz.prog 8 #[.pointer (some ⟨ab,0,none⟩),.slice none 0 0,.int .i64 F] w (Xl 2 w):=by
 have hb1:Below w.heap.size w (w.alloc (.cells #[.int .u8 0,.int .i64 0,.slice none 0 0,.int .i64 0,.int .i64 0] 31)):=(AP).alloc AA _;have hn1:=Ac w (.cells #[.int .u8 0,.int .i64 0,.slice none 0 0,.int .i64 0,.int .i64 0] 31);have hz1:(w.alloc (.cells #[.int .u8 0,.int .i64 0,.slice none 0 0,.int .i64 0,.int .i64 0] 31)).heap.size=w.heap.size+1:=by simp
 have HR:=zz (fun W (hb:Below w.heap.size w W)=>hR W (hA.below hb) (hT.block (hb.block _ hT.lt)));have HS:=zz (fun W (hb:Below w.heap.size w W)=>Mach.Yu (hA.below hb));have HA:=zz hA;have hmx:max F 0=0:=by omega
 have hmn:min (0:Int) 50000=0:=by omega
 have hmm:= @run_makeMap Tryz.prog;clear hA hT hR hF;go_enter Tryz.func8,Tryz.ntmps8;go_upto_region 1 with fail;generalize World.alloc w _=w1 at hb1 hn1 hz1⊢;have TR:=zz (HR.out w1 hb1);go_wp2_with fail;refine TR.out.mono ?_;rintro e w2 ⟨rfl,hb2⟩;have HB2:=zz (hb1.trans (hb2.mono hb1.size));have hn2:=(hb2.block w.heap.size (by omega)).trans hn1;have HZ2:=zz (show w.heap.size < w2.heap.size from by have:=hb2.size;omega);have HN2:=zz hn2;clear hb2 hb1 hn1 hz1 TR hn2;go_upto_region 4 with fail;generalize hW:World.alloc (World.alloc w2 _) _=w4;have hM4:Mach (C0 M) (fun _=>False) ab (w2.heap.size+1) w2.heap.size w2 w4 fs0 (.slice none 0 0):=by
  have:=HS.out w2 HB2.out;rw[←hW];exact this
 have hb4:Below w.heap.size w w4:=by rw[←hW];exact(HB2.out.alloc HB2.out.size _).alloc (by have:=HB2.out.size;simp;omega) _
 have HM4:=zz hM4;have HB4:=zz hb4;have TM:=zz (NK ab M w4 (HA.out.below hb4));generalize hnb:w2.heap.size=nb at*;clear hM4 hb4 hW;generalize Hg.F8 M=f at TM;go_wp2_with fail;refine TM.out.mono ?_;rintro e w5 ⟨rfl,hb5⟩;have TC:=zz (VZ f (HM4.out.below hb5));have HB5:=zz (HB4.out.trans (hb5.mono HB4.out.size));clear TM hb5 HS;go_wp2_with fail;refine TC.out.mono ?_;rintro e w6 ⟨rfl,hM6⟩;have hB6:=HB2.out.trans (hM6.bel.mono HB2.out.size);have hn6:=(hM6.bel.block w.heap.size (by have:=HZ2.out;omega)).trans HN2.out;have HB6:=zz hB6;obtain⟨c4,c5,c6,c7,c8,cf⟩:=Sj hM6.cell;have ff:∀i,w6.frozen? ⟨w.heap.size,i,none⟩=false:=fun i=>by simp[World.frozen?,hn6]
 have zv:=fun i=>AJ w6 w.heap.size i _ _ (0,0) hn6;have z0:=zv 0;have z1:=zv 1;have z2:=zv 2;have z3:=zv 3;have z4:=zv 4;simp at z0 z1 z2 z3 z4;have hne:nb+1≠w.heap.size:=by have:=HZ2.out;omega
 have hne2:w.heap.size≠nb+1:=fun e=>hne e.symm;clear hM6 hB6 hn6 zv TC HN2 hnb;generalize nb+1=mb at*;go_wp2;exact bodyPost_ret (v:=resV 2 0 (.slice none 0 0) 0 0) (by simp[results,Tryz.results8,go_sem,z0,z1,z2,z3,z4,ff,hne,hne2,Hg.fs0]) rfl ⟨rfl,Ms HB6.out AA _ _ _ _ _⟩
theorem WC{r:Nat}(hr:r≠0)(F:Int)(w:World)
 (hR:∀W,Below w.heap.size w W→Calls Tryz.prog 18 #[.pointer (some ⟨ab,0,none⟩)] W fun e w'=>e= .returned (.int .i64 (r:Int))∧Below W.heap.size W w'):
 Calls Tryz.prog 8 #[.pointer (some ⟨ab,0,none⟩),.slice none 0 0,.int .i64 F] w (Xl 3 w):=by
 have hb1:Below w.heap.size w (w.alloc (.cells #[.int .u8 0,.int .i64 0,.slice none 0 0,.int .i64 0,.int .i64 0] 31)):=(AP).alloc AA _;have hn1:=Ac w (.cells #[.int .u8 0,.int .i64 0,.slice none 0 0,.int .i64 0,.int .i64 0] 31);have hz1:(w.alloc (.cells #[.int .u8 0,.int .i64 0,.slice none 0 0,.int .i64 0,.int .i64 0] 31)).heap.size=w.heap.size+1:=by simp
 have HR:=zz hR;have q:((r:Int) !=0)=true:=by simp[hr]
 clear hR hr;go_enter Tryz.func8,Tryz.ntmps8;go_upto_region 1 with fail;generalize World.alloc w _=w1 at hb1 hn1 hz1⊢;have TR:=zz (HR.out w1 hb1);go_wp2_with fail;refine TR.out.mono ?_;rintro e w2 ⟨rfl,hb2⟩;have HB2:=zz (hb1.trans (hb2.mono hb1.size));have hn2:=(hb2.block w.heap.size (by omega)).trans hn1;have ff:∀i,w2.frozen? ⟨w.heap.size,i,none⟩=false:=fun i=>by simp[World.frozen?,hn2]
 have zv:=fun i=>AJ w2 w.heap.size i _ _ (0,0) hn2;have z0:=zv 0;have z1:=zv 1;have z2:=zv 2;have z3:=zv 3;have z4:=zv 4;simp at z0 z1 z2 z3 z4;clear hb2 hb1 hn1 hz1 TR hn2 zv HR;go_wp2;exact bodyPost_ret (v:=resV 3 0 (.slice none 0 0) 0 0) (by simp[results,Tryz.results8,go_sem,z0,z1,z2,z3,z4,ff]) rfl ⟨rfl,Ms HB2.out AA _ _ _ _ _⟩
end Go.Proofs.YthihjcannjhonaaGreatDoor.Rn
