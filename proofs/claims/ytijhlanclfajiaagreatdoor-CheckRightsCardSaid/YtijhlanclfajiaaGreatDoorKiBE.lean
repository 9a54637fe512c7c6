/-
  A part of the proof.
-/
import Derived.Test.YtijhlanclfajiaaGreatDoorKiBD
import Derived.RangeFuncNested
import Derived.RangeFuncBound
import Derived.Maps.OwnIn
set_option linter.all false
set_option maxHeartbeats 32000000
set_option maxRecDepth 100000
namespace Go.Proofs.YtijhlanclfajiaaGreatDoor
open Go.RowKit
open Hg (GT gl)
section
variable {P:Program} {ops:Array Oper} {Q:Exit→Act→World→Prop} {md:Region.Mode} {l n:Nat}
theorem RZ{o:Oper}{a:Act}{w:World}{K:Act→World→Prop}(hd:∀c,o.op≠ .defer c)(h:o.wp P a w K Q):o.wpIn (Fence.wide.inRound l) n P a w K Q:=by
 unfold Oper.wpIn;refine⟨fun _ _=>trivial, ?_⟩;have e:Oper.semAt (Fence.wide.inRound l).round a.eval o=execOp a.eval o:=Oper.semAt_some l _ o hd;rw[e];unfold Oper.wp at h;generalize(execOp a.eval o).run P w=r at h⊢;cases r with
 |halt c w'=>
   cases c <;>first|exact h|exact h.elim
 |ok x w'=>
   cases x with
   |value v=>exact h
   |skip=>exact h
   |enter f args=>
     refine⟨fun hs=>(by cases hs),CallsIn.inRound l ?_⟩;refine callsIn_wide.2 (Calls.mono h ?_);intro e w2 he;cases e <;>exact he
   |row r args=>
     refine⟨fun hs=>(by cases hs), ?_⟩;intro c cs _;obtain⟨v,w2,hr,hs⟩:=h c cs;exact⟨v,w2,hr,stepsIn_wide.2 hs⟩
   |_=>first|exact h|exact h.elim
theorem O3{i:Nat}{a:Act}{w:World}{K:Act→World→Prop}(hd:∀(j:Nat) (o:Oper) c,ops[j]? =some o→o.op≠ .defer c)(hQ:¬LetsOut Q)(h:wpOp P ops Q i K a w):wpOpIn (Fence.wide.inRound l) n P ops Q i K a w:=by
 unfold wpOpIn;unfold wpOp at h;cases ho:ops[i]? with
 |none=>rw[ho] at h;exact h
 |some o=>
   rw[ho] at h;dsimp only at h⊢;by_cases hw:Region.wanted o (yielded ops a.tmps)=true
   ·rw[if_pos hw] at h⊢
    rcases h with h|h
    ·exact RZ (fun c=>hd i o c ho) h
    ·exact absurd h.2 hQ
   ·rw[if_neg hw] at h⊢
    exact⟨fun _ _=>trivial,h⟩
theorem JI(hd:∀(j:Nat) (o:Oper) c,ops[j]? =some o→o.op≠ .defer c)(hQ:¬LetsOut Q):∀(fuel:Nat) (listed:Array Bool) (a:Act) (w:World),wpAny P md ops Q fuel listed a w→wpAnyIn (Fence.wide.inRound l) n P md ops Q fuel listed a w
 |0,_,_,_,h=>h
 |fuel+1,listed,a,w,h=>⟨h.1,fun i hi=>wpOpIn_mono (fun a' w' h'=>JI hd hQ fuel _ a' w' h') (O3 hd hQ (h.2 i hi))⟩
def Tp(ops:Array Oper):Bool:=ops.all fun o=>match o.op with| .defer _=>false|_=>true
theorem PR(h:Tp ops=true):∀(j:Nat) (o:Oper) c,ops[j]? =some o→o.op≠ .defer c:=by
 intro j o c ho e;have:=Array.all_eq_true_iff_forall_mem.1 h o (Array.mem_of_getElem? ho);rw[e] at this;cases this
theorem BB{id:Nat}{a:Act}{w:World}(S:World→Prop)(k:Nat)(hm:P.follows .mixedOrders=true)(hd:Tp ops=true)(hQ:¬LetsOut Q)
 (h:Bu P .any ops Q S k ops.size (Array.replicate ops.size false) a w.drew):(Code.region id ops true).wpIn (Fence.wide.inRound l) n P Q a w:=
 wpIn_region_any hm (JI (PR hd) hQ _ _ _ _ (FP _ _ _ _ h))
end
structure Am where
 id:Nat
 nd:Hg.Node
 ka:Option Addr
 kc:Nat
def Am.strip(x:Am):Nat×Hg.Node:=(x.id,x.nd)
@[reducible] def Am.kv(x:Am):Value:= .slice x.ka x.nd.kids.length x.kc
@[reducible] def Am.enc(x:Am):Array Value:= #[idV x.id,ndV x.nd x.ka x.kc]
def Am.kb(x:Am)(q:Nat):Prop:=x.kv.ownBlock=some q
def Am.At(x:Am)(w:World):Prop:=Sl w w.heap.size x.kv x.nd.kids.length (x.nd.kids.map idV)
def SeqW(P:Program)(gf:Nat)(lb:Array Value)(Bs:Nat→Prop)(n₀:Nat)(xs:List (Nat×Hg.Node))(w0:World):Prop:=
 ∀(m l:Nat) (J:(Nat→Prop)→List Am→World→Prop) (Jx:List Am→World→Prop) (W:World),Fr (fun q=>n₀≤q∧¬Bs q) w0 W→
   (∀Z pre A B,J Z pre A→Fr Z A B→J (fun q=>Z q∨A.heap.size≤q∧q < B.heap.size) pre B)→
   (∀ Z pre x A, J Z pre A → (∀ q, Z q → q < A.heap.size) → (pre ++ [x]).map Am.strip <+: xs → x.At A → (∀ q, x.kb q → Z q) →
    YieldAt Fence.wide (m-1) P l x.enc A fun e W'=>(e= .returned (.bool true)∧J Z (pre++[x]) W'∧Fr (fun q=>n₀≤q∧¬Z q) A W')∨(e= .returned (.bool false)∧Jx (pre++[x]) W'))→
   J Bs [] W→
   CallsIn Fence.wide m P gf (#[.func (.yield l) #[] #[]]++lb) W fun e W'=>(∃v,e= .returned v)∧((∃Z ys,ys.map Am.strip=xs∧J Z ys W')∨(∃pre,pre.map Am.strip <+:xs∧Jx pre W'))
def WP(I:(Nat→Prop)→List Am→World→Prop)(Ix:Code→(Nat→Prop)→List Am→World→Prop)(S:Nat→Prop)(xs:List Am)(W:World):Exit→Act→World→Prop
 | .normal,_,W'=>∃S',I S' xs W'∧Fr S W W'∧∀q,S' q→S q∨W.heap.size≤q
 | .ret,_,W'=>∃S',Ix .ret S' xs W'∧Fr S W W'∧∀q,S' q→S q∨W.heap.size≤q
 | .exit id,_,W'=>∃S',Ix (.exit id) S' xs W'∧Fr S W W'∧∀q,S' q→S q∨W.heap.size≤q
 |_,_,_=>False
variable {n:Nat} {P:Program}
theorem CV(W:World)(l:Nat)(o:Obj):Fr (fun q=>q=l) W (W.putObj l o):=Fr.EQ (grownBy_putObj' W l o) (fun q e=>by injection e with e;exact e.symm)
theorem GL{g:Operand}{ps:Array Tmp}{assign body:Code}{Q:Exit→Act→World→Prop}{a:Act}{w:World}
 {gf:Nat} {lb:Array Value} (hg:a.eval g= .func (.func gf) #[] lb) (eg:∀args w,(callFunc gf args).run P w= .ok (.enter gf args) w)
 {Bs:Nat→Prop} {n₀:Nat} {xs:List (Nat×Hg.Node)} {w0:World} (hseq:SeqW P gf lb Bs n₀ xs w0) (hb0:Fr (fun q=>n₀≤q∧¬Bs q) w0 w) (hps:ps.size=2)
 (hB0:∀q,Bs q→n₀≤q∧q < w.heap.size) (hn₀:n₀≤w.heap.size)
 (I:(Nat→Prop)→List Am→World→Prop) (Ix:Code→(Nat→Prop)→List Am→World→Prop) (I1:(Nat→Prop)→List Am→Am→Act→World→Prop)
 (hI:∀S pre A B,I S pre A→Fr (fun q=>¬S q) A B→I S pre B) (hIx:∀c S pre A B,Ix c S pre A→Fr (fun q=>¬S q) A B→Ix c S pre B)
 (hI1:∀S pre x a A B,I1 S pre x a A→Fr (fun q=>¬(S q∨x.kb q)) A B→I1 S pre x a B)
 (hIl:∀S pre A,I S pre A→∀q,S q→q < A.heap.size) (hI1l:∀S pre x a A,I1 S pre x a A→∀q,S q→q < A.heap.size)
 (S0:Nat→Prop) (h0:I S0 [] w) (hS0:∀q,S0 q→n₀≤q∧q < w.heap.size∧¬Bs q)
 (hassign : ∀ (l m : Nat) (S : Nat → Prop) (pre : List Am) (x : Am) (A : World) (K : Act → World → Prop), I S pre A → (pre ++ [x]).map Am.strip <+: xs → x.At A → (∀ q, x.kb q → ¬ S q) → Fr (fun q => S0 q ∨ Bs q) w A →
  (∀S1 a1 A1,I1 S1 pre x a1 A1→Fr S A A1→(∀q,S1 q→S q∨A.heap.size≤q)→K a1 A1)→
  assign.wpIn (Fence.wide.inRound l) m P (Exit.then K (fun _ _ _=>False)) {tmps:=(ps.zip x.enc).foldl (fun t (p,v)=>t.setIfInBounds p v) a.tmps,defers:=[]} A)
 (hbody : ∀ (l m : Nat) (S : Nat → Prop) (pre : List Am) (x : Am) (a1 : Act) (A : World), I1 S pre x a1 A → (pre ++ [x]).map Am.strip <+: xs → Fr (fun q => S0 q ∨ Bs q) w A →
  body.wpIn (Fence.wide.inRound l) m P (WP I Ix S (pre++[x]) A) a1 A)
 (hdone:∀(S:Nat→Prop) (ys:List Am) (W:World),ys.map Am.strip=xs→I S ys W→W.heap[w.heap.size]? =some (.deferred (some []))→¬S w.heap.size→Fr (fun q=>S0 q∨Bs q) w W→Q .normal {a with defers:={target:= .collected w.heap.size,args:= #[]}::a.defers} W)
 (hstop:∀(c:Code) (S:Nat→Prop) (pre:List Am) (W:World),pre.map Am.strip <+:xs→Ix c S pre W→W.heap[w.heap.size]? =some (.deferred (some []))→¬S w.heap.size→Fr (fun q=>S0 q∨Bs q) w W→c.wpIn Fence.wide n P Q {a with defers:={target:= .collected w.heap.size,args:= #[]}::a.defers} W):
 (Code.rangeFunc g ps assign body).wpIn Fence.wide n P Q a w:=by
 refine wpIn_rangeFunc ?_;intro fn hfn;show∃(l:Nat) (mark:List Deferred) (w₁:World) (d:Deferred) (w₁':World) (f:FuncId) (args:Array Value) (w₂:World),(Instr.enterLoop fn a.tmps ps assign body none).run P w= .ok (l,mark) w₁∧_;obtain⟨rec,hrec⟩:∃rec:LoopState→Option Code→Loop,rec=fun st pe=>{state:=st,pending:=pe,fn,tmps:=a.tmps,params:=ps,assign,body,defers:=w.heap.size}:=⟨_,rfl⟩;obtain⟨W1,hW1⟩:∃W1,(w.alloc (.deferred (some []))).alloc (.loop (rec .ready none))=W1:=⟨_,rfl⟩;have hL1:W1.heap[w.heap.size+1]? =some (.loop (rec .ready none)):=by
  rw[←hW1];have:=World.alloc_heap_new (w.alloc (.deferred (some []))) (.loop (rec .ready none));rwa[World.size_alloc] at this
 have hK1:W1.heap[w.heap.size]? =some (.deferred (some [])):=by
  rw[←hW1];exact(Below.heap_alloc _ _ _ (by simp)).trans (World.alloc_heap_new w _)
 have hf1:∀D,Fr D w W1:=fun D=>by rw[←hW1];exact((Fr.refl D w).alloc _).alloc _
 have hI1':I S0 [] W1:=hI _ _ _ _ h0 (hf1 _);have hb1:Fr (fun q=>n₀≤q∧¬Bs q) w0 W1:=hb0.trans (hf1 _);refine⟨w.heap.size+1,[{target:= .collected w.heap.size,args:= #[]}],W1,{target:= .fn (.func gf) lb,args:= #[.func (.yield (w.heap.size+1)) #[] #[]]},W1,gf,
  #[.func (.yield (w.heap.size+1)) #[] #[]]++lb,W1, ?_, ?_, ?_, ?_,fun hs=>(by cases hs), ?_⟩
 ·rw[←hW1,hrec];exact run_enterLoop_outer _ _ _ _ _
 ·simp only[resolve,hg]
  simp[go_sem]
 ·intro f' hf';trivial
 ·simp[invoke,go_sem,eg]
 ·have hz1:W1.heap.size=w.heap.size+2:=by rw[←hW1];simp
  refine(hseq (n-1) (w.heap.size+1)
   (fun Z pre A=>∃S,I S pre A∧(∀q,S q→n₀≤q∧¬Z q∧q≠w.heap.size+1∧q≠w.heap.size)∧A.heap[w.heap.size+1]? =some (.loop (rec .ready none))∧A.heap[w.heap.size]? =some (.deferred (some []))∧¬Z (w.heap.size+1)∧¬Z w.heap.size∧(∀q,Z q→Bs q∨w.heap.size≤q)∧(∀q,S q→S0 q∨w.heap.size≤q)∧Fr (fun q=>S0 q∨Bs q) w A)
   (fun pre A=>∃c S,Ix c S pre A∧(∀q,S q→q≠w.heap.size+1∧q≠w.heap.size)∧A.heap[w.heap.size+1]? =some (.loop (rec .done (some c)))∧A.heap[w.heap.size]? =some (.deferred (some []))∧Fr (fun q=>S0 q∨Bs q) w A)
   W1 hb1 ?_ ?_ ?_).mono ?_
  ·rintro Z pre A B ⟨S,hi,hS,hl,hk,hzl,hzk,hzb,hsb,hf⟩ hfr
   have hlA:w.heap.size+1 < A.heap.size:=(Ab.1 hl).1;refine⟨S,hI _ _ _ _ hi (hfr.imp (fun q _ hz hs=>(hS q hs).2.1 hz)),fun q hs=>⟨(hS q hs).1, ?_,(hS q hs).2.2⟩,hfr.at_ hl hzl,hfr.at_ hk hzk, ?_, ?_, ?_,hsb,hf.E8 hfr (fun q hq hz=> ?_)⟩
   ·rintro(h|h)
    ·exact(hS q hs).2.1 h
    ·have:=hIl _ _ _ hi q hs;omega
   ·rintro(h|h)
    ·exact hzl h
    ·omega
   ·rintro(h|h)
    ·exact hzk h
    ·omega
   ·rintro q (h|h)
    ·exact hzb q h
    ·exact .inr (by omega)
   ·rcases hzb q hz with h|h
    ·exact .inr h
    ·omega
  ·rintro Z pre x A ⟨S,hi,hS,hl,hk,hzl,hzk,hzb,hsb,hf⟩ hZlt hpre hx hxZ
   have hlA:w.heap.size+1 < A.heap.size:=(Ab.1 hl).1;have hy:=run_yield (P:=P) (args:=x.enc) hl (by rw[hrec];exact hps.symm);rw[hrec] at hy;refine⟨fn,_,assign,body,hy,roundIn_of_wpIn hfn (hassign _ _ S pre x A _ hi hpre hx (fun q hq hs=>(hS q hs).2.1 (hxZ q hq)) hf ?_)⟩;intro S1 a1 A1 hi1 hfa hS1;have hlA1:A1.heap[w.heap.size+1]? =some (.loop (rec .ready none)):=hfa.at_ hl (fun hs=>(hS _ hs).2.2.1 rfl);have hkA1:A1.heap[w.heap.size]? =some (.deferred (some [])):=hfa.at_ hk (fun hs=>(hS _ hs).2.2.2 rfl);have hltA1:w.heap.size+1 < A1.heap.size:=(Ab.1 hlA1).1;refine⟨_,run_beginRound hlA1 (by rw[hrec]), ?_⟩;have hp1:=CV A1 (w.heap.size+1) (.loop {rec .ready none with state:= .busy});have hl2:(A1.putObj (w.heap.size+1) (.loop {rec .ready none with state:= .busy})).heap[w.heap.size+1]? =some (.loop {rec .ready none with state:= .busy}):=World.putObj_heap_same hltA1;have hk2:(A1.putObj (w.heap.size+1) (.loop {rec .ready none with state:= .busy})).heap[w.heap.size]? =some (.deferred (some [])):=(World.putObj_heap_other (by omega)).trans hkA1;have hxl:¬x.kb (w.heap.size+1):=fun h=>hzl (hxZ _ h);have hS1l:¬S1 (w.heap.size+1):=fun h=>by
    rcases hS1 _ h with h|h
    ·exact(hS _ h).2.2.1 rfl
    ·omega
   have hS1k:¬S1 w.heap.size:=fun h=>by
    rcases hS1 _ h with h|h
    ·exact(hS _ h).2.2.2 rfl
    ·omega
   have hfA1:Fr (fun q=>S0 q∨Bs q) w A1:=hf.E8 hfa (fun q hq hs=>by
    rcases hsb q hs with h|h
    ·exact .inl h
    ·omega)
   have hi2:=hI1 _ _ _ _ _ _ hi1 (hp1.imp (fun q _ e=>by subst e;rintro(h|h);exact hS1l h;exact hxl h));have hfA2:Fr (fun q=>S0 q∨Bs q) w (A1.putObj (w.heap.size+1) (.loop {rec .ready none with state:= .busy})):=hfA1.E8 hp1 (fun q hq e=>by omega);generalize hA2:A1.putObj (w.heap.size+1) (.loop {rec .ready none with state:= .busy})=A2 at hp1 hl2 hk2 hi2 hfA2;have hz2:A1.heap.size≤A2.heap.size:=hp1.size;refine wpIn_mono (hbody _ _ S1 pre x a1 A2 hi2 hpre hfA2) ?_;have fin:∀(jump:Option Code) (S':Nat→Prop) (W3:World),Fr S1 A2 W3→(∀q,S' q→S1 q∨A2.heap.size≤q)→
    (Instr.endRound (w.heap.size+1) jump).run P W3= .ok (.bool jump.isNone) (W3.putObj (w.heap.size+1) (.loop (rec (if jump.isNone then .ready else .done) jump)))∧
    (W3.putObj (w.heap.size+1) (.loop (rec (if jump.isNone then .ready else .done) jump))).heap[w.heap.size+1]? =some (.loop (rec (if jump.isNone then .ready else .done) jump))∧
    (W3.putObj (w.heap.size+1) (.loop (rec (if jump.isNone then .ready else .done) jump))).heap[w.heap.size]? =some (.deferred (some []))∧
    Fr (fun q=>q=w.heap.size+1) W3 (W3.putObj (w.heap.size+1) (.loop (rec (if jump.isNone then .ready else .done) jump)))∧¬S' (w.heap.size+1)∧¬S' w.heap.size∧
    Fr (fun q=>S0 q∨Bs q) w (W3.putObj (w.heap.size+1) (.loop (rec (if jump.isNone then .ready else .done) jump))):=fun jump S' W3 hf3 hS'=>by
    have hl3:W3.heap[w.heap.size+1]? =some (.loop {rec .ready none with state:= .busy}):=hf3.at_ hl2 hS1l;have hk3:W3.heap[w.heap.size]? =some (.deferred (some [])):=hf3.at_ hk2 hS1k;have:=run_endRound (P:=P) jump hl3;have hpf:=CV W3 (w.heap.size+1) (.loop (rec (if jump.isNone then .ready else .done) jump));refine⟨?_,World.putObj_heap_same (Ab.1 hl3).1,(World.putObj_heap_other (by omega)).trans hk3,hpf,fun h=> ?_,fun h=> ?_, ?_⟩
    ·rw[hrec] at this⊢;exact this
    ·rcases hS' _ h with h|h
     ·exact hS1l h
     ·omega
    ·rcases hS' _ h with h|h
     ·exact hS1k h
     ·omega
    ·refine(hfA2.E8 hf3 (fun q hq hs=> ?_)).E8 hpf (fun q hq e=>by omega)
     rcases hS1 q hs with h|h
     ·rcases hsb q h with h|h
      ·exact .inl h
      ·omega
     ·omega
   rintro e a3 W3 hp;cases e with
   |normal=>
     obtain⟨S',hi3,hf3,hS'⟩:=hp;obtain⟨hr,hl4,hk4,hpf,hSl,hSk,hfw⟩:=fin none S' W3 hf3 hS';have hcls:∀q,S' q→S q∨A.heap.size≤q:=fun q hq=>by
      rcases hS' q hq with h|h
      ·exact hS1 q h
      ·have:=hfa.size;exact .inr (by omega)
     refine⟨_,_,hr,.inl ⟨rfl,⟨S',hI _ _ _ _ hi3 (hpf.imp (fun q _ e hs=>by subst e;exact hSl hs)),fun q hq=>⟨?_, ?_,fun e=>by subst e;exact hSl hq,fun e=>by subst e;exact hSk hq⟩,hl4,hk4,hzl,hzk,hzb,fun q hq=> ?_,hfw⟩, ?_⟩⟩
     ·rcases hcls q hq with h|h
      ·exact(hS q h).1
      ·omega
     ·intro hz
      rcases hcls q hq with h|h
      ·exact(hS q h).2.1 hz
      ·have:=hZlt q hz;omega
     ·rcases hcls q hq with h|h
      ·exact hsb q h
      ·exact .inr (by omega)
     ·have hS1c:∀q,q < A.heap.size→S1 q→n₀≤q∧¬Z q:=fun q hq hs=>by
       rcases hS1 q hs with h|h
       ·exact⟨(hS q h).1,(hS q h).2.1⟩
       ·omega
      refine(((hfa.imp (fun q _ hs=>⟨(hS q hs).1,(hS q hs).2.1⟩)).E8 hp1 (fun q hq e=> ?_)).E8 hf3 (fun q hq hs=>hS1c q hq hs)).E8 hpf (fun q hq e=> ?_)
      ·subst e;exact⟨by omega,hzl⟩
      ·subst e;exact⟨by omega,hzl⟩
   |ret=>
     obtain⟨S',hi3,hf3,hS'⟩:=hp;obtain⟨hr,hl4,hk4,hpf,hSl,hSk,hfw⟩:=fin (some .ret) S' W3 hf3 hS';exact⟨_,_,hr,.inr ⟨rfl,.ret,S',hIx _ _ _ _ _ hi3 (hpf.imp (fun q _ e hs=>by subst e;exact hSl hs)),fun q hq=>⟨fun e=>by subst e;exact hSl hq,fun e=>by subst e;exact hSk hq⟩,hl4,hk4,hfw⟩⟩
   |exit id=>
     obtain⟨S',hi3,hf3,hS'⟩:=hp;obtain⟨hr,hl4,hk4,hpf,hSl,hSk,hfw⟩:=fin (some (.exit id)) S' W3 hf3 hS';exact⟨_,_,hr,.inr ⟨rfl,.exit id,S',hIx _ _ _ _ _ hi3 (hpf.imp (fun q _ e hs=>by subst e;exact hSl hs)),fun q hq=>⟨fun e=>by subst e;exact hSl hq,fun e=>by subst e;exact hSk hq⟩,hl4,hk4,hfw⟩⟩
   |goto t=>exact hp.elim
   |panic ch=>exact hp.elim
   |outgrown=>exact hp.elim
  ·exact⟨S0,hI1',fun q hq=>⟨(hS0 q hq).1,(hS0 q hq).2.2,fun e=>by have:=(hS0 q hq).2.1;omega,fun e=>by have:=(hS0 q hq).2.1;omega⟩,hL1,hK1,fun h=>by have:=(hB0 _ h).2;omega,fun h=>by have:=(hB0 _ h).2;omega,fun q h=> .inl h,fun q h=> .inl h,hf1 _⟩
  ·rintro e W2 ⟨⟨v,rfl⟩,(⟨Z,ys,hys,S,hi,hS,hl,hk,-,-,-,-,hf⟩|⟨pre,hpre,c,S,hi,hS,hl,hk,hf⟩)⟩
   ·have hpf:=CV W2 (w.heap.size+1)
    refine⟨none,_,by have:=run_endLoop (P:=P) hl (by rw[hrec];simp);rw[hrec] at this;exact this, ?_⟩;exact hdone S ys _ hys (hI _ _ _ _ hi ((hpf _).imp (fun q _ e hs=>by subst e;exact(hS _ hs).2.2.1 rfl))) ((World.putObj_heap_other (by omega)).trans hk) (fun h=>(hS _ h).2.2.2 rfl) (hf.E8 (hpf _) (fun q hq e=>by omega))
   ·have hpf:=CV W2 (w.heap.size+1)
    refine⟨some c,_,by have:=run_endLoop (P:=P) hl (by rw[hrec];simp);rw[hrec] at this;exact this, ?_⟩;exact hstop c S pre _ hpre (hIx _ _ _ _ _ hi ((hpf _).imp (fun q _ e hs=>by subst e;exact(hS _ hs).1 rfl))) ((World.putObj_heap_other (by omega)).trans hk) (fun h=>(hS _ h).2 rfl) (hf.E8 (hpf _) (fun q hq e=>by omega))
end Go.Proofs.YtijhlanclfajiaaGreatDoor
namespace Hg
def wk(M:Nat→Option Node):Nat→List Nat→List Nat→Option (List (Nat×Node))
 |0,_,_=>none
 |_+1,[],_=>some []
 |f+1,i::s,seen=>match M i with
   |none=>wk M f s seen
   |some n=>if i∈seen then wk M f s seen else(wk M f (n.kids++s) (i::seen)).map ((i,n):: ·)
theorem Rh(M:Nat→Option Node)(f:Nat)(seen:List Nat):wk M (f+1) [] seen=some []:=rfl
theorem EF(M:Nat→Option Node)(f i:Nat)(s seen:List Nat):wk M (f+1) (i::s) seen=match M i with
 |none=>wk M f s seen
 |some n=>if i∈seen then wk M f s seen else(wk M f (n.kids++s) (i::seen)).map ((i,n):: ·):=rfl
theorem O5(M:Nat→Option Node):∀(f:Nat) (s seen:List Nat) (r:List (Nat×Node)),wk M f s seen=some r→s.length < f
 |0,_,_,_,h=>by cases h
 |f+1,[],_,_,_=>by simp
 |f+1,i::s,seen,r,h=>by
   rw[EF] at h;cases hM:M i with
   |none=>rw[hM] at h;have:=O5 M f s seen r h;simp;omega
   |some n=>
     rw[hM] at h;dsimp only at h;by_cases hi:i∈seen
     ·rw[if_pos hi] at h;have:=O5 M f s seen r h;simp;omega
     ·rw[if_neg hi] at h
      cases hw:wk M f (n.kids++s) (i::seen) with
      |none=>rw[hw] at h;cases h
      |some r'=>have:=O5 M f _ _ r' hw;simp at this⊢;omega
theorem NH{p:Nat→Prop}(h:∃n,p n):∃m,p m∧∀n,p n→m≤n:=by
 obtain⟨n,hn⟩:=h
 induction n using Nat.strongRecOn with
 |_ n ih=>
   by_cases hm:∃k,k < n∧p k
   ·obtain⟨k,hk,hp⟩:=hm
    exact ih k hk hp
   ·refine⟨n,hn,fun k hk=> ?_⟩
    rcases Nat.lt_or_ge k n with h|h
    ·exact absurd ⟨k,h,hk⟩ hm
    ·exact h
open Classical in
noncomputable def least(p:Nat→Prop):Nat:=if h:∃n,p n then Classical.choose (NH h) else 0
theorem Jh{p:Nat→Prop}(h:∃n,p n):p (least p):=by
 unfold least;rw[dif_pos h];exact(Classical.choose_spec (NH h)).1
theorem IY{p:Nat→Prop}{n:Nat}(h:p n):least p≤n:=by
 unfold least;rw[dif_pos ⟨n,h⟩];exact(Classical.choose_spec (NH ⟨n,h⟩)).2 n h
end Hg
namespace Go.Proofs.YtijhlanclfajiaaGreatDoor
open Go.RowKit
open Hg (GT gl wk)
attribute [local go_sem] Oper.semAt_some
section
variable {P:Program}
theorem JZ{F:Fence}{k:Nat}(w:World){ops:Array Oper}{rest:List Oper}{o:Oper}{a:Act}{Q:Exit→Act→World→Prop}(hgd:o.guard=none)(s x:Operand)(t:TypeId)
 (ho:o.op= .call {callee:= .builtin .append,args:= #[s,x],argTypes:= #[t,t]})
 (base:Nat) (e:TypeId) (i:TypeInfo) (z:Value) (bytes:Nat) (ht:P.underlying t=some (.slice e)) (hi:P.info? e=some i) (hz:i.zero=some z)
 (hsize:i.size=1) (hby:i.bytes=bytes) (hzs:z.cells.size=1)
 (v:Value) (n:Nat) (xs:List Value) (hs:a.eval s=v) (hown:w.ownsRow base e 1 v n xs)
 (B:Nat) (vx:Value) (m:Nat) (news:List Value) (hx:a.eval x=vx) (hsl:Sl w B vx m news) (hl:news.length=m) (h1:∀u∈news,u.oneCell'=true)
 (h63:n+m≤maxLen) (hbytes:(n+m)*bytes≤140737488355328) (hbase:base≤w.heap.size)
 (h:∀v' w',w'.ownsRow base e 1 v' (n+m) (xs++news)→w.grownBy w' v.ownBlock→(v'.ownBlock=v.ownBlock∨v'.ownBlock=some w.heap.size)→wpListIn F k P ops Q rest (a.put o.dst v') w'):
 wpListIn F k P ops Q (o::rest) a w:=by
 obtain⟨ax,c,rfl,hc⟩:=hsl;cases ax with
 |none=>
   have hn0:news=[]:=by
    rcases Nat.eq_zero_or_pos news.length with h0|h0
    ·exact List.eq_nil_of_length_eq_zero h0
    ·obtain⟨b,o',hb,_⟩:=hc h0;cases hb
   subst hn0;simp only[List.length_nil] at hl;subst hl;refine wpListIn_plain hgd fun K hK=> ?_;have hrun:=H6 (P:=P) (w:=w) base t o.type e i 1 c ht hi v n xs hown;unfold Oper.wpIn;refine⟨by simp[Oper.about,ho,resolve,Target.leads,Sem.run_pure], ?_⟩;rw[Oper.semAt_plain F _ _ (by rw[ho];intro c hc';cases hc')]
   simp[execOp,ho,resolve,invoke,builtin,hs,hx,hrun,Result.andThen]
   refine hK _ _ (h v w ?_ ⟨rfl,rfl,rfl,AA,fun _ _ _=>rfl⟩ (.inl rfl));simpa using hown
 |some ad=>
   refine wpListIn_append_own_at w hgd s x t ho base e i z 1 bytes ht hi hz hsize hby hzs (by decide) v n xs hs hown ad m c news hx (by omega) (fun j u hj=> ?_) h1 h63 hbytes hbase (fun v' w' a1 a2 _ a4=>h v' w' a1 a2 a4);obtain⟨hlt,he⟩:=Af.1 hj;obtain⟨b,o',hb,_,hcell⟩:=hc (by omega);injection hb with hb;subst hb;have hadd:(⟨b,o',none⟩:Addr).add j=⟨b,o'+j,none⟩:=by unfold Addr.add;split <;>simp_all
   rw[hadd,hcell j hlt,he]
end
def J9(l:List Nat):List (Nat×Value):=l.map fun k=>(k,.bool true)
abbrev IMap:=XMap (α:=Nat) 37 idV
structure WkSt (M:Nat→Option Hg.Node) (n₀ ib bb sb id ab:Nat) (F:Nat) (xs:List (Nat×Hg.Node)) (J:(Nat→Prop)→List Am→World→Prop) (w0:World) (f:Nat) (v:Value) (wr:World) (Z:Nat→Prop) (pre:List Am) (stack seen:List Nat) (rest:List (Nat×Hg.Node)):Prop where
 j:J Z pre wr
 z:∀q,Z q→n₀≤q∧q < wr.heap.size
 zi:Z ib∧Z bb∧Z sb
 box:wr.cell? ⟨ib,0,none⟩=some (idV id)∧wr.cell? ⟨bb,0,none⟩=some (.pointer (some ⟨ab,0,none⟩))
 own:wr.ownsRow n₀ 37 1 v stack.length (stack.reverse.map idV)
 vz:∀q,v.ownBlock=some q→Z q∧q≠ib∧q≠bb
 sne:sb≠ib∧sb≠bb
 mp:IMap wr sb (J9 seen)
 top:∀x∈stack,x < Aj
 run:wk M f stack seen=some rest
 all:pre.map Am.strip++rest=xs
 cnt:seen.length+f≤F
 fr:Fr (fun q=>n₀≤q) w0 wr
section
variable {M:Nat→Option Hg.Node} {n₀ ib bb sb id ab F:Nat} {xs:List (Nat×Hg.Node)} {J:(Nat→Prop)→List Am→World→Prop} {w0:World} {f g z i:Nat} {wr W2 W3 W4 W5 W6:World} {Z:Nat→Prop} {pre:List Am} {s seen:List Nat} {rest:List (Nat×Hg.Node)}
theorem WkSt.pop(h:WkSt M n₀ ib bb sb id ab F xs J w0 f (.slice (some ⟨g,0,none⟩) (s.length+1) z) wr Z pre (i::s) seen rest):wr.ownsRow n₀ 37 1 (.slice (some ⟨g,0,none⟩) s.length z) s.length (s.reverse.map idV):=
 ownsRow_pop (n:=s.length) (size:=1) (xs:=s.reverse.map idV) (by simp) (show wr.ownsRow n₀ 37 1 (.slice (some ⟨g,0,none⟩) (s.length+1) z) (s.length+1) (s.reverse.map idV++[idV i]) from by simpa using h.own)
theorem WkSt.skip(h:WkSt M n₀ ib bb sb id ab F xs J w0 (f+1) (.slice (some ⟨g,0,none⟩) (s.length+1) z) wr Z pre (i::s) seen rest)(hJ:∀Z pre A B,J Z pre A→Fr Z A B→J (fun q=>Z q∨A.heap.size≤q∧q < B.heap.size) pre B)
 (hf:Fr (fun _=>False) wr W2) (hw:wk M (f+1) (i::s) seen=wk M f s seen):
 WkSt M n₀ ib bb sb id ab F xs J w0 f (.slice (some ⟨g,0,none⟩) s.length z) W2 (fun q=>Z q∨wr.heap.size≤q∧q < W2.heap.size) pre s seen rest:=by
 have hD:∀D,Fr D wr W2:=fun D=>hf.imp (fun _ _ e=>e.elim);have hsz:=hf.size;have hn₀:n₀≤wr.heap.size:=by have:=h.z ib h.zi.1;omega
 refine⟨hJ _ _ _ _ h.j (hD _), ?_,⟨.inl h.zi.1,.inl h.zi.2.1,.inl h.zi.2.2⟩,⟨(hf.cell (p:=⟨ib,0,none⟩) (h.z ib h.zi.1).2 (fun e=>e)).trans h.box.1,(hf.cell (p:=⟨bb,0,none⟩) (h.z bb h.zi.2.1).2 (fun e=>e)).trans h.box.2⟩,Aq h.pop hf (fun _ _ e=>e),fun q e=> ?_,h.sne,h.mp.fr hf (fun e=>e),fun x hx=>h.top x (by simp[hx]),by rw[←hw];exact h.run,h.all,by have:=h.cnt;omega,h.fr.trans (hD _)⟩
 ·rintro q (hq|hq)
  ·have:=h.z q hq;exact⟨this.1,by omega⟩
  ·exact⟨by omega,hq.2⟩
 ·have:=h.vz q e
  exact⟨.inl this.1,this.2⟩
theorem WkSt.row(h:WkSt M n₀ ib bb sb id ab F xs J w0 (f+1) (.slice (some ⟨g,0,none⟩) (s.length+1) z) wr Z pre (i::s) seen rest)(hf3:Fr (fun q=>q=sb) wr W3)(hk4:Fr (fun q=>n₀≤q∧¬(Z q∨wr.heap.size≤q∧q < W3.heap.size)) W3 W4)
 {kb:Nat→Prop} (hkb:∀q,kb q→wr.heap.size≤q∧q < W3.heap.size) (hf5:Fr kb W4 W5):W5.ownsRow n₀ 37 1 (.slice (some ⟨g,0,none⟩) s.length z) s.length (s.reverse.map idV):=by
 have hgz:=h.vz g rfl;have hgl:=h.z g hgz.1;obtain⟨es,ck,hm⟩:=h.mp.obj;have hgs:g≠sb:=fun e=>by
  rcases Fx h.own hm with h'|h'
  ·cases h'
  ·exact h' (by rw[←e];rfl)
 refine Aq (Aq (Aq h.pop hf3 (fun q e e'=> ?_)) hk4 (fun q e e'=> ?_)) hf5 (fun q e e'=> ?_)
 ·injection e with e;exact hgs (e.trans e')
 ·injection e with e;have e:g=q:=e;subst e;exact e'.2 (.inl hgz.1)
 ·injection e with e;have e:g=q:=e;subst e;have:=hkb _ e';omega
theorem WkSt.next(h:WkSt M n₀ ib bb sb id ab F xs J w0 (f+1) (.slice (some ⟨g,0,none⟩) (s.length+1) z) wr Z pre (i::s) seen rest)(hJ:∀Z pre A B,J Z pre A→Fr Z A B→J (fun q=>Z q∨A.heap.size≤q∧q < B.heap.size) pre B)
 {nd:Hg.Node} (hM:M i=some nd) (hi:i∉seen) (hk:∀k∈nd.kids,k < Aj) (x:Am) (hx:x.strip=(i,nd)) (hf3:Fr (fun q=>q=sb) wr W3) (hm3:IMap W3 sb (J9 (i::seen)))
 (hJ4:J (fun q=>Z q∨wr.heap.size≤q∧q < W3.heap.size) (pre++[x]) W4) (hk4:Fr (fun q=>n₀≤q∧¬(Z q∨wr.heap.size≤q∧q < W3.heap.size)) W3 W4)
 {kb:Nat→Prop} (hkb:∀q,kb q→wr.heap.size≤q∧q < W3.heap.size) (hf5:Fr kb W4 W5) {v':Value} (own6:W6.ownsRow n₀ 37 1 v' (s.length+nd.kids.length) (s.reverse.map idV++nd.kids.reverse.map idV)) (g6:W5.grownBy W6 (some g)) (at6:v'.ownBlock=some g∨v'.ownBlock=some W5.heap.size):
 ∃Z' rest',WkSt M n₀ ib bb sb id ab F xs J w0 f v' W6 Z' (pre++[x]) (nd.kids++s) (i::seen) rest':=by
 have hgz:=h.vz g rfl;have hgl:=h.z g hgz.1;have hn₀:n₀≤wr.heap.size:=by have:=h.z ib h.zi.1;omega
 obtain⟨es,ck,hm⟩:=h.mp.obj;have hgs:g≠sb:=fun e=>by
  rcases Fx h.own hm with h'|h'
  ·cases h'
  ·exact h' (by rw[←e];rfl)
 have s3:=hf3.size;have s4:=hk4.size;have s5:=hf5.size;have s6:=g6.size;have hf6:Fr (fun q=>q=g) W5 W6:=Fr.EQ g6 (fun q e=>by injection e with e;exact e.symm);have hf46:Fr (fun q=>Z q∨wr.heap.size≤q∧q < W3.heap.size) W4 W6:=(hf5.imp (fun q _ e=> .inr (hkb q e))).E8 hf6 (fun q _ e=>by subst e;exact .inl hgz.1);have hzi:=(h.z ib h.zi.1).2;have hzb:=(h.z bb h.zi.2.1).2;have hzs:=(h.z sb h.zi.2.2).2;have hcell:∀q,q < wr.heap.size→Z q→q≠sb→q≠g→W6.heap[q]? =wr.heap[q]? :=fun q hq hz h1 h2=>
  (hf6.block q (by omega) h2).trans ((hf5.block q (by omega) (fun e=>by have:=hkb q e;omega)).trans ((hk4.block q (by omega) (fun e=>e.2 (.inl hz))).trans (hf3.block q hq h1)))
 have hrun:=h.run;rw[Hg.EF,hM] at hrun;dsimp only at hrun;rw[if_neg hi] at hrun;cases hr:wk M f (nd.kids++s) (i::seen) with
 |none=>rw[hr] at hrun;cases hrun
 |some rest'=>
   rw[hr] at hrun;have hrun:(i,nd)::rest'=rest:=Option.some.inj hrun;refine⟨_,rest',hJ _ _ _ _ hJ4 hf46, ?_,⟨.inl (.inl h.zi.1),.inl (.inl h.zi.2.1),.inl (.inl h.zi.2.2)⟩,⟨?_, ?_⟩, ?_,fun q e=> ?_,h.sne, ?_,fun y hy=> ?_,hr, ?_, ?_, ?_⟩
   ·rintro q ((hq|hq)|hq)
    ·have:=h.z q hq;exact⟨this.1,by omega⟩
    ·exact⟨by omega,by omega⟩
    ·exact⟨by omega,by omega⟩
   ·exact(World.cell?_of_block (a:=⟨ib,0,none⟩) (hcell ib hzi h.zi.1 (fun e=>h.sne.1 e.symm) (fun e=>hgz.2.1 e.symm))).trans h.box.1
   ·exact(World.cell?_of_block (a:=⟨bb,0,none⟩) (hcell bb hzb h.zi.2.1 (fun e=>h.sne.2 e.symm) (fun e=>hgz.2.2 e.symm))).trans h.box.2
   ·have e1:(nd.kids++s).length=s.length+nd.kids.length:=by simp[Nat.add_comm]
    have e2:(nd.kids++s).reverse.map idV=s.reverse.map idV++nd.kids.reverse.map idV:=by simp
    rw[e1,e2];exact own6
   ·rcases at6 with h'|h'
    ·rw[h'] at e
     injection e with e;subst e;exact⟨.inl (.inl hgz.1),hgz.2⟩
    ·have hq:=own6.lt q e
     rw[h'] at e;injection e with e;exact⟨.inr ⟨by omega,hq.2⟩,by omega,by omega⟩
   ·have h4:=hm3.fr hk4 (fun e=>e.2 (.inl h.zi.2.2))
    have h5:=h4.fr hf5 (fun e=>by have:=hkb sb e;omega);exact h5.fr hf6 (fun e=>hgs e.symm)
   ·rcases List.mem_append.1 hy with hy|hy
    ·exact hk y hy
    ·exact h.top y (by simp[hy])
   ·rw[List.map_append,List.append_assoc]
    show pre.map Am.strip++([x.strip]++rest')=xs;rw[hx,←h.all,←hrun];rfl
   ·have:=h.cnt;simp;omega
   ·refine(((h.fr.E8 hf3 (fun q hq e=>by subst e;exact(h.z q h.zi.2.2).1)).E8 hk4 (fun q _ e=>e.1)).E8 hf5 (fun q hq e=>by have:=hkb q e;omega)).E8 hf6 (fun q _ e=>by subst e;exact hgl.1)
end
theorem IB(ab mb c:Nat)(M:Nat→Option Hg.Node)(n₀ id ib bb F:Nat)(xs:List (Nat×Hg.Node))(w0:World)(hAr:∀W',Fr (fun q=>n₀≤q) w0 W'→ArAt W' ab mb c M)(hib:w0.cell? ⟨ib,0,none⟩=some (idV id))(hbb:w0.cell? ⟨bb,0,none⟩=some (.pointer (some ⟨ab,0,none⟩)))
 (hlt:n₀≤ib∧n₀≤bb∧ib < w0.heap.size∧bb < w0.heap.size) (hid:id < Aj) (hk:∀i nd,M i=some nd→∀k∈nd.kids,k < Aj) (hxs:wk M F [id] []=some xs) (hF:F≤1000000):
 SeqW Tryz.prog 97 #[.pointer (some ⟨ib,0,none⟩),.pointer (some ⟨bb,0,none⟩)] (fun q=>q=ib∨q=bb) n₀ xs w0:=by
 intro m l J Jx W hW hJ hY h0;obtain⟨j0,hj,hj0,hj1,hj2⟩:=info_parts Gc;have hzb:∀W:World,(zeroValue 4).run Tryz.prog W= .ok (.bool false) W:=fun W=>by kernel_rfl
 have hmm:= @run_makeMap Tryz.prog;refine callsIn_of_wp Tryz.func97 rfl trivial ?_ rfl;simp only[Tryz.ntmps97,List.size_toArray,List.length_cons,List.length_nil,Nat.reduceAdd,Nat.reduceSub,Array.replicate_succ,Array.replicate_zero,List.push_toArray,List.append_toArray,List.nil_append,List.cons_append];have ci:W.cell? ⟨ib,0,none⟩=some (idV id):=(hW.cell (p:=⟨ib,0,none⟩) hlt.2.2.1 (fun h=>h.2 (.inl rfl))).trans hib;have cb:W.cell? ⟨bb,0,none⟩=some (.pointer (some ⟨ab,0,none⟩)):=(hW.cell (p:=⟨bb,0,none⟩) hlt.2.2.2 (fun h=>h.2 (.inr rfl))).trans hbb;have hli:ib < W.heap.size:=Ae hlt.2.2.1 hW.size;have hlb:bb < W.heap.size:=Ae hlt.2.2.2 hW.size;gi_wp2;have hst:∃Z pre stack seen rest,WkSt M n₀ ib bb W.heap.size id ab F xs J w0 F (.slice (some ⟨W.heap.size+1,0,none⟩) 1 1) ((W.alloc (.map #[] 0)).alloc (.cells #[idV id] 37)) Z pre stack seen rest:=by
  have hfr:∀D,Fr D W ((W.alloc (.map #[] 0)).alloc (.cells #[idV id] 37)):=fun D=>((Fr.refl D W).alloc _).alloc _;have hn:=AZ (W.alloc (.map #[] 0)) (.cells #[idV id] 37);rw[show(W.alloc (.map #[] 0)).heap.size=W.heap.size+1 by simp] at hn;refine⟨_,[],[id],[],xs,hJ _ _ _ _ h0 (hfr _), ?_,⟨.inl (.inl rfl),.inl (.inr rfl),.inr ⟨AA,by simp;omega⟩⟩,⟨((hfr (fun _=>False)).cell (p:=⟨ib,0,none⟩) hli (fun h=>h)).trans ci,((hfr (fun _=>False)).cell (p:=⟨bb,0,none⟩) hlb (fun h=>h)).trans cb⟩,
   ⟨rfl,.inr ⟨W.heap.size+1,1,#[idV id],rfl,by omega,hn,AA,by unfold maxLen;omega,rfl,rfl⟩⟩, ?_,⟨by omega,by omega⟩,(XMap.made 37 idV W).keep (heap_alloc_old _ _ (by simp)),fun x hx=>(by simp at hx;subst hx;exact hid),hxs,rfl,by simp,(hW.imp (fun q _ h=>h.1)).trans (hfr _)⟩
  ·rintro q ((h|h)|h)
   ·subst h;exact⟨hlt.1,by simp;omega⟩
   ·subst h;exact⟨hlt.2.1,by simp;omega⟩
   ·exact⟨by omega,by simpa using h.2⟩
  ·intro q e
   injection e with e;have e:W.heap.size+1=q:=e;subst e;exact⟨.inr ⟨by omega,by simp⟩,by omega,by omega⟩
 have HST:=zz hst;have HJ:=zz hJ;have HY:=zz hY;have HAR:=zz hAr;have HK:=zz hk;clear hst hJ hY hAr hk hW h0 ci cb hib hbb hxs hid;generalize W.heap.size=sb at HST⊢;generalize World.alloc (World.alloc W _) _=W1 at HST⊢;clear hli hlb
 gi_loopw [5] (fun p wr=>∃v,p=v∧∃f Z pre stack seen rest,WkSt M n₀ ib bb sb id ab F xs J w0 f v wr Z pre stack seen rest) (fun v wr=>Hg.least (fun f=>∃Z pre stack seen rest,WkSt M n₀ ib bb sb id ab F xs J w0 f v wr Z pre stack seen rest))
 case atStart=>exact⟨_,rfl,F,HST.out⟩
 case round=>
  obtain⟨v,hv,hrel⟩:=hrel;have hv:=hv.symm;subst hv;have hl:=Hg.Jh hrel;clear hrel HST;generalize hf0:Hg.least _=f at hl;have HF0:=zz hf0;clear hf0;obtain⟨Z,pre,stack,seen,rest,hS⟩:=hl;have HS:=zz hS;cases stack with
  |nil=>
    have hown:=hS.own;have hv0:∃a cc,v= .slice a 0 cc:=by
     obtain⟨a,cc,e⟩:=(Sl.Ai hown).form;exact⟨a,cc,e⟩
    obtain⟨a,cc,rfl⟩:=hv0;clear hS hown;gi_wp2;go_end0;refine⟨⟨_,rfl⟩,.inl ⟨Z,pre, ?_,HS.out.j⟩⟩;have h1:=HS.out.run;have h2:=HS.out.all;cases f with
    |zero=>cases h1
    |succ f=>
      rw[Hg.Rh] at h1;injection h1 with h1;subst h1;simpa using h2
  |cons i s=>
    have hown:=hS.own;obtain⟨g,z,rfl⟩:=ownsRow_succ (k:=s.length) (show wr.ownsRow n₀ 37 1 v (s.length+1) _ from hown);have hlen:s.length+1≤1000000:=by
     have h1:=Hg.O5 M f _ _ _ hS.run;have h2:=hS.cnt;simp at h1;omega
    have kc:wr.cell? ⟨g,s.length,none⟩=some (idV i):=by
     rw[hown.cellAt s.length (by simp)];simp
    have hcap:s.length+1≤z:=(by obtain⟨c9,e,h,_⟩:=IP hown rfl;injection e with _ _ e;simp at h;omega);have hcap2:s.length≤z:=by omega
    have hks:IntKind.i64.wrap (((s.length+1:Nat):Int)-1)=(s.length:Int):=by rw[IntWalk.i64_in _ (by omega)];omega
    have hks2:IntKind.i64.wrap (s.length:Int)=(s.length:Int):=IntWalk.i64_in _ (by omega);have hit:=hS.top i (by simp);have hbb:=hS.box.2;have TG:=zz (NU ab mb c M i wr (HAR.out wr hS.fr) hit);cases f with
    |zero=>exact absurd hS.run (by intro h;cases h)
    |succ f=>
    have hszr:∀q,Z q→q < wr.heap.size:=fun q hq=>(hS.z q hq).2;have hgetn:∀(o:Option Hg.Node),M i=o→Calls Tryz.prog 34 #[.pointer (some ⟨ab,0,none⟩),.int .u64 (i:Int)] wr (Hu wr o):=fun o h=>h ▸ TG.out;clear hS hown TG;cases hM:M i with
    |none=>
      have TG:=zz (hgetn none hM);clear hgetn;gi_wp2_with fail;refine⟨trivial,fun h=>(by cases h),(callsIn_wide.2 TG.out).mono ?_⟩;rintro e w1 ⟨ka,kc1,rfl,ho1,hb1⟩;have HF1:=zz (Fr.of_below (D:=fun _=>False) hb1);clear ho1 hb1 TG kc hbb;gi_wp2;go_roundw
      case rel=>exact⟨_,rfl,f,_,_,_,_,_,HS.out.skip HJ.out (HF1.out.alloc _) (by rw[Hg.EF,hM])⟩
      case measure=>
       rw[HF0.out];refine Nat.lt_succ_of_le (Hg.IY ?_);exact⟨_,_,_,_,_,HS.out.skip HJ.out (HF1.out.alloc _) (by rw[Hg.EF,hM])⟩
    |some nd=>
      have TG:=zz (hgetn (some nd) hM);have hmp:=HS.out.mp;have hsb:=(HS.out.z sb HS.out.zi.2.2).2;clear hgetn;gi_wp2_with fail;refine⟨trivial,fun h=>(by cases h),(callsIn_wide.2 TG.out).mono ?_⟩;rintro e w1 ⟨ka,kc1,rfl,ho1,hb1⟩;have HF1:=zz (Fr.of_below (D:=fun _=>False) hb1);have HO1:=zz ho1;have hsz1:wr.heap.size≤w1.heap.size:=hb1.size;have hm1:IMap (w1.alloc (.cells #[.int .u8 (nd.kind:Int),strV nd.name,.int .i64 nd.num,.int .u8 (nd.type:Int),.int .u64 (nd.ref:Int),.slice ka nd.kids.length kc1] 44)) sb (J9 seen):=hmp.fr (HF1.out.alloc _) (fun e=>e);have hlk:=hm1.look (x:=i) (t:=156) BM Tryz.underlying156 (hzb _) ⟨_,BZ hit⟩;unfold J9 at hlk;rw[Hg.W9] at hlk;clear ho1 hb1 TG kc hbb hmp;by_cases hi:i∈seen
      ·rw[if_pos hi] at hlk
       replace hlk:(Instr.lookup 156 (.map (some sb)) (.int .u64 (i:Int)) false).run Tryz.prog (w1.alloc (.cells #[.int .u8 (nd.kind:Int),strV nd.name,.int .i64 nd.num,.int .u8 (nd.type:Int),.int .u64 (nd.ref:Int),.slice ka nd.kids.length kc1] 44))= .ok (.bool true) _:=hlk;clear hm1;gi_wp2;go_roundw
       case rel=>exact⟨_,rfl,f,_,_,_,_,_,HS.out.skip HJ.out (HF1.out.alloc _) (by rw[Hg.EF,hM];simp[hi])⟩
       case measure=>
        rw[HF0.out];refine Nat.lt_succ_of_le (Hg.IY ?_);exact⟨_,_,_,_,_,HS.out.skip HJ.out (HF1.out.alloc _) (by rw[Hg.EF,hM];simp[hi])⟩
      ·rw[if_neg hi] at hlk
       replace hlk:(Instr.lookup 156 (.map (some sb)) (.int .u64 (i:Int)) false).run Tryz.prog (w1.alloc (.cells #[.int .u8 (nd.kind:Int),strV nd.name,.int .i64 nd.num,.int .u8 (nd.type:Int),.int .u64 (nd.ref:Int),.slice ka nd.kids.length kc1] 44))= .ok (.bool false) _:=hlk;obtain⟨W3,hrun3,hU3,hg3⟩:=hm1.put (t:=156) BM Tryz.underlying156 (fun x y h=>by injection h with _ h;exact Int.ofNat.inj h) (by have:=HS.out.cnt;unfold J9;simp;omega) i ⟨_,BZ hit⟩ (.bool true);have hnw:=AZ w1 (.cells #[.int .u8 (nd.kind:Int),strV nd.name,.int .i64 nd.num,.int .u8 (nd.type:Int),.int .u64 (nd.ref:Int),.slice ka nd.kids.length kc1] 44);have hb3:W3.heap[w1.heap.size]? =some (.cells #[.int .u8 (nd.kind:Int),strV nd.name,.int .i64 nd.num,.int .u8 (nd.type:Int),.int .u64 (nd.ref:Int),.slice ka nd.kids.length kc1] 44 (0,0)):=(hg3.block w1.heap.size (by simp) (fun e=>by injection e with e;omega)).trans hnw;have hf3a:Fr (fun q=>q=sb) wr (w1.alloc (.cells #[.int .u8 (nd.kind:Int),strV nd.name,.int .i64 nd.num,.int .u8 (nd.type:Int),.int .u64 (nd.ref:Int),.slice ka nd.kids.length kc1] 44)):=(HF1.out.alloc _).imp (fun _ _ e=>e.elim);have HF3:=zz (hf3a.step hg3 (fun q e=>by injection e with e;exact .inl e.symm));have hsz3:w1.heap.size+1≤W3.heap.size:=by have:=hg3.size;simpa using this
       have HO3:=zz (show W3.ownsRow wr.heap.size 37 1 (.slice ka nd.kids.length kc1) nd.kids.length (nd.kids.map idV) from Aq (HO1.out.alloc _) (Fr.EQ hg3 (fun q e=>by injection e with e;exact e.symm):Fr (fun q=>q=sb) _ _) (fun q e e'=>by have:=(HO1.out.lt q e).1;omega));have HU3:=zz hU3;replace hrun3:(Instr.mapUpdate 156 (.map (some sb)) (.int .u64 (i:Int)) (.bool true)).run Tryz.prog (w1.alloc (.cells #[.int .u8 (nd.kind:Int),strV nd.name,.int .i64 nd.num,.int .u8 (nd.type:Int),.int .u64 (nd.ref:Int),.slice ka nd.kids.length kc1] 44))= .ok () W3:=hrun3;have hJ3:=HJ.out _ _ _ _ HS.out.j (HF3.out.imp (D':=Z) (fun q _ e=>by subst e;exact HS.out.zi.2.2));have hpre:(pre++[(⟨i,nd,ka,kc1⟩:Am)]).map Am.strip <+:xs:=by
        have hrun:=HS.out.run;have hall:=HS.out.all;rw[Hg.EF,hM] at hrun;dsimp only at hrun;rw[if_neg hi] at hrun;cases hr:wk M f (nd.kids++s) (i::seen) with
        |none=>rw[hr] at hrun;cases hrun
        |some rest'=>
          rw[hr] at hrun;have hrun:(i,nd)::rest'=rest:=Option.some.inj hrun;exact⟨rest',by rw[←hall,←hrun];simp[Am.strip]⟩
       obtain⟨fn,tmps,assign,body,hy,hR⟩:=HY.out _ pre ⟨i,nd,ka,kc1⟩ W3 hJ3 (fun q hq=>by
        rcases hq with hq|hq
        ·have:=hszr q hq;omega
        ·exact hq.2) hpre (Sl.Ai HO3.out) (fun q hq=> .inr (HO3.out.lt q hq))
       dsimp only[Am.enc] at hy;have e0:=AJ W3 w1.heap.size 0 _ _ (0,0) hb3;have e1:=AJ W3 w1.heap.size 1 _ _ (0,0) hb3;have e2:=AJ W3 w1.heap.size 2 _ _ (0,0) hb3;have e3:=AJ W3 w1.heap.size 3 _ _ (0,0) hb3;have e4:=AJ W3 w1.heap.size 4 _ _ (0,0) hb3;have e5:=AJ W3 w1.heap.size 5 _ _ (0,0) hb3;simp at e0 e1 e2 e3 e4 e5;clear hm1 hU3 hg3 hnw hf3a hJ3;gi_wp2;refine⟨fun h=>(by cases h),hR.mono ?_⟩;rintro e W4 (⟨rfl,hJ4,hk4⟩|⟨rfl,hJx4⟩)
       ·have hl5:nd.kids.length≤1000000:=by
         have:=(HAR.out wr HS.out.fr).map.len i;rw[hM] at this;exact this
        have hkb:∀q,(Value.slice ka nd.kids.length kc1).ownBlock=some q→wr.heap.size≤q∧q < W3.heap.size:=fun q e=>by have:=HO1.out.lt q e;omega
        have HKB:=zz hkb;have hb4:W4.heap[w1.heap.size]? =W3.heap[w1.heap.size]? :=hk4.block _ (by omega) (fun e=>e.2 (.inr ⟨by omega,by omega⟩));have HO4:=zz (show W4.ownsRow wr.heap.size 37 1 (.slice ka nd.kids.length kc1) nd.kids.length (nd.kids.map idV) from Aq HO3.out hk4 (fun q e e'=>e'.2 (.inr (hkb q e))));have d5:W4.cell? ⟨w1.heap.size,5,none⟩=some (.slice ka nd.kids.length kc1):=(World.cell?_of_block (a:=⟨w1.heap.size,5,none⟩) hb4).trans e5;have TR:=zz (Lg wr.heap.size _ nd.kids W4 hl5 HO4.out);have HJ4:=zz hJ4;have HK4:=zz hk4;have hz4:W3.heap.size≤W4.heap.size:=hk4.size;clear hy hR hJ4 hk4 e0 e1 e2 e3 e4 e5 hlk hrun3 hkb;gi_wp2_with fail;refine⟨trivial,fun h=>(by cases h),(callsIn_wide.2 TR.out).mono ?_⟩;rintro e W5 ⟨rfl,ho5,hf5⟩;have hb5:W5.heap[w1.heap.size]? =W4.heap[w1.heap.size]? :=hf5.block _ (by omega) (fun e=>by have:=HO1.out.lt _ e;omega);have c5:W5.cell? ⟨w1.heap.size,5,none⟩=some (.slice ka nd.kids.length kc1):=(World.cell?_of_block (a:=⟨w1.heap.size,5,none⟩) hb5).trans d5;have HROW:=zz (HS.out.row HF3.out HK4.out HKB.out hf5);have HF5:=zz hf5;have HO5:=zz ho5;have hz5:W4.heap.size≤W5.heap.size:=hf5.size;have hn5:n₀≤W5.heap.size:=by have:=HS.out.z ib HS.out.zi.1;omega
        clear hf5 ho5 hb5 hb4 d5 TR
        gi_wp2_with (gi_at_builtin;refine JZ _ rfl (.tmp 49) (.tmp 51) _ rfl n₀ 37 j0 _ 8 Tryz.underlying42 hj hj0 hj1 hj2 rfl _ s.length (s.reverse.map idV) rfl HROW.out W5.heap.size _ nd.kids.length (nd.kids.reverse.map idV) rfl (Sl.Ai HO5.out) ?_ (Ej _) ?_ ?_ ?_ ?_)
        ·simp
        ·unfold maxLen;omega
        ·omega
        ·exact hn5
        intro v6 W6 own6 g6 at6;rw[←List.map_reverse,←List.map_reverse] at own6;obtain⟨Z6,rest6,hS6⟩:=HS.out.next HJ.out hM hi (HK.out i nd hM) ⟨i,nd,ka,kc1⟩ rfl HF3.out HU3.out HJ4.out HK4.out HKB.out HF5.out own6 g6 at6;have HS6:=zz hS6;clear own6 g6 at6 hS6;gi_wp2;go_roundw
        case rel=>exact⟨_,rfl,f,_,_,_,_,_,HS6.out⟩
        case measure=>
         rw[HF0.out];refine Nat.lt_succ_of_le (Hg.IY ?_);exact⟨_,_,_,_,_,HS6.out⟩
       ·gi_wp2
        refine bodyPost_ret (results_none rfl _ _ _) rfl ?_;exact⟨⟨_,rfl⟩,.inr ⟨_,hpre,hJx4⟩⟩
end Go.Proofs.YtijhlanclfajiaaGreatDoor
namespace Hg
def isK(M:Nat→Option Node)(kind:Nat)(k:Nat):Bool:=match M k with|some n=>n.kind==kind|none=>false
def ndAt(M:Nat→Option Node)(id:Nat):Node:=(M id).getD Node.zero
def Bf(M:Nat→Option Node)(id kind:Nat):List Nat:=(ndAt M id).kids.filter (isK M kind)
end Hg
namespace Go.Proofs.YtijhlanclfajiaaGreatDoor
open Go.RowKit
open Hg (GT gl wk isK ndAt Bf)
theorem Jt(ab id:Nat)(w:World):Calls Tryz.prog 44 #[.pointer (some ⟨ab,0,none⟩),idV id] w fun e w'=>e= .returned (.func (.func 97) #[] #[.pointer (some ⟨w.heap.size+1,0,none⟩),.pointer (some ⟨w.heap.size,0,none⟩)])∧w'=(w.alloc (.cells #[.pointer (some ⟨ab,0,none⟩)] 26)).alloc (.cells #[idV id] 37):=by
 go_enter Tryz.func44,Tryz.ntmps44;go_wp2;go_ret;exact⟨rfl,rfl⟩
theorem IL(ab:Nat)(w:World):Calls Tryz.prog 45 #[.pointer (some ⟨ab,0,none⟩)] w fun e w'=>e= .returned (idV 1)∧w'=w:=by
 go_enter Tryz.func45,Tryz.ntmps45;go_wp2;go_ret;exact⟨rfl,rfl⟩
theorem Nh{w1:World}(nd:Hg.Node)(ka:Option Addr)(kc:Nat):∀i,((w1.alloc (.cells #[.int .u8 (nd.kind:Int),strV nd.name,.int .i64 nd.num,.int .u8 (nd.type:Int),.int .u64 (nd.ref:Int),.slice ka nd.kids.length kc] 44)).cell? ⟨w1.heap.size,i,none⟩)=(#[.int .u8 (nd.kind:Int),strV nd.name,.int .i64 nd.num,.int .u8 (nd.type:Int),.int .u64 (nd.ref:Int),.slice ka nd.kids.length kc]:Array Value)[i]? :=fun i=>AJ _ w1.heap.size i _ _ (0,0) (AZ w1 _)
theorem Qv(ab mb c:Nat)(M:Nat→Option Hg.Node)(x kind b1 b2:Nat)(w:World)(hA:ArAt w ab mb c M)(h1:w.cell? ⟨b1,0,none⟩=some (.pointer (some ⟨ab,0,none⟩)))(h2:w.cell? ⟨b2,0,none⟩=some (.int .u8 (kind:Int)))(hb2:b2 < w.heap.size)(hx:x < Aj):
 Calls Tryz.prog 83 #[idV x,.pointer (some ⟨b1,0,none⟩),.pointer (some ⟨b2,0,none⟩)] w fun e w'=>e= .returned (.bool (!isK M kind x))∧Below w.heap.size w w':=by
 have hget:∀o,M x=o→Calls Tryz.prog 34 #[.pointer (some ⟨ab,0,none⟩),.int .u64 (x:Int)] w (Hu w o):=fun o h=>h ▸ NU ab mb c M x w hA hx;unfold isK;cases hM:M x with
 |none=>
   have TG:=zz (hget none hM);clear hget hA;go_enter Tryz.func83,Tryz.ntmps83;go_wp2_with fail;refine TG.out.mono ?_;rintro e w1 ⟨ka,kc,rfl,ho1,hb1⟩;have HB:=zz hb1;clear ho1 hb1 TG;go_wp2;go_ret;exact⟨rfl,HB.out.alloc HB.out.size _⟩
 |some nd=>
   have TG:=zz (hget (some nd) hM);clear hget hA;go_enter Tryz.func83,Tryz.ntmps83;go_wp2_with fail;refine TG.out.mono ?_;rintro e w1 ⟨ka,kc,rfl,ho1,hb1⟩;have HB:=zz hb1;have d2:w1.cell? ⟨b2,0,none⟩=some (.int .u8 (kind:Int)):=(hb1.cell hb2).trans h2;have hb3:b2 < w1.heap.size:=Ae hb2 hb1.size;have hq:((nd.kind:Int) !=(kind:Int))= !(nd.kind==kind):=by
    by_cases e:nd.kind=kind
    ·subst e;simp
    ·have h1:(nd.kind==kind)=false:=by simpa using e
     have h2:((nd.kind:Int) !=(kind:Int))=true:=by simp;omega
     rw[h1,h2];rfl
   clear ho1 hb1 TG;go_wp2;go_ret;refine⟨?_,HB.out.alloc HB.out.size _⟩
   first|rfl|(simp[hq];done)|(rw[hq])
theorem Wx(ab mb c:Nat)(M:Nat→Option Hg.Node)(kind b1 b2:Nat)(v:Value)(xs:List Nat)(B:Nat)(w:World)(hA:ArAt w ab mb c M)(h1:w.cell? ⟨b1,0,none⟩=some (.pointer (some ⟨ab,0,none⟩)))(h2:w.cell? ⟨b2,0,none⟩=some (.int .u8 (kind:Int)))(hb1:b1 < w.heap.size)(hb2:b2 < w.heap.size)(hx:∀x∈xs,x < Aj)
 (hs:Sl w w.heap.size v xs.length (xs.map idV)) (hl:xs.length≤1000000):
 Calls Tryz.prog 137 #[v,.func (.func 83) #[] #[.pointer (some ⟨b1,0,none⟩),.pointer (some ⟨b2,0,none⟩)]] w fun e w'=>(∃r:Int,e= .returned (.int .i64 r)∧((r= -1∧∀x∈xs,isK M kind x=true)∨∃i:Nat,r=(i:Int)∧∃x,xs[i]? =some x∧isK M kind x=false∧∀j y,j < i→xs[j]? =some y→isK M kind y=true))∧Below w.heap.size w w':=by
 have HS:=zz hs;have HA:=zz hA;obtain⟨a,cc,rfl⟩:=hs.form;have HC:=zz (And.intro h1 h2);have HX:=zz hx;clear hs hA h1 h2 hx;go_enter Tryz.func137,Tryz.ntmps137;go_wp2
 go_loopw [8] (fun p wr=>∃k:Nat,p= .int .i64 (k:Int)∧k≤xs.length∧Below w.heap.size w wr∧∀j y,j < k→xs[j]? =some y→isK M kind y=true) (fun p wr=>xs.length-(intOf p).toNat)
 case atStart=>exact⟨0,rfl,Nat.zero_le _,AP,fun j y hj=>by omega⟩
 case round=>
  obtain⟨k,rfl,hk,hb,hno⟩:=hrel;have HN:=zz hno;have HB:=zz hb;clear hno hb;by_cases hlt:k < xs.length
  ·obtain⟨b,o,rfl,_,kc⟩:=(HS.out.below HB.out AA).mapAt hlt
   have hm:xs[k]∈xs:=List.getElem_mem hlt;have TI:=zz (Qv ab mb c M xs[k] kind b1 b2 wr (HA.out.below HB.out AA) ((HB.out.cell hb1).trans HC.out.1) ((HB.out.cell hb2).trans HC.out.2) (Ae hb2 HB.out.size) (HX.out _ hm));have hy:=AX hlt;generalize xs[k]=y at kc TI hy;have HY:=zz hy;clear hm hy;cases hp:isK M kind y with
   |false=>
     rw[hp] at TI;have HP:=zz hp;clear hp;go_wp2_with fail;refine TI.out.mono ?_;rintro e w1 ⟨rfl,hb9⟩;have HB1:=zz (HB.out.trans (hb9.mono HB.out.size));clear TI hb9;go_wp2;go_ret;exact⟨⟨(k:Int),rfl,.inr ⟨k,rfl,y,HY.out,HP.out,HN.out⟩⟩,HB1.out⟩
   |true=>
     rw[hp] at TI;have HP:=zz hp;clear hp;go_wp2_with fail;refine TI.out.mono ?_;rintro e w1 ⟨rfl,hb9⟩;have HB1:=zz (HB.out.trans (hb9.mono HB.out.size));clear TI hb9;go_wp2;go_roundw
     case rel=>exact⟨k+1,by go_num,by omega,HB1.out,fun j z hj hz=>by
      by_cases e:j=k
      ·subst e;rw[HY.out] at hz;injection hz with hz;rw[←hz];exact HP.out
      ·exact HN.out j z (by omega) hz⟩
     case measure=>simp[intOf];omega
  ·obtain rfl:k=xs.length:=by omega
   go_wp2;go_ret;refine⟨⟨-1,rfl,.inl ⟨rfl,fun x hx=> ?_⟩⟩,HB.out⟩;obtain⟨j,hj,he⟩:=List.mem_iff_getElem.1 hx;exact HN.out j x hj (by rw[AX hj,he])
theorem KF{w:World}{base:Nat}{e:TypeId}{g n cap m:Nat}{xs:List Value}(h:w.ownsRow base e 1 (.slice (some ⟨g,0,none⟩) n cap) n xs)(hm:m≤n):w.ownsRow base e 1 (.slice (some ⟨g,0,none⟩) m cap) m (xs.take m):=by
 obtain⟨h1,h2⟩:=h;refine⟨by simp;omega, ?_⟩;rcases h2 with⟨h2,_⟩|⟨g',cap',cur,hv,hg,hh,hc1,hc2,hc3,ht⟩
 ·cases h2
 ·injection hv with e1 e2 e3
  injection e1 with e1;injection e1 with e1;subst e1;subst e3;refine .inr ⟨g,cap,cur,rfl,hg,hh,by omega,hc2,hc3, ?_⟩;rw[←ht,List.take_take]
  congr 1
  omega
theorem GV{base:Nat}{e:TypeId}{g n cap:Nat}{xs:List Value}:∀(vs:List Value) (o:Nat) (w:World),w.ownsRow base e 1 (.slice (some ⟨g,0,none⟩) n cap) n xs→n≤o→(w.setCells g o vs).ownsRow base e 1 (.slice (some ⟨g,0,none⟩) n cap) n xs∧Fr (fun q=>q=g) w (w.setCells g o vs)
 |[],_,w,h,_=>⟨h,Fr.refl _ _⟩
 |v::vs,o,w,h,ho=>by
   have h1:=(h.stored o v).1;rw[List.set_eq_of_length_le (by have:=h.1;simp at this;omega)] at h1;obtain⟨a,b⟩:=GV vs (o+1) (w.setCell ⟨g,o,none⟩ v) h1 (by omega);exact⟨a,((Fr.refl (fun q=>q=g) w).set (p:=⟨g,o,none⟩) (.inl rfl) v).trans b⟩
structure L9 (p:Nat→Bool) (xs:List Nat) (i j:Nat) (ys:List Nat):Prop where
 len:ys.length=xs.length
 lt:i < j
 le:j≤xs.length
 kept:ys.take i=(xs.take j).filter p
 rest:ys.drop j=xs.drop j
theorem L9.skip{p:Nat→Bool}{xs ys:List Nat}{i j x:Nat}(h:L9 p xs i j ys)(hx:xs[j]? =some x)(hp:p x=false):L9 p xs i (j+1) ys:=by
 have hj:j < xs.length:=(Af.1 hx).1;refine⟨h.len,by have:=h.lt;omega,by omega, ?_, ?_⟩
 ·rw[h.kept,List.take_succ,hx,List.filter_append]
  simp[hp]
 ·rw[←List.drop_drop,h.rest,List.drop_drop]
theorem L9.keep{p:Nat→Bool}{xs ys:List Nat}{i j x:Nat}(h:L9 p xs i j ys)(hx:xs[j]? =some x)(hp:p x=true):L9 p xs (i+1) (j+1) (ys.set i x):=by
 have hj:j < xs.length:=(Af.1 hx).1;have hij:=h.lt;refine⟨by simp[h.len],by omega,by omega, ?_, ?_⟩
 ·rw[List.take_succ,List.take_set_of_le AA,h.kept,List.take_succ,hx,List.filter_append]
  rw[List.getElem?_set_self (by rw[h.len];omega)]
  simp[hp]
 ·rw[List.drop_set_of_lt (by omega),←List.drop_drop,h.rest,List.drop_drop]
theorem XM(ab mb c:Nat)(M:Nat→Option Hg.Node)(kind b1 b2:Nat)(v:Value)(xs:List Nat)(B:Nat)(w:World)(hA:∀W,Fr (fun q=>v.ownBlock=some q) w W→ArAt W ab mb c M)(h1:w.cell? ⟨b1,0,none⟩=some (.pointer (some ⟨ab,0,none⟩)))(h2:w.cell? ⟨b2,0,none⟩=some (.int .u8 (kind:Int)))(hb1:b1 < w.heap.size∧v.ownBlock≠some b1)(hb2:b2 < w.heap.size∧v.ownBlock≠some b2)(hx:∀x∈xs,x < Aj)
 (ho:w.ownsRow B 37 1 v xs.length (xs.map idV)) (hl:xs.length≤1000000):
 Calls Tryz.prog 82 #[v,.func (.func 83) #[] #[.pointer (some ⟨b1,0,none⟩),.pointer (some ⟨b2,0,none⟩)]] w fun e w'=>(∃v',e= .returned v'∧w'.ownsRow B 37 1 v' (xs.filter (isK M kind)).length ((xs.filter (isK M kind)).map idV))∧Fr (fun q=>v.ownBlock=some q) w w':=by
 have hv0:∀W:World,(zeroValue 37).run Tryz.prog W= .ok (.int .u64 0) W:=fun W=>by kernel_rfl
 have T1:=zz (Wx ab mb c M kind b1 b2 v xs B w (hA w (Fr.refl _ _)) h1 h2 hb1.1 hb2.1 hx (Sl.Ai ho) hl);obtain⟨a,cc,rfl⟩:=(Sl.Ai ho).form;have HO:=zz ho;have HA:=zz hA;have HC:=zz (And.intro h1 (And.intro h2 (And.intro hb1 hb2)));have HX:=zz hx;clear ho hA h1 h2 hx hb1 hb2;go_enter Tryz.func82,Tryz.ntmps82;go_wp2_with fail;refine T1.out.mono ?_;rintro e w1 ⟨⟨r,rfl,hr⟩,hbw⟩;have hf1:Fr (fun q=>(Value.slice a xs.length cc).ownBlock=some q) w w1:=Fr.of_below hbw;have HO1:=zz (show w1.ownsRow B 37 1 (.slice a xs.length cc) xs.length (xs.map idV) from Aq HO.out (Fr.of_below (D:=fun _=>False) hbw) (fun _ _ e=>e));have HF1:=zz hf1;clear T1 hbw hf1;rcases hr with⟨rfl,hall⟩|⟨i0,rfl,x0,hx0,hp0,hbef⟩
 ·have hfil:xs.filter (isK M kind)=xs:=List.filter_eq_self.2 hall
  clear hall;go_wp2;go_ret;rw[hfil];exact⟨⟨_,rfl,HO1.out⟩,HF1.out⟩
 ·have hi0:i0 < xs.length:=(Af.1 hx0).1
  obtain⟨g,rfl⟩:∃g,a=some ⟨g,0,none⟩:=by
   rcases HO.out.2 with⟨_,h⟩|⟨g,cap,cur,hv,_⟩
   ·omega
   ·injection hv with h1 h2 h3;exact⟨g,h1⟩
  have hst0:L9 (isK M kind) xs i0 (i0+1) xs:=by
   refine⟨rfl,by omega,by omega, ?_,rfl⟩;rw[List.take_succ,hx0,List.filter_append];have h1:(xs.take i0).filter (isK M kind)=xs.take i0:=List.filter_eq_self.2 (fun y hy=>by
    obtain⟨k,hk,e⟩:=List.mem_iff_getElem.1 hy;rw[List.length_take] at hk;rw[List.getElem_take] at e;exact hbef k y (by omega) (by rw[AX (by omega),e]))
   rw[h1]
   simp[hp0]
  have HST:=zz hst0;have hq:((i0:Int)== -1)=false:=by simp
  have hwi:IntKind.i64.wrap ((i0:Int)+1)=((i0+1:Nat):Int):=by rw[IntWalk.i64_in _ (by omega)];push_cast;rfl
  have hcap:xs.length≤cc:=(by obtain⟨c9,e,h,_⟩:=IP HO.out rfl;injection e with _ _ e;omega);clear hst0 hbef hp0 hx0;go_wp2
  go_loopw [5,6] (fun p q wr=>∃(i j:Nat) (ys:List Nat),p= .int .i64 (i:Int)∧q= .int .i64 (j:Int)∧L9 (isK M kind) xs i j ys∧wr.ownsRow B 37 1 (.slice (some ⟨g,0,none⟩) xs.length cc) xs.length (ys.map idV)∧Fr (fun q=>(Value.slice (some ⟨g,0,none⟩) xs.length cc).ownBlock=some q) w wr) (fun _ q wr=>xs.length-(intOf q).toNat)
  case atStart=>exact⟨i0,i0+1,xs,rfl,by first|rfl|go_num,HST.out,HO1.out,HF1.out⟩
  case round=>
   obtain⟨i,j,ys,rfl,rfl,hD,ho,hf⟩:=hrel;have hij:=hD.lt;have hjl:=hD.le;by_cases hlt:j < xs.length
   ·obtain⟨x,hxj⟩:∃x,xs[j]? =some x:=⟨_,AX hlt⟩
    have hyj:ys[j]? =some x:=by
     have h:=congrArg (fun l=>l[0]?) hD.rest;simpa[hxj] using h
    have cj:wr.cell? ⟨g,j,none⟩=some (idV x):=by rw[ho.cellAt j (by omega)];simp[hyj]
    have fz:∀k,wr.frozen? ⟨g,k,none⟩=false:=ho.frozenAt;have hxx:x∈xs:=List.mem_of_getElem? hxj;have TI:=zz (Qv ab mb c M x kind b1 b2 wr (HA.out wr hf) ((hf.cell (p:=⟨b1,0,none⟩) HC.out.2.2.1.1 HC.out.2.2.1.2).trans HC.out.1) ((hf.cell (p:=⟨b2,0,none⟩) HC.out.2.2.2.1 HC.out.2.2.2.2).trans HC.out.2.1) (Ae HC.out.2.2.2.1 hf.size) (HX.out x hxx));have HD:=zz hD;have HOw:=zz ho;have HFw:=zz hf;have HXJ:=zz hxj;have hwj:IntKind.i64.wrap ((j:Int)+1)=(j:Int)+1:=IntWalk.i64_in _ (by omega);have hwi:IntKind.i64.wrap ((i:Int)+1)=(i:Int)+1:=IntWalk.i64_in _ (by omega);have hil:i < xs.length:=by omega
    have ci:∃u,wr.cell? ⟨g,i,none⟩=some u:=by
     have:i < ys.length:=by rw[hD.len];omega
     exact⟨idV ys[i],by rw[ho.cellAt i (by omega)];simp[this]⟩
    have CI:=zz ci;clear hD ho hf hyj hxj hxx ci;cases hp:isK M kind x with
    |false=>
      rw[hp] at TI;have HP:=zz hp;clear hp;go_wp2_with fail;refine TI.out.mono ?_;rintro e w2 ⟨rfl,hb9⟩;have HF2:=zz (HFw.out.trans (Fr.of_below hb9));have HO2:=zz (Aq HOw.out (Fr.of_below (D:=fun _=>False) hb9) (fun _ _ e=>e));clear TI hb9;go_wp2;go_roundw
      case rel=>exact⟨i,j+1,ys,rfl,by go_num,HD.out.skip HXJ.out HP.out,HO2.out,HF2.out⟩
      case measure=>simp[intOf];omega
    |true=>
      rw[hp] at TI;have HP:=zz hp;clear hp;go_wp2_with fail;refine TI.out.mono ?_;rintro e w2 ⟨rfl,hb9⟩;have HF2:=zz ((HFw.out.trans (Fr.of_below hb9)).set (p:=⟨g,i,none⟩) (.inl rfl) (idV x));have ho2:=Aq HOw.out (Fr.of_below (D:=fun _=>False) hb9) (fun _ _ e=>e);have HO2:=zz (show(w2.setCell ⟨g,i,none⟩ (idV x)).ownsRow B 37 1 (.slice (some ⟨g,0,none⟩) xs.length cc) xs.length ((ys.set i x).map idV) from by rw[List.map_set];exact(ho2.stored i (idV x)).1);have fz2:∀k,w2.frozen? ⟨g,k,none⟩=false:=ho2.frozenAt;obtain⟨u,ci2⟩:∃u,w2.cell? ⟨g,i,none⟩=some u:=by
       obtain⟨u,hu⟩:=CI.out;have hgl:g < wr.heap.size:=(HOw.out.lt g rfl).2;exact⟨u,(hb9.cell (p:=⟨g,i,none⟩) hgl).trans hu⟩
      clear TI hb9 ho2 fz cj;go_wp2;go_roundw
      case rel=>exact⟨i+1,j+1,ys.set i x,by go_num,by go_num,HD.out.keep HXJ.out HP.out,HO2.out,HF2.out⟩
      case measure=>simp[intOf];omega
   ·obtain rfl:j=xs.length:=by omega
    have hkept:=hD.kept;rw[List.take_length] at hkept;have hlenk:(xs.filter (isK M kind)).length=i:=by rw[←hkept,List.length_take,hD.len];omega
    have hcl:∀ty,(Builtin.clear_ #[42] ty #[.slice (some ⟨g,i,none⟩) (xs.length-i) (cc-i)]).run Tryz.prog wr= .ok (.tuple #[]) (wr.setCells g i (List.replicate (xs.length-i) (.int .u64 0))):=fun ty=>
     Lib.run_clear_slice wr _ _ ty _ Tryz.underlying42 hv0 rfl rfl g i _ _ (by omega) (fun k hk=>by
      have:i+k < ys.length:=by rw[hD.len];omega
      rw[ho.cellAt (i+k) (by omega)];simp[this]) (fun k hk=>ho.frozenAt (i+k))
    have hfin:=GV (List.replicate (xs.length-i) (.int .u64 0)) i wr (KF ho (show i≤xs.length by omega)) AA;have HFIN:=zz (show(wr.setCells g i (List.replicate (xs.length-i) (.int .u64 0))).ownsRow B 37 1 (.slice (some ⟨g,0,none⟩) i cc) (xs.filter (isK M kind)).length ((xs.filter (isK M kind)).map idV) from by
     have:=hfin.1;rw[←List.map_take,hkept] at this;rw[hlenk];exact this)
    have HFF:=zz (hf.trans (hfin.2.imp (D':=fun q=>(Value.slice (some ⟨g,0,none⟩) xs.length cc).ownBlock=some q) (fun q _ e=>by subst e;rfl)));have hil:i≤xs.length:=by omega
    have hic:i≤cc:=by omega
    clear hD ho hf hkept hfin hlenk;go_wp2;go_ret;exact⟨⟨_,rfl,HFIN.out⟩,HFF.out⟩
end Go.Proofs.YtijhlanclfajiaaGreatDoor
namespace Hg
def Bj(M:Nat→Option Node):List Nat:=Bf M 1 2
def BI(M:Nat→Option Node)(m:Nat):List Nat:=Bf M m 3
def KB(M:Nat→Option Node):Prop:=∀i nd,M i=some nd→∀k∈nd.kids,k < 18446744073709551616
theorem KB.at{M:Nat→Option Node}(h:KB M)(id:Nat):∀k∈(ndAt M id).kids,k < 18446744073709551616:=by
 intro k hk;unfold ndAt at hk;cases hM:M id with
 |none=>rw[hM] at hk;simp[Node.zero] at hk
 |some nd=>rw[hM] at hk;exact h id nd hM k hk
theorem KB.kids{M:Nat→Option Node}(h:KB M)(id kind:Nat):∀k∈Bf M id kind,k < 18446744073709551616:=fun k hk=>h.at id k (List.mem_filter.1 hk).1
end Hg
namespace Go.Proofs.YtijhlanclfajiaaGreatDoor
open Go.RowKit
open Hg (GT gl wk isK ndAt Bf Bj BI KB)
theorem Fr.below'{n:Nat}{w w':World}(h:Fr (fun q=>n≤q) w w')(hn:n≤w.heap.size):Below n w w':=⟨h.os,h.tape,h.output,h.size,fun i hi=>h.block i (by omega) (by omega)⟩
def ArOk(w:World)(ab:Nat)(M:Nat→Option Hg.Node):Prop:=(∃mb c,ArAt w ab mb c M)∧KB M
theorem ArOk.below{w w':World}{ab:Nat}{M:Nat→Option Hg.Node}(h:ArOk w ab M)(hb:Below w.heap.size w w'):ArOk w' ab M:=by
 obtain⟨⟨mb,c,hA⟩,hk⟩:=h;exact⟨⟨mb,c,hA.below hb AA⟩,hk⟩
theorem ArOk.fr{w w':World}{ab:Nat}{M:Nat→Option Hg.Node}(h:ArOk w ab M)(hb:Fr (fun q=>w.heap.size≤q) w w'):ArOk w' ab M:=h.below (hb.below (fun q h1 h2=>by omega))
theorem ArOk.len{w:World}{ab:Nat}{M:Nat→Option Hg.Node}(h:ArOk w ab M)(id:Nat):(ndAt M id).kids.length≤1000000:=by
 obtain⟨⟨mb,c,hA⟩,_⟩:=h;exact hA.map.len id
theorem ArOk.lenK{w:World}{ab:Nat}{M:Nat→Option Hg.Node}(h:ArOk w ab M)(id kind:Nat):(Bf M id kind).length≤1000000:=by
 have h1:=h.len id;have h2:(Bf M id kind).length≤(ndAt M id).kids.length:=List.length_filter_le _ _;omega
theorem ArOk.lt{w:World}{ab:Nat}{M:Nat→Option Hg.Node}(h:ArOk w ab M):ab < w.heap.size:=by
 obtain⟨⟨mb,c,hA⟩,_⟩:=h;exact hA.lt
theorem ArOk.get{w:World}{ab:Nat}{M:Nat→Option Hg.Node}(h:ArOk w ab M){id:Nat}(hid:id < Aj):Calls Tryz.prog 34 #[.pointer (some ⟨ab,0,none⟩),.int .u64 (id:Int)] w (Hu w (M id)):=by
 obtain⟨⟨mb,c,hA⟩,_⟩:=h;exact NU ab mb c M id w hA hid
def Ze(w:World)(M:Nat→Option Hg.Node)(id:Nat)(e:Ending)(w':World):Prop:=
 ∃ka kc,e= .returned (.tuple #[ndV (ndAt M id) ka kc,.bool (M id).isSome])∧w'.ownsRow w.heap.size 37 1 (.slice ka (ndAt M id).kids.length kc) (ndAt M id).kids.length ((ndAt M id).kids.map idV)∧Below w.heap.size w w'
theorem ArOk.getN{w:World}{ab:Nat}{M:Nat→Option Hg.Node}(h:ArOk w ab M){id:Nat}(hid:id < Aj):Calls Tryz.prog 34 #[.pointer (some ⟨ab,0,none⟩),.int .u64 (id:Int)] w (Ze w M id):=(h.get hid).mono (fun _ _ h=>h)
def Pn(w:World)(xs:List Nat)(e:Ending)(w':World):Prop:=(∃v,e= .returned v∧w'.ownsRow w.heap.size 37 1 v xs.length (xs.map idV))∧Below w.heap.size w w'
theorem KM(ab:Nat)(M:Nat→Option Hg.Node)(id kind:Nat)(w:World)(hA:ArOk w ab M)(hid:id < Aj):
 Calls Tryz.prog 35 #[.pointer (some ⟨ab,0,none⟩),idV id,.int .u8 (kind:Int)] w (Pn w (Bf M id kind)):=by
 have hba:Below w.heap.size w ((w.alloc (.cells #[.pointer (some ⟨ab,0,none⟩)] 26)).alloc (.cells #[.int .u8 (kind:Int)] 5)):=((AP).alloc AA _).alloc (by simp) _;have TG:=zz ((hA.below hba).getN hid);have HA:=zz hA;have HBA:=zz hba;have hxs:=hA.2.at id;have hln:=hA.len id;have hc1:∀W:World,Below (w.heap.size+2) ((w.alloc (.cells #[.pointer (some ⟨ab,0,none⟩)] 26)).alloc (.cells #[.int .u8 (kind:Int)] 5)) W→W.cell? ⟨w.heap.size,0,none⟩=some (.pointer (some ⟨ab,0,none⟩))∧W.cell? ⟨w.heap.size+1,0,none⟩=some (.int .u8 (kind:Int)):=fun W hW=>by
  have h2:=AZ (w.alloc (.cells #[.pointer (some ⟨ab,0,none⟩)] 26)) (.cells #[.int .u8 (kind:Int)] 5);rw[show(w.alloc (.cells #[.pointer (some ⟨ab,0,none⟩)] 26)).heap.size=w.heap.size+1 by simp] at h2;have h1:((w.alloc (.cells #[.pointer (some ⟨ab,0,none⟩)] 26)).alloc (.cells #[.int .u8 (kind:Int)] 5)).heap[w.heap.size]? =_:=(heap_alloc_old _ _ (by simp)).trans (AZ w (.cells #[.pointer (some ⟨ab,0,none⟩)] 26));exact⟨AJ W w.heap.size 0 _ _ (0,0) ((hW.block _ (by omega)).trans h1),AJ W (w.heap.size+1) 0 _ _ (0,0) ((hW.block _ (by omega)).trans h2)⟩
 have HC1:=zz hc1;clear hA hba hc1;go_enter Tryz.func35,Tryz.ntmps35;go_wp2_with fail;refine TG.out.mono ?_;rintro e w1 ⟨ka,kc,rfl,ho1,hb1⟩;have hz1:w.heap.size+2≤w1.heap.size:=by have:=hb1.size;simpa using this
 have hz0:((w.alloc (.cells #[.pointer (some ⟨ab,0,none⟩)] 26)).alloc (.cells #[.int .u8 (kind:Int)] 5)).heap.size=w.heap.size+2:=by simp
 have hbn:=Nh (w1:=w1) (ndAt M id) ka kc;have ho2:=ho1.alloc (.cells #[.int .u8 ((ndAt M id).kind:Int),strV (ndAt M id).name,.int .i64 (ndAt M id).num,.int .u8 ((ndAt M id).type:Int),.int .u64 ((ndAt M id).ref:Int),.slice ka (ndAt M id).kids.length kc] 44);have hb2:=hb1.alloc hb1.size (.cells #[.int .u8 ((ndAt M id).kind:Int),strV (ndAt M id).name,.int .i64 (ndAt M id).num,.int .u8 ((ndAt M id).type:Int),.int .u64 ((ndAt M id).ref:Int),.slice ka (ndAt M id).kids.length kc] 44);rw[hz0] at ho2 hb2;have hbw:Below w.heap.size w (w1.alloc (.cells #[.int .u8 ((ndAt M id).kind:Int),strV (ndAt M id).name,.int .i64 (ndAt M id).num,.int .u8 ((ndAt M id).type:Int),.int .u64 ((ndAt M id).ref:Int),.slice ka (ndAt M id).kids.length kc] 44)):=HBA.out.trans (hb2.mono (by omega));have c5:=hbn 5;simp at c5;have hql:=ho2.lt;obtain⟨hcc1,hcc2⟩:=HC1.out _ hb2;have hz2:(w1.alloc (.cells #[.int .u8 ((ndAt M id).kind:Int),strV (ndAt M id).name,.int .i64 (ndAt M id).num,.int .u8 ((ndAt M id).type:Int),.int .u64 ((ndAt M id).ref:Int),.slice ka (ndAt M id).kids.length kc] 44)).heap.size=w1.heap.size+1:=by simp
 obtain⟨⟨mb,cc,hAr⟩,hkb⟩:=HA.out;have TD:=XM ab mb cc M kind w.heap.size (w.heap.size+1) (.slice ka (ndAt M id).kids.length kc) (ndAt M id).kids w.heap.size _ (fun W hf=>hAr.below (hbw.trans ((hf.imp (D':=fun q=>w.heap.size≤q) (fun q _ e=>by have:=(hql _ e).1;omega)).below' hbw.size)) AA) hcc1 hcc2 ⟨by omega,fun e=>by have:=(hql _ e).1;omega⟩ ⟨by omega,fun e=>by have:=(hql _ e).1;omega⟩ hxs (Cv ho2 (by omega)) hln;have TD2:=zz TD;have HBW:=zz hbw;have HQL:=zz hql;clear ho1 hb1 ho2 hb2 hbw hql TD hbn hcc1 hcc2 TG hAr hkb;go_wp2_with fail;refine TD2.out.mono ?_;rintro e w3 ⟨⟨v,rfl,ho3⟩,hf3⟩;have HO3:=zz ho3;have HB3:=zz (HBW.out.trans ((hf3.imp (D':=fun q=>w.heap.size≤q) (fun q _ e=>by have:=(HQL.out _ e).1;omega)).below' HBW.out.size));clear TD2 ho3 hf3;go_wp2;go_ret;exact⟨⟨v,rfl,HO3.out⟩,HB3.out⟩
end Go.Proofs.YtijhlanclfajiaaGreatDoor
namespace Hg
def Ce(M:Nat→Option Node)(id:Nat):Str:=(ndAt M id).name
def CS(M:Nat→Option Node)(id:Nat):Nat:=
 if (ndAt M id).kind=13∨(ndAt M id).kind=17∨(ndAt M id).kind=20 then 1
 else if (ndAt M id).kind=14∨(ndAt M id).kind=16 then 2
 else if (ndAt M id).kind=18 then(if (ndAt M id).num≤5 then 1 else 2)
 else if (ndAt M id).kind=15∨(ndAt M id).kind=19 then(ndAt M (ndAt M id).ref).type
 else 0
end Hg
namespace Go.Proofs.YtijhlanclfajiaaGreatDoor
open Go.RowKit Go.Sort Go.Lib
open Hg (GT gl wk isK ndAt Bf Bj BI KB Ce CS)
theorem LC(ab:Nat)(M:Nat→Option Hg.Node)(id:Nat)(w:World)(hA:ArOk w ab M)(hid:id < Aj):
 Calls Tryz.prog 81 #[.pointer (some ⟨ab,0,none⟩),idV id] w fun e w'=>e= .returned (strV (Ce M id))∧Below w.heap.size w w':=by
 have TG:=zz (hA.getN hid);unfold Ce;clear hA;go_enter Tryz.func81,Tryz.ntmps81;go_wp2_with fail;refine TG.out.mono ?_;rintro e w1 ⟨ka,kc,rfl,ho1,hb1⟩;have HB:=zz hb1;clear TG ho1 hb1;go_wp2;go_ret;exact⟨rfl,HB.out.alloc HB.out.size _⟩
theorem Ll(ab:Nat)(M:Nat→Option Hg.Node)(w:World)(hA:ArOk w ab M):
 Calls Tryz.prog 52 #[.pointer (some ⟨ab,0,none⟩)] w (Pn w (Bj M)):=by
 have T1:=zz (IL ab w);have T2:=zz (KM ab M 1 2 w hA (by decide));clear hA;go_enter Tryz.func52,Tryz.ntmps52;go_wp2_with fail;refine T1.out.mono ?_;rintro e w1 ⟨rfl,rfl⟩;clear T1;go_wp2_with fail;refine T2.out.mono ?_;rintro e w2 ⟨⟨v,rfl,ho⟩,hb⟩;have HO:=zz ho;have HB:=zz hb;clear T2 ho hb;go_wp2;go_ret;exact⟨⟨v,rfl,HO.out⟩,HB.out⟩
theorem Ol(ab:Nat)(M:Nat→Option Hg.Node)(m:Nat)(w:World)(hA:ArOk w ab M)(hm:m < Aj):
 Calls Tryz.prog 53 #[.pointer (some ⟨ab,0,none⟩),idV m] w (Pn w (BI M m)):=by
 have T2:=zz (KM ab M m 3 w hA hm);clear hA;go_enter Tryz.func53,Tryz.ntmps53;go_wp2_with fail;refine T2.out.mono ?_;rintro e w2 ⟨⟨v,rfl,ho⟩,hb⟩;have HO:=zz ho;have HB:=zz hb;clear T2 ho hb;go_wp2;go_ret;exact⟨⟨v,rfl,HO.out⟩,HB.out⟩
theorem OE:(Tryz.prog.info? 9).map (fun i=>(i.zero,i.size,i.bytes))=some (some (.string ⟨#[]⟩),1,16):=by kernel_rfl
def Xi(w:World)(l:List (List UInt8))(e:Ending)(w':World):Prop:=(∃v,e= .returned v∧w'.ownsRow w.heap.size 9 1 v l.length (l.map strV))∧Below w.heap.size w w'
theorem OV(ab:Nat)(M:Nat→Option Hg.Node)(v:Value)(ids:List Nat)(w:World)(hA:ArOk w ab M)(hs:Sl w w.heap.size v ids.length (ids.map idV))(hi:∀x∈ids,x < Aj)(hl:ids.length≤1000000):
 Calls Tryz.prog 51 #[.pointer (some ⟨ab,0,none⟩),v] w (Xi w (ids.map (Ce M))):=by
 obtain⟨i0,hi0,hz0,hz1,hz2⟩:=info_parts OE;have HA:=zz hA;have HS:=zz hs;have HI:=zz hi;obtain⟨a,c,rfl⟩:=hs.form;clear hA hs hi;go_enter Tryz.func51,Tryz.ntmps51;go_wp2
 go_loopw [5,10] (fun p q wr=>∃(k:Nat) (u:Value),p=u∧q= .int .i64 (k:Int)∧k≤ids.length∧wr.ownsRow w.heap.size 9 1 u k ((ids.take k).map (fun x=>strV (Ce M x)))∧Below w.heap.size w wr) (fun _ q wr=>ids.length-(intOf q).toNat)
 case atStart=>exact⟨0,_,rfl,rfl,Nat.zero_le _,⟨rfl,.inl ⟨rfl,rfl⟩⟩,AP⟩
 case round=>
  obtain⟨k,u,hu,rfl,hk,ho,hb⟩:=hrel;have hu:=hu.symm;subst hu;have HB:=zz hb;have HO:=zz ho;by_cases hlt:k < ids.length
  ·obtain⟨b,o,rfl,_,kc⟩:=(HS.out.below HB.out AA).mapAt hlt
   have TN:=zz (LC ab M ids[k] wr (HA.out.below HB.out) (HI.out _ (List.getElem_mem hlt)));have htk:ids.take (k+1)=ids.take k++[ids[k]]:=List.take_succ_eq_append_getElem hlt;generalize ids[k]=x at kc TN htk;have HTK:=zz htk;clear hb ho htk;go_wp2_with fail;refine TN.out.mono ?_;rintro e w1 ⟨rfl,hb1⟩;have HB1:=zz (HB.out.trans (hb1.mono HB.out.size));have HO1:=zz (Aq HO.out (Fr.of_below (D:=fun _=>False) hb1) (fun _ _ e=>e));have hsz:=HB1.out.size;clear hb1 TN
   go_wp2_with (at_builtin;refine wpList_append_own_at _ rfl (.tmp 14) (.tmp 18) _ rfl w.heap.size 9 i0 _ 1 16 Tryz.underlying87 hi0 hz0 hz1 hz2 rfl (by decide) _ k ((ids.take k).map (fun x=>strV (Ce M x))) rfl (HO1.out.alloc _) ⟨w1.heap.size,0,none⟩ 1 1 [strV (Ce M x)] rfl rfl (Ao _ _ _) ?_ ?_ ?_ ?_ ?_)
   all_goals first
    |intro v3 W3 own3 g3 _ at3
    |(unfold maxLen;omega)
    |omega
    |(simp;omega)
    |(intro u hu;simp only[List.mem_singleton] at hu;subst hu;rfl)
   have HO3:=zz (show W3.ownsRow w.heap.size 9 1 v3 (k+1) ((ids.take (k+1)).map (fun x=>strV (Ce M x))) from by rw[HTK.out,List.map_append,List.map_take];exact own3);have HB3:=zz ((HB1.out.alloc HB1.out.size _).grown g3 (by simp;omega) (fun q hq=>(HO1.out.lt q hq).1));clear own3 g3 at3;go_wp2;go_roundw
   case rel=>exact⟨k+1,v3,rfl,by go_num,by omega,HO3.out,HB3.out⟩
   case measure=>simp[intOf];omega
  ·obtain rfl:k=ids.length:=by omega
   rw[List.take_length] at ho;have HO2:=zz ho;clear hb ho;go_wp2;go_ret;refine⟨⟨_,rfl, ?_⟩,HB.out⟩;rw[List.length_map,List.map_map];exact HO2.out
theorem Wl(w:World):Calls Tryz.prog 145 #[.int .u64 0] w fun e w'=>e= .returned (.int .i64 0)∧w'=w:=by
 have T1:Calls Tryz.prog 178 #[.int .u64 0] w fun e w'=>e= .returned (.int .i64 0)∧w'=w:=by
  go_enter Tryz.func178,Tryz.ntmps178;go_wp2;go_ret;exact⟨by kernel_rfl,rfl⟩
 have T1:=zz T1;go_enter Tryz.func145,Tryz.ntmps145;go_wp2_with fail;refine T1.out.mono ?_;rintro e w1 ⟨rfl,rfl⟩;go_wp2;go_ret;exact⟨rfl,rfl⟩
theorem Uf(a:Option Addr)(c:Nat)(w:World):Calls Tryz.prog 106 #[.slice a 0 c] w fun e w'=>e= .returned (.tuple #[])∧w'=w:=by
 have T1:Calls Tryz.prog 168 #[.slice a 0 c,.int .i64 0,.int .i64 0] w fun e w'=>e= .returned (.tuple #[])∧w'=w:=by
  go_enter Tryz.func168,Tryz.ntmps168;go_wp2
  go_loopw [6] (fun p wr=>p= .int .i64 1∧wr=w) (fun p wr=>0)
  case atStart=>exact⟨rfl,rfl⟩
  case round=>
   obtain⟨rfl,rfl⟩:=hrel;go_wp2;go_end0;exact⟨rfl,rfl⟩
 have T1:=zz T1;have T2:Calls Tryz.prog 144 #[.slice a 0 c,.int .i64 0,.int .i64 0,.int .i64 0] w fun e w'=>e= .returned (.tuple #[])∧w'=w:=by
  go_enter Tryz.func144,Tryz.ntmps144;go_wp2;refine wp_loop_once ?_;go_wp2_with fail;refine T1.out.mono ?_;rintro e w1 ⟨rfl,rfl⟩;go_wp2;refine bodyPost_ret (results_none rfl _ _ _) rfl ?_;exact⟨rfl,rfl⟩
 have T2:=zz T2;have T3:=zz (Wl w);go_enter Tryz.func106,Tryz.ntmps106;go_wp2_with fail;refine T3.out.mono ?_;rintro e w1 ⟨rfl,rfl⟩;go_wp2_with fail;refine T2.out.mono ?_;rintro e w1 ⟨rfl,rfl⟩;go_wp2;go_end0;exact⟨rfl,rfl⟩
theorem XH(T:TypeId):EqlAt Tryz.prog T encStr (fun x y=>decide (x=y)):=by
 refine⟨fun x y w=> ?_,fun op a b x y w=>(EqlAt.string Tryz.prog T).2 op a b ⟨x.toArray⟩ ⟨y.toArray⟩ w⟩;have:=(EqlAt.string Tryz.prog T).1 ⟨x.toArray⟩ ⟨y.toArray⟩ w;rw[this];by_cases h:x=y <;>simp[h]
theorem WZ(T:TypeId):NeqAt Tryz.prog T encStr (fun x y=>decide (x=y)):=by
 refine⟨fun x y w=> ?_,fun op a b x y w=>(NeqAt.string Tryz.prog T).2 op a b ⟨x.toArray⟩ ⟨y.toArray⟩ w⟩;have:=(NeqAt.string Tryz.prog T).1 ⟨x.toArray⟩ ⟨y.toArray⟩ w;rw[this];by_cases h:x=y <;>simp[h]
theorem JV{l:List (List UInt8)}(h:l.Nodup):(compactUpTo l.toArray l.toArray.size)=l:=by
 have:compact l=l:=compact_all l (fun j hj=>by
  unfold keeps;rw[decide_eq_true_iff];by_cases h0:j=0
  ·exact .inl h0
  ·refine .inr (fun e=> ?_)
   have h1:l.toArray[j]! =l[j]:=by simp[hj]
   have h2:l.toArray[j-1]! =l[j-1]:=by simp[show j-1 < l.length by omega]
   rw[h1,h2] at e;exact(List.pairwise_iff_getElem.1 h (j-1) j (by omega) hj (by omega)) e.symm)
 simpa[compact] using this
theorem UR(B:Nat)(v:Value)(l:List (List UInt8))(w:World)(hn:l.Nodup)(hl:l.length≤1000000)(ho:w.ownsRow B 9 1 v l.length (l.map strV)):
 Calls Tryz.prog 50 #[v] w fun e w'=>e= .returned (.bool false)∧Fr (fun q=>v.ownBlock=some q) w w':=by
 rcases ho.2 with⟨h0,h1⟩|⟨g,cap,cur,hv,hg,hh,hc1,hc2,hc3,ht⟩
 ·subst h0
  have T1:=zz (Uf none 0 w);have T2:Calls Tryz.prog 107 #[.slice none 0 0] w fun e w'=>e= .returned (.slice none 0 0)∧w'=w:=by
   go_enter Tryz.func107,Tryz.ntmps107;go_wp2;go_ret;exact⟨rfl,rfl⟩
  have T2:=zz T2;clear ho;go_enter Tryz.func50,Tryz.ntmps50;go_wp2_with fail;refine T1.out.mono ?_;rintro e w1 ⟨rfl,rfl⟩;go_wp2_with fail;refine T2.out.mono ?_;rintro e w1 ⟨rfl,rfl⟩;go_wp2;go_ret;exact⟨rfl,Fr.refl _ _⟩
 ·subst hv
  rw[Nat.mul_one] at ht;have hperm:(l.mergeSort fun x y=>decide (x≤y)).Perm l:=List.mergeSort_perm l _;have hts:(l.mergeSort fun x y=>decide (x≤y)).Nodup:=hperm.nodup_iff.2 hn;have hlen:(l.mergeSort fun x y=>decide (x≤y)).length=l.length:=hperm.length_eq;generalize hT:(l.mergeSort fun x y=>decide (x≤y))=ts at hts hlen;have hgl:g < w.heap.size:=(Ab.1 hh).1;have T1:=zz ((Tryz.slices_Sort_string g 0 cap l w (holds_of_block hh ht) hgl (by omega)).mono (R':=fun e w'=>e= .returned (.tuple #[])∧w'.ownsRow B 9 1 (.slice (some ⟨g,0,none⟩) l.length cap) l.length (ts.map strV)∧Fr (fun q=>q=g) w w') (by
   rintro e w' ⟨rfl,n,os,rfl⟩;rw[hT];exact⟨rfl,ownsRow_sorted hlen hg hh (by simpa using hc1) hc2 hc3,Fr.EQ (grownBy_sorted _) (fun q e=>by injection e with e;exact e.symm)⟩))
  have T2:=zz (fun(W:World) (h:W.ownsRow B 9 1 (.slice (some ⟨g,0,none⟩) l.length cap) l.length (ts.map strV))=>show Calls Tryz.prog 107 #[.slice (some ⟨g,0,none⟩) l.length cap] W fun e w'=>e= .returned (.slice (some ⟨g,0,none⟩) l.length cap)∧Fr (fun q=>q=g) W w' from by
   rcases h.2 with⟨h0,_⟩|⟨g',cap',cur',hv',hg',hh',hc1',hc2',hc3',ht'⟩
   ·cases h0
   ·injection hv' with e1 e2 e3
    injection e1 with e1;injection e1 with e1;subst e1;subst e3;rw[Nat.mul_one,←hlen] at ht';have:=AnyE.slices_Compact Tryz.lCmp encStr (fun x=>rfl) (XH _) (WZ _) [] (fun W=>by kernel_rfl) g 0 cap ts.toArray W (holds_of_block hh' ht') (by simp;omega) (by simp;omega);rw[JV hts] at this;have hsz:ts.toArray.size=l.length:=by simpa using hlen
    rw[hsz] at this;refine this.mono ?_;rintro e w' ⟨rfl,q,rfl⟩;exact⟨by rw[hlen],frE encStr _⟩)
  clear ho hh hg hc1 hc2 hc3 ht;go_enter Tryz.func50,Tryz.ntmps50;go_wp2_with fail;refine T1.out.mono ?_;rintro e w1 ⟨rfl,ho1,hf1⟩;have T3:=zz (T2.out w1 ho1);have HF1:=zz hf1;clear T1 T2 ho1 hf1;go_wp2_with fail;refine T3.out.mono ?_;rintro e w2 ⟨rfl,hf2⟩;have HF2:=zz (HF1.out.trans hf2);clear T3 hf2;go_wp2;go_ret;refine⟨?_,HF2.out.imp (fun q _ e=>by subst e;rfl)⟩;simp
theorem P7(ab:Nat)(M:Nat→Option Hg.Node)(id:Nat)(w:World)(hA:ArOk w ab M)(hid:id < Aj)(href:(ndAt M id).ref < Aj):
 Calls Tryz.prog 58 #[.pointer (some ⟨ab,0,none⟩),idV id] w fun e w'=>e= .returned (.int .u8 (CS M id:Int))∧Below w.heap.size w w':=by
 have TG:=zz (hA.getN hid);have HA:=zz hA;generalize hr:CS M id=r;unfold CS at hr;clear hA;go_enter Tryz.func58,Tryz.ntmps58;go_wp2_with fail;refine TG.out.mono ?_;rintro e w1 ⟨ka,kc,rfl,ho1,hb1⟩;have hbn:=Nh (w1:=w1) (ndAt M id) ka kc;have hbw:=hb1.alloc hb1.size (.cells #[.int .u8 ((ndAt M id).kind:Int),strV (ndAt M id).name,.int .i64 (ndAt M id).num,.int .u8 ((ndAt M id).type:Int),.int .u64 ((ndAt M id).ref:Int),.slice ka (ndAt M id).kids.length kc] 44);have c0:=hbn 0;have c2:=hbn 2;have c4:=hbn 4;simp at c0 c2 c4;have HB:=zz hbw;have T2:=zz ((HA.out.below hbw).getN href);generalize ndAt M id=nd at*;obtain⟨kd,nm,nu,ty,rf,ks⟩:=nd;clear TG ho1 hb1 hbn hbw c0 c2 c4;dsimp only at href HB T2 hr;have HR:=zz hr;clear hr;by_cases h13:kd=13
 ·subst h13
  go_wp2;go_ret;have hr:=HR.out;simp at hr;subst hr;exact⟨rfl,HB.out⟩
 by_cases h17:kd=17
 ·subst h17
  go_wp2;go_ret;have hr:=HR.out;simp at hr;subst hr;exact⟨rfl,HB.out⟩
 by_cases h20:kd=20
 ·subst h20
  go_wp2;go_ret;have hr:=HR.out;simp at hr;subst hr;exact⟨rfl,HB.out⟩
 by_cases h14:kd=14
 ·subst h14
  go_wp2;go_ret;have hr:=HR.out;simp at hr;subst hr;exact⟨rfl,HB.out⟩
 by_cases h16:kd=16
 ·subst h16
  go_wp2;go_ret;have hr:=HR.out;simp at hr;subst hr;exact⟨rfl,HB.out⟩
 by_cases h18:kd=18
 ·subst h18
  by_cases h5:nu≤5
  ·go_wp2
   go_ret;have hr:=HR.out
   simp[h5] at hr
   subst hr;exact⟨rfl,HB.out⟩
  ·go_wp2
   go_ret;have hr:=HR.out;simp at hr;rw[if_neg (by omega)] at hr;subst hr;exact⟨rfl,HB.out⟩
 have hq:∀n:Nat,kd≠n→((kd:Int)==(n:Int))=false:=fun n h=>by simpa using(show¬(kd:Int)=(n:Int) by omega)
 have q13:=hq 13 h13;have q17:=hq 17 h17;have q20:=hq 20 h20;have q14:=hq 14 h14;have q16:=hq 16 h16;have q18:=hq 18 h18;by_cases h15:kd=15
 ·subst h15
  clear q13 q17 q20 q14 q16 q18 hq;go_wp2_with fail;refine T2.out.mono ?_;rintro e w2 ⟨ka2,kc2,rfl,ho2,hb2⟩;have HB2:=zz ((HB.out.trans (hb2.mono HB.out.size)));clear T2 ho2 hb2;go_wp2;go_ret;have hr:=HR.out;simp at hr;subst hr;exact⟨rfl,HB2.out.alloc HB2.out.size _⟩
 by_cases h19:kd=19
 ·subst h19
  clear q13 q17 q20 q14 q16 q18 hq;go_wp2_with fail;refine T2.out.mono ?_;rintro e w2 ⟨ka2,kc2,rfl,ho2,hb2⟩;have HB2:=zz ((HB.out.trans (hb2.mono HB.out.size)));clear T2 ho2 hb2;go_wp2;go_ret;have hr:=HR.out;simp at hr;subst hr;exact⟨rfl,HB2.out.alloc HB2.out.size _⟩
 have q15:=hq 15 h15;have q19:=hq 19 h19;clear hq T2;go_wp2;go_ret;have hr:=HR.out;rw[if_neg (by omega),if_neg (by omega),if_neg h18,if_neg (by omega)] at hr;subst hr;exact⟨rfl,HB.out⟩
end Go.Proofs.YtijhlanclfajiaaGreatDoor
namespace Hg
def Bh(xs:List (Nat×Node)):List Str:=(xs.filter fun x=>x.2.kind==4||x.2.kind==6).map fun x=>x.2.name
end Hg
namespace Go.Proofs.YtijhlanclfajiaaGreatDoor
open Go.RowKit
open Hg (GT gl wk isK ndAt Bf Bj BI KB Ce CS Bh)
attribute [local go_sem] Oper.semAt_some
theorem Qm(l:List (Nat×Hg.Node))(p:Nat×Hg.Node):Bh (l++[p])=Bh l++(if p.2.kind==4||p.2.kind==6 then[p.2.name] else[]):=by
 unfold Bh;rw[List.filter_append,List.map_append]
 congr 1
 by_cases h:(p.2.kind==4||p.2.kind==6)=true
 ·simp[h]
 ·simp only[Bool.not_eq_true] at h
  simp[h]
theorem NC(l:List (Nat×Hg.Node)):(Bh l).length≤l.length:=by unfold Bh;rw[List.length_map];exact List.length_filter_le _ _
theorem MZ(M:Nat→Option Hg.Node):∀(f:Nat) (s seen:List Nat) (r:List (Nat×Hg.Node)),wk M f s seen=some r→r.length < f
 |0,_,_,_,h=>by cases h
 |f+1,[],_,r,h=>by rw[Hg.Rh] at h;injection h with h;subst h;simp
 |f+1,i::s,seen,r,h=>by
   rw[Hg.EF] at h;cases hM:M i with
   |none=>rw[hM] at h;have:=MZ M f s seen r h;omega
   |some n=>
     rw[hM] at h;dsimp only at h;by_cases hi:i∈seen
     ·rw[if_pos hi] at h;have:=MZ M f s seen r h;omega
     ·rw[if_neg hi] at h
      cases hw:wk M f (n.kids++s) (i::seen) with
      |none=>rw[hw] at h;cases h
      |some r'=>
        rw[hw] at h;have h:(i,n)::r'=r:=Option.some.inj h;have:=MZ M f _ _ r' hw;rw[←h];simp;omega
@[reducible] def Ad(nd:Hg.Node)(ka:Option Addr)(kc:Nat):Array Value:= #[.int .u8 (nd.kind:Int),strV nd.name,.int .i64 nd.num,.int .u8 (nd.type:Int),.int .u64 (nd.ref:Int),.slice ka nd.kids.length kc]
def Ip(B:Nat)(S:Nat→Prop)(pre:List Am)(A:World):Prop:=∃v,A.heap[B]? =some (.cells #[v] 87 (0,0))∧A.ownsRow (B+1) 9 1 v (Bh (pre.map Am.strip)).length ((Bh (pre.map Am.strip)).map strV)∧∀q,S q↔q=B∨v.ownBlock=some q
theorem Ip.fr{B:Nat}{S:Nat→Prop}{pre:List Am}{A A':World}(h:Ip B S pre A)(hf:Fr (fun q=>¬S q) A A'):Ip B S pre A':=by
 obtain⟨v,h1,h2,h3⟩:=h;exact⟨v,hf.at_ h1 (fun h=>h ((h3 B).2 (.inl rfl))),Aq h2 hf (fun q e h=>h ((h3 q).2 (.inr e))),h3⟩
theorem Ip.lt{B:Nat}{S:Nat→Prop}{pre:List Am}{A:World}(h:Ip B S pre A):∀q,S q→B≤q∧q < A.heap.size:=by
 obtain⟨v,h1,h2,h3⟩:=h;intro q hq;rcases(h3 q).1 hq with e|e
 ·subst e;exact⟨AA,(Ab.1 h1).1⟩
 ·have:=h2.lt q e;exact⟨by omega,this.2⟩
def Y6(p5 p7:Value)(a:Act):Prop:=∃u0 u1 u2 u3 u4 u6 u8 u9 u10 u11 u12 u13 u14 u15 u16 u17 u18 u19 u20 u21 u22 u23 u24 u25 u26:Value,a={tmps:= #[u0,u1,u2,u3,u4,p5,u6,p7,u8,u9,u10,u11,u12,u13,u14,u15,u16,u17,u18,u19,u20,u21,u22,u23,u24,u25,u26],defers:=[]}
def ZK(B:Nat)(S:Nat→Prop)(pre:List Am)(x:Am)(a:Act)(A:World):Prop:=
 ∃S0 blk,Ip B S0 pre A∧Y6 (.pointer (some ⟨B,0,none⟩)) (.pointer (some ⟨blk,0,none⟩)) a∧A.heap[blk]? =some (.cells (Ad x.nd x.ka x.kc) 44 (0,0))∧(∀q,S q↔S0 q∨q=blk)∧¬S0 blk
theorem SG(ab:Nat)(M:Nat→Option Hg.Node)(id F:Nat)(xs:List (Nat×Hg.Node))(w:World)(hA:ArOk w ab M)(hid:id < Aj)(hxs:wk M F [id] []=some xs)(hF:F≤1000000):
 Calls Tryz.prog 54 #[.pointer (some ⟨ab,0,none⟩),idV id] w (Xi w (Bh xs)):=by
 obtain⟨i0,hi0,hz0,hz1,hz2⟩:=info_parts OE;have HA:=zz hA;have TW:=zz (Jt ab id);refine(callsIn_wide (n:=5)).1 (callsIn_of_wp_marks Tryz.func54 rfl trivial ?_ rfl);simp only[Tryz.ntmps54,List.size_toArray,List.length_cons,List.length_nil,Nat.reduceAdd,Nat.reduceSub,Array.replicate_succ,Array.replicate_zero,List.push_toArray,List.append_toArray,List.nil_append,List.cons_append];gi_wp2_with fail;refine⟨trivial,(callsIn_wide.2 (TW.out _)).mono ?_⟩;rintro e w1 ⟨rfl,rfl⟩;gi_wp2;obtain⟨⟨mb,c,hAr⟩,hkb⟩:=HA.out;have hb0:Below w.heap.size w (((w.alloc (.cells #[.slice none 0 0] 87)).alloc (.cells #[.pointer (some ⟨ab,0,none⟩)] 26)).alloc (.cells #[idV id] 37)):=(((AP).alloc AA _).alloc (by simp) _).alloc (by simp;omega) _;have hzW:(((w.alloc (.cells #[.slice none 0 0] 87)).alloc (.cells #[.pointer (some ⟨ab,0,none⟩)] 26)).alloc (.cells #[idV id] 37)).heap.size=w.heap.size+3:=by simp
 have h0:(((w.alloc (.cells #[.slice none 0 0] 87)).alloc (.cells #[.pointer (some ⟨ab,0,none⟩)] 26)).alloc (.cells #[idV id] 37)).heap[w.heap.size]? =some (.cells #[.slice none 0 0] 87 (0,0)):=(heap_alloc_old _ _ (by simp;omega)).trans ((heap_alloc_old _ _ (by simp)).trans (AZ w _));have h1:(((w.alloc (.cells #[.slice none 0 0] 87)).alloc (.cells #[.pointer (some ⟨ab,0,none⟩)] 26)).alloc (.cells #[idV id] 37)).heap[w.heap.size+1]? =some (.cells #[.pointer (some ⟨ab,0,none⟩)] 26 (0,0)):=by
  have:=AZ (w.alloc (.cells #[.slice none 0 0] 87)) (.cells #[.pointer (some ⟨ab,0,none⟩)] 26);rw[show(w.alloc (.cells #[.slice none 0 0] 87)).heap.size=w.heap.size+1 by simp] at this;exact(heap_alloc_old _ _ (by simp)).trans this
 have h2:(((w.alloc (.cells #[.slice none 0 0] 87)).alloc (.cells #[.pointer (some ⟨ab,0,none⟩)] 26)).alloc (.cells #[idV id] 37)).heap[w.heap.size+2]? =some (.cells #[idV id] 37 (0,0)):=by
  have:=AZ ((w.alloc (.cells #[.slice none 0 0] 87)).alloc (.cells #[.pointer (some ⟨ab,0,none⟩)] 26)) (.cells #[idV id] 37);rw[show((w.alloc (.cells #[.slice none 0 0] 87)).alloc (.cells #[.pointer (some ⟨ab,0,none⟩)] 26)).heap.size=w.heap.size+2 by simp] at this;exact this
 generalize World.alloc (World.alloc (World.alloc w _) _) _=W1 at hb0 hzW h0 h1 h2⊢;have hseq:=IB ab mb c M w.heap.size id (w.heap.size+2) (w.heap.size+1) F xs W1 (fun W' hf=>hAr.below (hb0.trans (hf.below' (by omega))) AA) (AJ W1 (w.heap.size+2) 0 _ _ (0,0) h2) (AJ W1 (w.heap.size+1) 0 _ _ (0,0) h1) ⟨by omega,by omega,by omega,by omega⟩ hid hkb hxs hF;have HB0:=zz hb0;have hxl:=MZ M F _ _ _ hxs;clear hA TW hAr hkb h1 h2;refine GL (gf:=97) rfl (enters_of Tryz.func97 (by kernel_rfl) rfl) hseq (Fr.refl _ _) rfl (fun q h=>by rcases h with h|h <;>omega) (by omega)
  (Ip w.heap.size) (fun _ _ _ _=>False) (ZK w.heap.size) (fun S pre A A' h hf=>h.fr hf) (fun _ _ _ _ _ h _=>h) ?hI1 (fun S pre A h q hq=>(h.lt q hq).2) ?hI1l
  (fun q=>q=w.heap.size) ⟨_,h0,⟨rfl,.inl ⟨rfl,rfl⟩⟩,fun q=>by simp[Value.ownBlock]⟩ (fun q e=>by subst e;exact⟨AA,by omega,by omega⟩) ?assign ?body ?done ?stop
 case hI1=>
  rintro S pre x a A A' ⟨S0,blk,hi,ha,hb,hS,hn⟩ hf;exact⟨S0,blk,hi.fr (hf.imp (fun q _ h h'=>h (.inl ((hS q).2 (.inl h'))))),ha,hf.at_ hb (fun h=>h (.inl ((hS blk).2 (.inr rfl)))),hS,hn⟩
 case hI1l=>
  rintro S pre x a A ⟨S0,blk,hi,ha,hb,hS,hn⟩ q hq;rcases(hS q).1 hq with h|h
  ·exact(hi.lt q h).2
  ·subst h;exact(Ab.1 hb).1
 case assign=>
  intro l m S pre x A K hi hpre hx hkb hf hK;gi_wp2;refine hK (fun q=>S q∨q=A.heap.size) _ _ ⟨S,A.heap.size,hi.fr ((Fr.refl _ _).alloc _), ?_,AZ A _,fun q=>Iff.rfl,fun h=>by have:=(hi.lt _ h).2;omega⟩ ((Fr.refl _ _).alloc _) (fun q h=>h.imp (fun h=>h) (fun h=>by omega));exact⟨_,_,_,_,_,_,_,_,_,_,_,_,_,_,_,_,_,_,_,_,_,_,_,_,_,rfl⟩
 case body=>
  rintro l m S pre x a1 A ⟨S0,blk,⟨v,hbx,hrow,hSv⟩,ha,hb,hS,hn⟩ hpre hf;obtain⟨u0,u1,u2,u3,u4,u6,u8,u9,u10,u11,u12,u13,u14,u15,u16,u17,u18,u19,u20,u21,u22,u23,u24,u25,u26,rfl⟩:=ha;have hlen:(Bh (pre.map Am.strip)).length≤1000000:=by
   have h1:=NC (pre.map Am.strip);have h2:=hpre.length_le;simp at h1 h2;omega
  have hsn:=Qm (pre.map Am.strip) x.strip;rw[show pre.map Am.strip++[x.strip]=(pre++[x]).map Am.strip by simp] at hsn;have e0:=AJ A blk 0 _ _ (0,0) hb;have e1:=AJ A blk 1 _ _ (0,0) hb;have eB:=AJ A w.heap.size 0 _ _ (0,0) hbx;have fB:A.frozen? ⟨w.heap.size,0,none⟩=false:=by simp[World.frozen?,hbx]
  have hBl:=(Ab.1 hbx).1;have hbl:=(Ab.1 hb).1;simp at e0 e1 eB;generalize hnd:x.nd=nd at e0 e1;have HSN:=zz hsn;have HND:=zz hnd;have HROW:=zz hrow;have HBX:=zz hbx;have HSS:=zz (And.intro hSv hS);clear hsn hrow hSv hS hb hpre hf;by_cases hk:nd.kind=4∨nd.kind=6
  ·have hcond:(x.strip.2.kind==4||x.strip.2.kind==6)=true:=by
    show(x.nd.kind==4||x.nd.kind==6)=true;rw[hnd];rcases hk with h|h <;>simp[h]
   rw[hcond] at HSN;have HSN2:=zz (show Bh ((pre++[x]).map Am.strip)=Bh (pre.map Am.strip)++[nd.name] from by rw[HSN.out,←hnd];rfl);have hq:((nd.kind:Int)==4)=true∨(((nd.kind:Int)==4)=false∧((nd.kind:Int)==6)=true):=by
    rcases hk with h|h
    ·exact .inl (by simp[h])
    ·exact .inr ⟨by simp[h],by simp[h]⟩
   clear hcond HSN hnd hk;rcases hq with hq|⟨hq,hq6⟩
   all_goals
    gi_wp2_with (gi_at_builtin;refine wpListIn_append_own_at _ rfl (.tmp 21) (.tmp 24) _ rfl (w.heap.size+1) 9 i0 _ 1 16 Tryz.underlying87 hi0 hz0 hz1 hz2 rfl (by decide) _ (Bh (pre.map Am.strip)).length ((Bh (pre.map Am.strip)).map strV) rfl (HROW.out.alloc _) ⟨A.heap.size,0,none⟩ 1 1 [strV nd.name] rfl rfl (Ao _ _ _) ?_ ?_ ?_ ?_ ?_)
    all_goals first
     |intro v3 W3 own3 g3 _ at3
     |(unfold maxLen;omega)
     |omega
     |(simp;omega)
     |(intro u hu;simp only[List.mem_singleton] at hu;subst hu;rfl)
    obtain⟨y3,z3,rfl⟩:=ownsRow_succ own3;have hfa:Fr (fun q=>v.ownBlock=some q) A W3:=((Fr.refl _ A).alloc _).step g3 (fun q e=> .inl e);have hb3:W3.heap[w.heap.size]? =some (.cells #[v] 87 (0,0)):=hfa.at_ HBX.out (fun e=>by have:=(HROW.out.lt _ e).1;omega);have c3:W3.cell? ⟨w.heap.size,0,none⟩=some v:=by have:=AJ W3 w.heap.size 0 _ _ (0,0) hb3;simpa using this
    have f3:W3.frozen? ⟨w.heap.size,0,none⟩=false:=by simp[World.frozen?,hb3]
    have hBl3:w.heap.size < W3.heap.size:=(Ab.1 hb3).1;have HFIN:=zz (show∃S',Ip w.heap.size S' (pre++[x]) (W3.setCell ⟨w.heap.size,0,none⟩ (.slice (some ⟨y3,0,none⟩) ((Bh (pre.map Am.strip)).length+1) z3))∧Fr S A (W3.setCell ⟨w.heap.size,0,none⟩ (.slice (some ⟨y3,0,none⟩) ((Bh (pre.map Am.strip)).length+1) z3))∧∀q,S' q→S q∨A.heap.size≤q from by
     refine⟨fun q=>q=w.heap.size∨y3=q,⟨_,heap_setCell_same hb3 _, ?_,fun q=>by simp[Value.ownBlock]⟩, ?_,fun q hq=> ?_⟩
     ·rw[HSN2.out,List.map_append,List.length_append]
      exact Aq own3 ((Fr.refl (fun q=>q=w.heap.size) W3).set (p:=⟨w.heap.size,0,none⟩) (.inl rfl) _) (fun q e e'=>by have:=(own3.lt q e).1;omega)
     ·refine(hfa.imp (fun q _ e=>(HSS.out.2 q).2 (.inl ((HSS.out.1 q).2 (.inr e))))).set (p:=⟨w.heap.size,0,none⟩) (.inl ((HSS.out.2 w.heap.size).2 (.inl ((HSS.out.1 w.heap.size).2 (.inl rfl))))) _
     ·rcases hq with e|e
      ·exact .inl ((HSS.out.2 q).2 (.inl ((HSS.out.1 q).2 (.inl e))))
      ·rcases at3 with h|h
       ·exact .inl ((HSS.out.2 q).2 (.inl ((HSS.out.1 q).2 (.inr (by rw[←h,←e];rfl)))))
       ·injection h with h
        have h:y3=_:=h
        try simp at h
        exact .inr (by omega))
    clear own3 g3 at3 hfa hb3;gi_wp2;exact HFIN.out
  ·have hcond:(x.strip.2.kind==4||x.strip.2.kind==6)=false:=by
    show(x.nd.kind==4||x.nd.kind==6)=false;rw[hnd]
    simp;omega
   rw[hcond] at HSN;have HSN2:=zz (show Bh ((pre++[x]).map Am.strip)=Bh (pre.map Am.strip) from by rw[HSN.out];simp);have q4:((nd.kind:Int)==4)=false:=by simp;omega
   have q6:((nd.kind:Int)==6)=false:=by simp;omega
   clear hcond HSN hnd hk;gi_wp2;exact⟨_,⟨v,HBX.out,by rw[HSN2.out];exact HROW.out,HSS.out.1⟩,Fr.refl _ _,fun q h=> .inl ((HSS.out.2 q).2 (.inl h))⟩
 case done=>
  rintro S ys W hys ⟨v,hbx,hrow,hSv⟩ hK hnS hf;have eB:=AJ W w.heap.size 0 _ _ (0,0) hbx;simp at eB;have hpf:=CV W W1.heap.size (.deferred none);have hnv:∀q,v.ownBlock=some q→¬q=W1.heap.size:=fun q e e'=>hnS ((hSv _).2 (.inr (e' ▸ e)));have HFIN:=zz (show(∃u,(Ending.returned v= .returned u)∧(W.putObj W1.heap.size (.deferred none)).ownsRow w.heap.size 9 1 u (Bh xs).length ((Bh xs).map strV))∧Below w.heap.size w (W.putObj W1.heap.size (.deferred none)) from⟨⟨v,rfl,by
   rw[←hys];exact Cv (Aq hrow hpf (fun q e e'=>hnv q e e')) (by omega)⟩,by
   have h1:=HB0.out.trans ((hf.imp (D':=fun q=>w.heap.size≤q) (fun q _ e=>by rcases e with e|e|e <;>omega)).below' (by omega));exact h1.trans ((hpf.imp (D':=fun q=>w.heap.size≤q) (fun q _ e=>by omega)).below' h1.size)⟩)
  clear hbx hrow hSv hf hpf hnv;gi_wp2;refine⟨by simp,.inl ⟨_,_,rfl,run_takeDeferred hK, ?_⟩⟩;refine⟨_,results_tmp rfl _ _ _, ?_⟩;exact HFIN.out
 case stop=>
  intro c S pre W hpre h;exact h.elim
end Go.Proofs.YtijhlanclfajiaaGreatDoor
namespace Hg
def Gf(M:Nat→Option Node)(mod fn:Str)(m:Nat)(l:List Nat):Option Nat:=l.find? fun f=>Ce M m==mod && Ce M f==fn
def Er(M:Nat→Option Node)(mod fn:Str):List Nat→Option Nat
 |[]=>none
 |m::l=>match Gf M mod fn m (BI M m) with|some f=>some f|none=>Er M mod fn l
def Ia(M:Nat→Option Node)(mod fn:Str):Nat:=(Er M mod fn (Bj M)).getD 0
def H9(M:Nat→Option Node):Nat:=match M (Ia M Ci Ci) with
 |none=>0
 |some n=>if n.type=1∧(Bf M (Ia M Ci Ci) 4).length=0 then Ia M Ci Ci else 0
theorem LK{M:Nat→Option Node}{mod fn:Str}{m f:Nat}{l:List Nat}(h:Gf M mod fn m l=some f):f∈l:=List.mem_of_find?_eq_some h
theorem Q6{M:Nat→Option Node}(hk:KB M){mod fn:Str}{f:Nat}:∀{l:List Nat},Er M mod fn l=some f→f < 18446744073709551616
 |[],h=>by cases h
 |m::l,h=>by
   rw[Er] at h;cases hf:Gf M mod fn m (BI M m) with
   |some g=>
     rw[hf] at h;have h:some g=some f:=h;injection h with h;subst h;exact hk.kids m 3 _ (LK hf)
   |none=>rw[hf] at h;exact Q6 hk h
theorem XC{M:Nat→Option Node}(hk:KB M)(mod fn:Str):Ia M mod fn < 18446744073709551616:=by
 unfold Ia;cases h:Er M mod fn (Bj M) with
 |none=>decide
 |some f=>exact Q6 hk h
end Hg
namespace Go.Proofs.YtijhlanclfajiaaGreatDoor
open Go.RowKit
open Hg (GT gl wk isK ndAt Bf Bj BI KB Ce CS Bh Gf Er Ia H9 Ci)
theorem XB(ab:Nat)(M:Nat→Option Hg.Node)(mod fn:List UInt8)(w:World)(hA:ArOk w ab M):
 Calls Tryz.prog 33 #[.pointer (some ⟨ab,0,none⟩),strV mod,strV fn] w fun e w'=>e= .returned (idV (Ia M mod fn))∧Below w.heap.size w w':=by
 have T1:=zz (Ll ab M w hA);have HA:=zz hA;have hml:=hA.lenK 1 2;have hmm:=hA.2.kids 1 2;have HMM:=zz hmm;generalize hR:Er M mod fn (Bj M)=R;have HR0:=zz hR;have HFK:=zz (show Ia M mod fn=R.getD 0 from by unfold Ia;rw[hR]);clear hA hmm hR;go_enter Tryz.func33,Tryz.ntmps33;go_wp2_with fail;refine T1.out.mono ?_;rintro e w1 ⟨⟨v,rfl,ho1⟩,hb1⟩;obtain⟨a,c,rfl⟩:=(Sl.Ai ho1).form;have HS:=zz (Sl.Ai ho1);have HB1:=zz hb1;have HA1:=zz (HA.out.below hb1);change (Bj M).length≤1000000 at hml;clear ho1 hb1 T1;go_wp2
 go_loopw [14] (fun p wr=>∃i:Nat,p= .int .i64 (i:Int)∧i≤(Bj M).length∧Below w1.heap.size w1 wr∧Er M mod fn ((Bj M).drop i)=R) (fun p wr=>(Bj M).length-(intOf p).toNat)
 case atStart=>exact⟨0,rfl,Nat.zero_le _,AP,HR0.out⟩
 case round=>
  obtain⟨i,rfl,hi,hb,hR⟩:=hrel;have HB:=zz hb;clear hb;by_cases hlt:i < (Bj M).length
  ·obtain⟨b,o,rfl,_,kc⟩:=(HS.out.below HB.out AA).mapAt hlt
   have hmi:=HMM.out _ (List.getElem_mem hlt);rw[Au hlt,Er] at hR;generalize(Bj M)[i]=m at kc hmi hR;have T2:=zz (Ol ab M m wr (HA1.out.below HB.out) hmi);have hfl:=(HA1.out.below HB.out).lenK m 3;have HFM:=zz (HA.out.2.kids m 3);have HR:=zz hR;change (BI M m).length≤1000000 at hfl;clear hR;go_wp2_with fail;refine T2.out.mono ?_;rintro e w2 ⟨⟨v2,rfl,ho2⟩,hb2⟩;obtain⟨a2,c2,rfl⟩:=(Sl.Ai ho2).form;have HS2:=zz (Sl.Ai ho2);have HB2:=zz (HB.out.trans (hb2.mono HB.out.size));clear ho2 hb2 T2;generalize hR2:Gf M mod fn m (BI M m)=R2 at HR;have HR2:=zz hR2;clear hR2;go_wp2
   go_loopw [22] (fun p wr=>∃j:Nat,p= .int .i64 (j:Int)∧j≤(BI M m).length∧Below w2.heap.size w2 wr∧Gf M mod fn m ((BI M m).drop j)=R2) (fun p wr=>(BI M m).length-(intOf p).toNat)
   case atStart=>exact⟨0,rfl,Nat.zero_le _,AP,HR2.out⟩
   case round=>
    obtain⟨j,rfl,hj,hb3,hr2⟩:=hrel;have HB3:=zz hb3;have HB3':=zz (HB2.out.trans (hb3.mono HB2.out.size));clear hb3;by_cases hltj:j < (BI M m).length
    ·obtain⟨b2,o2,rfl,_,kc2⟩:=(HS2.out.below HB3.out AA).mapAt hltj
     have hfj:=HFM.out _ (List.getElem_mem hltj);rw[Au hltj] at hr2;unfold Gf at hr2;rw[List.find?_cons] at hr2;generalize(BI M m)[j]=f at kc2 hfj hr2;have TN:=zz (LC ab M m wr (HA1.out.below HB3'.out) hmi);replace hr2:(match Ce M m==mod && Ce M f==fn with|true=>some f|false=>Gf M mod fn m ((BI M m).drop (j+1)))=R2:=hr2;have HR3:=zz hr2;clear hr2;generalize hnm:Ce M m=nm at TN HR3;have HNM:=zz hnm;clear hnm;by_cases hm:nm=mod
     ·subst hm
      go_wp2_with fail;refine TN.out.mono ?_;rintro e w3 ⟨rfl,hb3⟩;have HB4:=zz (HB3'.out.trans (hb3.mono HB3'.out.size));have HB5:=zz (HB3.out.trans (hb3.mono HB3.out.size));have TF:=zz (LC ab M f w3 (HA1.out.below HB4.out) hfj);generalize hnf:Ce M f=nf at TF HR3;have HNF:=zz hnf;clear hb3 TN hnf;by_cases hf:nf=fn
      ·subst hf
       have hr3:=HR3.out;simp only[beq_self_eq_true,Bool.and_self] at hr3;go_wp2_with fail;refine TF.out.mono ?_;rintro e w4 ⟨rfl,hb4⟩;have HB6:=zz (HB1.out.trans ((HB4.out.trans (hb4.mono HB4.out.size)).mono HB1.out.size));clear hb4 TF;subst hr3;have hR:=HR.out;have hR:some f=R:=hR;subst hR;go_wp2;go_ret;rw[HFK.out];exact⟨rfl,HB6.out⟩
      ·have hr3:=HR3.out
       have hbf:(nf==fn)=false:=by simpa using hf
       rw[hbf,Bool.and_false] at hr3;have HR5:=zz hr3;clear hr3;go_wp2_with fail;refine TF.out.mono ?_;rintro e w4 ⟨rfl,hb4⟩;have HB7:=zz (HB5.out.trans (hb4.mono HB5.out.size));clear hb4 TF;go_wp2;go_roundw
       case rel=>exact⟨j+1,by go_num,by omega,HB7.out,HR5.out⟩
       case measure=>simp[intOf];omega
     ·have hr3:=HR3.out
      have hbf:(nm==mod)=false:=by simpa using hm
      rw[hbf,Bool.false_and] at hr3;have HR5:=zz hr3;clear hr3;go_wp2_with fail;refine TN.out.mono ?_;rintro e w3 ⟨rfl,hb3⟩;have HB5:=zz (HB3.out.trans (hb3.mono HB3.out.size));clear hb3 TN;go_wp2;go_roundw
      case rel=>exact⟨j+1,by go_num,by omega,HB5.out,HR5.out⟩
      case measure=>simp[intOf];omega
    ·obtain rfl:j=(BI M m).length:=by omega
     rw[List.drop_length] at hr2;have hr2:none=R2:=hr2;subst hr2;have HR4:=zz (show Er M mod fn ((Bj M).drop (i+1))=R from HR.out);go_wp2;go_roundw
     case rel=>exact⟨i+1,by go_num,by omega,HB3'.out,HR4.out⟩
     case measure=>simp[intOf];omega
  ·obtain rfl:i=(Bj M).length:=by omega
   rw[List.drop_length] at hR;have hR:none=R:=hR;subst hR;go_wp2;go_ret;rw[HFK.out];exact⟨rfl,HB1.out.trans (HB.out.mono HB1.out.size)⟩
theorem NE(ab:Nat)(M:Nat→Option Hg.Node)(w:World)(hA:ArOk w ab M):
 Calls Tryz.prog 12 #[.pointer (some ⟨ab,0,none⟩)] w fun e w'=>e= .returned (idV (H9 M))∧Below w.heap.size w w':=by
 have T1:=zz (XB ab M Ci Ci w hA);have HA:=zz hA;generalize hr:H9 M=r;unfold H9 at hr;have hfl:=Hg.XC hA.2 Ci Ci;generalize hf:Ia M Ci Ci=f at hr hfl T1;clear hA hf;have hget:∀W,ArOk W ab M→∀o,M f=o→Calls Tryz.prog 34 #[.pointer (some ⟨ab,0,none⟩),.int .u64 (f:Int)] W (Hu W o):=fun W h o e=>e ▸ h.get hfl;cases hM:M f with
 |none=>
   rw[hM] at hr;have hr:0=r:=hr;subst hr;go_enter Tryz.func12,Tryz.ntmps12;go_wp2_with fail;refine T1.out.mono ?_;rintro e w1 ⟨rfl,hb1⟩;have TG:=zz (hget w1 (HA.out.below hb1) none hM);have HB1:=zz hb1;clear T1 hb1;go_wp2_with fail;refine TG.out.mono ?_;rintro e w2 ⟨ka,kc,rfl,ho,hb2⟩;have HB2:=zz (HB1.out.trans (hb2.mono HB1.out.size));clear TG ho hb2;go_wp2;go_ret;exact⟨rfl,HB2.out.alloc HB2.out.size _⟩
 |some nd=>
   rw[hM] at hr;have hr:(if nd.type=1∧(Bf M f 4).length=0 then f else 0)=r:=hr;have HR:=zz hr;clear hr;go_enter Tryz.func12,Tryz.ntmps12;go_wp2_with fail;refine T1.out.mono ?_;rintro e w1 ⟨rfl,hb1⟩;have TG:=zz (hget w1 (HA.out.below hb1) (some nd) hM);have HB1:=zz hb1;clear T1 hb1;go_wp2_with fail;refine TG.out.mono ?_;rintro e w2 ⟨ka,kc,rfl,ho,hb2⟩;have HB2:=zz (HB1.out.trans (hb2.mono HB1.out.size));have hb3:=HB2.out.alloc HB2.out.size (.cells (Ad nd ka kc) 44);have HB3:=zz hb3;have TK:=zz (KM ab M f 4 _ (HA.out.below hb3) hfl);clear TG ho hb2 hb3;by_cases ht:nd.type=1
   ·have hq:((nd.type:Int) !=1)=false:=by simp[ht]
    have hq2:((nd.type:Int)==1)=true:=by simp[ht]
    rw[ht] at HR;clear ht;go_wp2_with fail;refine TK.out.mono ?_;rintro e w4 ⟨⟨v,rfl,ho4⟩,hb4⟩;obtain⟨a4,c4,rfl⟩:=(Sl.Ai ho4).form;have HB4:=zz (HB3.out.trans (hb4.mono HB3.out.size));have hr:=HR.out;simp only[true_and] at hr;clear TK ho4 hb4;by_cases hk:(Bf M f 4).length=0
    ·rw[if_pos hk] at hr
     subst hr;generalize(Bf M f 4).length=n at hk⊢;subst hk;go_wp2;go_ret;exact⟨rfl,HB4.out⟩
    ·rw[if_neg hk] at hr
     subst hr;generalize(Bf M f 4).length=n at hk⊢;have hk2:0 < n:=by omega
     go_wp2;go_ret;exact⟨rfl,HB4.out⟩
   ·have hq:((nd.type:Int) !=1)=true:=by simp;omega
    have hq2:((nd.type:Int)==1)=false:=by simp;omega
    have hr:=HR.out;rw[if_neg (fun h=>ht h.1)] at hr;subst hr;clear ht TK;go_wp2;go_ret;exact⟨rfl,HB3.out⟩
end Go.Proofs.YtijhlanclfajiaaGreatDoor
namespace Hg
def Cr(M:Nat→Option Node)(n:Node)(x:Nat):Bool:=(decide (n.kind=5) && decide ((ndAt M x).kind=6))||(decide (n.kind=3) && decide ((ndAt M x).kind=4))
def Em(M:Nat→Option Node)(n:Node)(k:Nat):List Nat:=(n.kids.take k).filter (Cr M n)
def ED(M:Nat→Option Node)(par:Nat→Nat×Int):Nat→Nat→List Nat→List Nat→Option (List Nat)
 |0,_,_,_=>none
 |f+1,id,seen,out=>if id∈seen then some out else match M (par id).1 with
   |none=>some out
   |some n=>ED M par f (par id).1 (id::seen) (Em M n (par id).2.toNat++out)
end Hg
namespace Go.Proofs.YtijhlanclfajiaaGreatDoor
open Go.RowKit
open Hg (GT gl wk isK ndAt Bf KB Cr Em ED)
structure L8 (M:Nat→Option Hg.Node) (par:Nat→Nat×Int):Prop where
 zero:M 0=none
 par:∀id,Dx M id (fun i=>i < Aj) (par id).1 (par id).2
theorem L8.call{M:Nat→Option Hg.Node}{par:Nat→Nat×Int}(h:L8 M par){w:World}{ab:Nat}(hA:ArOk w ab M)(id:Nat):
 Calls Tryz.prog 105 #[.pointer (some ⟨ab,0,none⟩),.int .u64 (id:Int)] w fun e w'=>e= .returned (.tuple #[.int .u64 ((par id).1:Int),.int .i64 (par id).2])∧(par id).1 < Aj∧Below w.heap.size w w':=by
 obtain⟨⟨mb,c,hAr⟩,_⟩:=hA;refine(Kj ab mb c M id w hAr h.zero).mono ?_;rintro e w' ⟨p,k,hp,hlt,rfl,hb⟩;obtain⟨e1,e2⟩:=hp.unique (h.par id);subst e1;subst e2;exact⟨rfl,hlt,hb⟩
theorem YV(l:List Nat)(id k:Nat)(h:idxI l id=(k:Int)):k < l.length:=by
 unfold idxI at h;cases hf:l.findIdx? (· ==id) with
 |none=>rw[hf] at h;simp at h
 |some j=>
   rw[hf] at h;have h:(j:Int)=(k:Int):=h;have h2:=(List.findIdx?_eq_some_iff_getElem.1 hf).1;omega
structure SnSt (M:Nat→Option Hg.Node) (par:Nat→Nat×Int) (F sb:Nat) (R:List Nat) (w:World) (f:Nat) (v:Value) (id:Nat) (wr:World) (seen out:List Nat):Prop where
 own:wr.ownsRow w.heap.size 37 1 v out.length (out.map idV)
 mp:IMap wr sb (J9 seen)
 bel:Below w.heap.size w wr
 sl:w.heap.size≤sb
 run:ED M par f id seen out=some R
 cnt:seen.length+f≤F
 out:out.length≤seen.length*1000000
 lt:id < Aj
theorem V7(ab:Nat)(M:Nat→Option Hg.Node)(par:Nat→Nat×Int)(hp:L8 M par)(id F:Nat)(R:List Nat)(w:World)(hA:ArOk w ab M)(hid:id < Aj)(hR:ED M par F id [] []=some R)(hF:F≤1000000):
 Calls Tryz.prog 56 #[.pointer (some ⟨ab,0,none⟩),idV id] w (Pn w R):=by
 obtain⟨j0,hj,hj0,hj1,hj2⟩:=info_parts Gc;have hzb:∀W:World,(zeroValue 4).run Tryz.prog W= .ok (.bool false) W:=fun W=>by kernel_rfl
 have hmm:= @run_makeMap Tryz.prog;have HA:=zz hA;have HP:=zz hp;have HST:=zz (show SnSt M par F w.heap.size R w F (.slice none 0 0) id (w.alloc (.map #[] 0)) [] [] from⟨⟨rfl,.inl ⟨rfl,rfl⟩⟩,XMap.made 37 idV w,(AP).alloc AA _,AA,hR,by simp,by simp,hid⟩);clear hA hp hR hid;go_enter Tryz.func56,Tryz.ntmps56;go_wp2;generalize World.alloc w _=W1 at HST⊢
 go_loopw [5,7] (fun p q wr=>∃(v:Value) (id:Nat),p=v∧q=idV id∧∃f seen out,SnSt M par F w.heap.size R w f v id wr seen out) (fun p q wr=>Hg.least (fun f=>∃id seen out,q=idV id∧SnSt M par F w.heap.size R w f p id wr seen out))
 case atStart=>exact⟨_,id,rfl,rfl,F,[],[],HST.out⟩
 case round=>
  obtain⟨v,id,hv,rfl,hrel⟩:=hrel;have hv:=hv.symm;subst hv;have hl:=Hg.Jh (p:=fun f=>∃id2 seen out,idV id=idV id2∧SnSt M par F w.heap.size R w f v id2 wr seen out) (by
   obtain⟨f,seen,out,h⟩:=hrel;exact⟨f,id,seen,out,rfl,h⟩)
  generalize hf0:Hg.least _=f at hl;have HF0:=zz hf0;obtain⟨id2,seen,out,hid2,hS⟩:=hl;have hid2:id=id2:=by injection hid2 with _ h;exact Int.ofNat.inj h
  subst hid2;have HS:=zz hS;have hlk:=(hS.mp.look (t:=156) (x:=id) BM Tryz.underlying156 (hzb _) ⟨_,BZ hS.lt⟩);unfold J9 at hlk;rw[Hg.W9] at hlk;clear hf0 hrel HST hv;cases f with
  |zero=>have:=hS.run;cases this
  |succ f=>
  by_cases hin:id∈seen
  ·rw[if_pos hin] at hlk
   replace hlk:(Instr.lookup 156 (.map (some w.heap.size)) (.int .u64 (id:Int)) false).run Tryz.prog wr= .ok (.bool true) wr:=hlk;have hrun:=hS.run;rw[ED,if_pos hin] at hrun;have hrun:out=R:=Option.some.inj hrun;clear hS;go_wp2;go_ret;exact⟨⟨_,rfl,hrun ▸ HS.out.own⟩,HS.out.bel⟩
  ·rw[if_neg hin] at hlk
   replace hlk:(Instr.lookup 156 (.map (some w.heap.size)) (.int .u64 (id:Int)) false).run Tryz.prog wr= .ok (.bool false) wr:=hlk;have hrun:=hS.run;rw[ED,if_neg hin] at hrun;obtain⟨W2,hrun2,hU2,hg2⟩:=hS.mp.put (t:=156) BM Tryz.underlying156 (fun x y h=>by injection h with _ h;exact Int.ofNat.inj h) (by have:=hS.cnt;unfold J9;simp;omega) id ⟨_,BZ hS.lt⟩ (.bool true);replace hrun2:(Instr.mapUpdate 156 (.map (some w.heap.size)) (.int .u64 (id:Int)) (.bool true)).run Tryz.prog wr= .ok () W2:=hrun2;have hf2:Fr (fun q=>q=w.heap.size) wr W2:=Fr.EQ hg2 (fun q e=>by injection e with e;exact e.symm);have HO2:=zz (show W2.ownsRow w.heap.size 37 1 v out.length (out.map idV) from Aq hS.own hf2 (fun q e e'=>by
    obtain⟨es,ck,hm⟩:=hS.mp.obj;rcases Fx hS.own hm with h|h
    ·rw[h] at e;cases e
    ·exact h (e' ▸ e)))
   have hb2:Below w.heap.size w W2:=hS.bel.trans ((hf2.imp (D':=fun q=>w.heap.size≤q) (fun q _ e=>by omega)).below' hS.bel.size);have HB2:=zz hb2;have HU2:=zz (show IMap W2 w.heap.size (J9 (id::seen)) from hU2);have TP:=zz (HP.out.call (HA.out.below hb2) id);have hpar:=HP.out.par id;generalize par id=pk at TP hrun hpar;obtain⟨p,k⟩:=pk;dsimp only at TP hrun hpar;have hcn:=hS.cnt;have hol:=hS.out;clear hS hU2 hg2 hf2 hb2;go_wp2_with fail;refine TP.out.mono ?_;rintro e W3 ⟨rfl,hpl,hb3⟩;have HB3:=zz (HB2.out.trans (hb3.mono HB2.out.size));have HO3:=zz (Aq HO2.out (Fr.of_below (D:=fun _=>False) hb3) (fun _ _ e=>e));have HU3:=zz (HU2.out.fr (Fr.of_below (D:=fun _=>False) hb3) (fun e=>e));have hget:∀o,M p=o→Calls Tryz.prog 34 #[.pointer (some ⟨ab,0,none⟩),.int .u64 (p:Int)] W3 (Hu W3 o):=fun o e=>e ▸ (HA.out.below HB3.out).get hpl;clear TP hb3 hlk hrun2;cases hM:M p with
   |none=>
     rw[hM] at hrun;have hrun:out=R:=Option.some.inj hrun;have TG:=zz (hget none hM);clear hget;go_wp2_with fail;refine TG.out.mono ?_;rintro e W4 ⟨ka,kc,rfl,ho4,hb4⟩;have HB4:=zz (HB3.out.trans (hb4.mono HB3.out.size));have HO4:=zz (Aq HO3.out (Fr.of_below (D:=fun _=>False) hb4) (fun _ _ e=>e));clear TG ho4 hb4;go_wp2;go_ret;exact⟨⟨_,rfl,hrun ▸ HO4.out.alloc _⟩,HB4.out.alloc HB4.out.size _⟩
   |some n=>
     rw[hM] at hrun;dsimp only at hrun;have hk0:0≤k∧idxI n.kids id=k:=by
      rcases hpar with⟨h1,h2,h3⟩|⟨h1,h2,⟨nd,hn,h3,h4⟩,h5⟩
      ·rw[h1,HP.out.zero] at hM;cases hM
      ·rw[hM] at hn;injection hn with hn;subst hn;exact⟨h4,h3⟩
     obtain⟨kn,rfl⟩:∃kn:Nat,k=(kn:Int):=⟨k.toNat,by omega⟩;have hkl:kn < n.kids.length:=YV n.kids id kn hk0.2;have hnl:n.kids.length≤1000000:=by have:=(HA.out.below HB3.out).len p;unfold ndAt at this;rw[hM] at this;exact this
     have hnk:=HA.out.2 p n hM;have TG:=zz (hget (some n) hM);have hrun:ED M par f p (id::seen) (Em M n kn++out)=some R:=hrun;have HRUN:=zz hrun;have HNK:=zz hnk;clear hget hpar hk0 hrun hnk;go_wp2_with fail;refine TG.out.mono ?_;rintro e W4 ⟨ka,kc,rfl,ho4,hb4⟩;have HB4:=zz (HB3.out.trans (hb4.mono HB3.out.size));obtain⟨g,rfl⟩:∃g,ka=some ⟨g,0,none⟩:=by
      rcases ho4.2 with⟨h1,h2⟩|⟨g,cap,cur,hv,_⟩
      ·have h2:n.kids.length=0:=h2
       omega
      ·injection hv with e1;exact⟨g,e1⟩
     have hcap:n.kids.length≤kc:=(by obtain⟨c9,e,h,_⟩:=IP ho4 rfl;injection e with _ _ e;have h:n.kids.length≤c9:=h;omega);have hcap2:kn≤kc:=by omega
     have hW5:Below W4.heap.size W4 (W4.alloc (.cells (Ad n (some ⟨g,0,none⟩) kc) 44)):=(AP).alloc AA _;have hnew:=AZ W4 (.cells (Ad n (some ⟨g,0,none⟩) kc) 44);have HB5:=zz (HB4.out.alloc HB4.out.size (.cells (Ad n (some ⟨g,0,none⟩) kc) 44));have HO5:=zz ((Aq HO3.out (Fr.of_below (D:=fun _=>False) hb4) (fun _ _ e=>e)).alloc (.cells (Ad n (some ⟨g,0,none⟩) kc) 44));have HU5:=zz ((HU3.out.fr (Fr.of_below (D:=fun _=>False) hb4) (fun e=>e)).fr (Fr.of_below (D:=fun _=>False) hW5) (fun e=>e));have HS5:=zz (Sl.Ai (KF (ho4.alloc (.cells (Ad n (some ⟨g,0,none⟩) kc) 44)) (show kn≤n.kids.length by omega)));have hks:IntKind.i64.wrap (kn:Int)=(kn:Int):=IntWalk.i64_in _ (by omega);clear TG ho4 hb4 hW5;go_wp2;obtain⟨W5,hW5⟩:∃W5,W4.alloc (.cells (Ad n (some ⟨g,0,none⟩) kc) 44)=W5:=⟨_,rfl⟩;have hz5:W4.heap.size < W5.heap.size:=by rw[←hW5];simp
     simp only[Ad] at HB5 HO5 HU5 HS5 hnew hW5;rw[hW5] at HB5 HO5 HU5 HS5 hnew⊢;generalize hnb:W4.heap.size=nbk at hnew hz5⊢;clear hnb hW5;have HNW:=zz hnew;clear hnew;rw[←List.map_take] at HS5
     go_loopw [12,44] (fun p q wr=>∃(i:Nat) (u:Value),p=u∧q= .int .i64 (i:Int)∧i≤kn∧wr.ownsRow W5.heap.size 37 1 u (((n.kids.take kn).take i).filter (Cr M n)).length ((((n.kids.take kn).take i).filter (Cr M n)).map idV)∧Below W5.heap.size W5 wr) (fun _ q wr=>kn-(intOf q).toNat)
     case atStart=>exact⟨0,_,rfl,rfl,Nat.zero_le _,⟨rfl,.inl ⟨rfl,rfl⟩⟩,AP⟩
     case round=>
      obtain⟨i,u,hu,rfl,hi,hou,hb6⟩:=hrel;have hu:=hu.symm;subst hu;have HOU:=zz hou;have HB6:=zz hb6;have hlk:(n.kids.take kn).length=kn:=by rw[List.length_take];omega
      by_cases hlt:i < kn
      ·obtain⟨b,o,hbo,_,kcl⟩:=(show Sl W5 W5.heap.size (.slice (some ⟨g,0,none⟩) kn kc) (n.kids.take kn).length ((n.kids.take kn).map idV) from by rw[hlk];exact HS5.out).below HB6.out AA|>.mapAt (show i < (n.kids.take kn).length by omega)
       injection hbo with hbo;injection hbo with hbo1 hbo2;subst hbo1;subst hbo2;rw[Nat.zero_add] at kcl;have hxm:(n.kids.take kn)[i]∈n.kids:=List.mem_of_mem_take (List.getElem_mem _);have htk:(n.kids.take kn).take (i+1)=(n.kids.take kn).take i++[(n.kids.take kn)[i]]:=List.take_succ_eq_append_getElem (by omega);generalize(n.kids.take kn)[i]=x at kcl hxm htk;have hxl:=HNK.out x hxm;have HTK:=zz htk;have TGx:=zz ((HA.out.below (HB5.out.trans (hb6.mono HB5.out.size))).getN hxl);have hnwr:wr.heap[nbk]? =some (.cells (Ad n (some ⟨g,0,none⟩) kc) 44 (0,0)):=(hb6.block nbk hz5).trans HNW.out;have e0:=AJ wr nbk 0 _ _ (0,0) hnwr;simp at e0;clear hou hb6 htk hxm;go_wp2_with fail;refine TGx.out.mono ?_;rintro e w2 ⟨kax,kcx,rfl,hox,hbx⟩;have HB8:=zz (HB6.out.trans (hbx.mono HB6.out.size));have HOU:=zz (Aq HOU.out (Fr.of_below (D:=fun _=>False) hbx) (fun _ _ e=>e));have hnw2:w2.heap[nbk]? =some (.cells (Ad n (some ⟨g,0,none⟩) kc) 44 (0,0)):=(HB8.out.block nbk hz5).trans HNW.out;have d0:=AJ w2 nbk 0 _ _ (0,0) hnw2;simp at d0;have hz8:=HB8.out.size;have hnl2:nbk < w2.heap.size:=(Ab.1 hnw2).1;have hPX:Cr M n x=((decide (n.kind=5) && decide ((ndAt M x).kind=6))||(decide (n.kind=3) && decide ((ndAt M x).kind=4))):=rfl;generalize ndAt M x=m at hPX;generalize hps:Cr M n x=ps at hPX;have HPX:=zz hps;have hfl:(((n.kids.take kn).take i).filter (Cr M n)).length≤1000000:=by
        have h1:=List.length_filter_le (Cr M n) ((n.kids.take kn).take i);have h2:((n.kids.take kn).take i).length≤kn:=by simp;omega
        omega
       clear TGx hox hbx hnwr e0 hnw2 hps;by_cases n5:n.kind=5
       ·have q5:((n.kind:Int)==5)=true:=by simp[n5]
        have q3:((n.kind:Int)==3)=false:=by simp[n5]
        by_cases m6:m.kind=6
        ·have q6:((m.kind:Int)==6)=true:=by simp[m6]
         have hp2:ps=true:=by rw[hPX];simp[n5,m6]
         subst hp2;clear hPX n5 m6
         go_wp2_with (at_builtin;refine wpList_append_own_at _ rfl (.tmp 72) (.tmp 74) _ rfl W5.heap.size 37 j0 _ 1 8 Tryz.underlying42 hj hj0 hj1 hj2 rfl (by decide) _ (((n.kids.take kn).take i).filter (Cr M n)).length ((((n.kids.take kn).take i).filter (Cr M n)).map idV) rfl ((HOU.out.alloc _).alloc _) ⟨w2.heap.size+1,0,none⟩ 1 1 [idV x] rfl rfl ?_ ?_ ?_ ?_ ?_ ?_)
         all_goals first
          |intro v3 W3' own3 g3 _ at3
          |exact Jo _ _ _ _
          |(unfold maxLen;omega)
          |omega
          |(simp;omega)
          |(intro u hu;simp only[List.mem_singleton] at hu;subst hu;rfl)
         have HOU3:=zz (show W3'.ownsRow W5.heap.size 37 1 v3 (((n.kids.take kn).take (i+1)).filter (Cr M n)).length ((((n.kids.take kn).take (i+1)).filter (Cr M n)).map idV) from by
          rw[HTK.out,List.filter_append];simp only[List.filter_cons,HPX.out,if_true,List.filter_nil];rw[List.map_append,List.length_append];exact own3)
         have HB9:=zz (((HB8.out.alloc HB8.out.size _).alloc (by have:=HB8.out.size;simp;omega) _).grown g3 (by have:=HB8.out.size;simp;omega) (fun q hq=>(HOU.out.lt q hq).1));clear own3 g3 at3;go_wp2;go_roundw
         case rel=>exact⟨i+1,v3,rfl,by go_num,by omega,HOU3.out,HB9.out⟩
         case measure=>simp[intOf];omega
        ·have q6:((m.kind:Int)==6)=false:=by simp;omega
         have hp2:ps=false:=by rw[hPX];simp[n5,m6]
         subst hp2;clear hPX n5 m6;have HOU3:=zz (show w2.ownsRow W5.heap.size 37 1 u (((n.kids.take kn).take (i+1)).filter (Cr M n)).length ((((n.kids.take kn).take (i+1)).filter (Cr M n)).map idV) from by
          rw[HTK.out,List.filter_append];simp only[List.filter_cons,HPX.out,if_false,List.filter_nil,List.append_nil,Bool.false_eq_true];exact HOU.out)
         go_wp2;go_roundw
         case rel=>exact⟨i+1,u,rfl,by go_num,by omega,HOU3.out.alloc _,HB8.out.alloc HB8.out.size _⟩
         case measure=>simp[intOf];omega
       ·have q5:((n.kind:Int)==5)=false:=by simp;omega
        by_cases n3:n.kind=3
        ·have q3:((n.kind:Int)==3)=true:=by simp[n3]
         by_cases m4:m.kind=4
         ·have q4:((m.kind:Int)==4)=true:=by simp[m4]
          have hp2:ps=true:=by rw[hPX];simp[n3,m4]
          subst hp2;clear hPX n5 n3 m4
          go_wp2_with (at_builtin;refine wpList_append_own_at _ rfl (.tmp 72) (.tmp 74) _ rfl W5.heap.size 37 j0 _ 1 8 Tryz.underlying42 hj hj0 hj1 hj2 rfl (by decide) _ (((n.kids.take kn).take i).filter (Cr M n)).length ((((n.kids.take kn).take i).filter (Cr M n)).map idV) rfl ((HOU.out.alloc _).alloc _) ⟨w2.heap.size+1,0,none⟩ 1 1 [idV x] rfl rfl ?_ ?_ ?_ ?_ ?_ ?_)
          all_goals first
           |intro v3 W3' own3 g3 _ at3
           |exact Jo _ _ _ _
           |(unfold maxLen;omega)
           |omega
           |(simp;omega)
           |(intro u hu;simp only[List.mem_singleton] at hu;subst hu;rfl)
          have HOU3:=zz (show W3'.ownsRow W5.heap.size 37 1 v3 (((n.kids.take kn).take (i+1)).filter (Cr M n)).length ((((n.kids.take kn).take (i+1)).filter (Cr M n)).map idV) from by
           rw[HTK.out,List.filter_append];simp only[List.filter_cons,HPX.out,if_true,List.filter_nil];rw[List.map_append,List.length_append];exact own3)
          have HB9:=zz (((HB8.out.alloc HB8.out.size _).alloc (by have:=HB8.out.size;simp;omega) _).grown g3 (by have:=HB8.out.size;simp;omega) (fun q hq=>(HOU.out.lt q hq).1));clear own3 g3 at3;go_wp2;go_roundw
          case rel=>exact⟨i+1,v3,rfl,by go_num,by omega,HOU3.out,HB9.out⟩
          case measure=>simp[intOf];omega
         ·have q4:((m.kind:Int)==4)=false:=by simp;omega
          have hp2:ps=false:=by rw[hPX];simp[n3,m4]
          subst hp2;clear hPX n5 n3 m4;have HOU3:=zz (show w2.ownsRow W5.heap.size 37 1 u (((n.kids.take kn).take (i+1)).filter (Cr M n)).length ((((n.kids.take kn).take (i+1)).filter (Cr M n)).map idV) from by
           rw[HTK.out,List.filter_append];simp only[List.filter_cons,HPX.out,if_false,List.filter_nil,List.append_nil,Bool.false_eq_true];exact HOU.out)
          go_wp2;go_roundw
          case rel=>exact⟨i+1,u,rfl,by go_num,by omega,HOU3.out.alloc _,HB8.out.alloc HB8.out.size _⟩
          case measure=>simp[intOf];omega
        ·have q3:((n.kind:Int)==3)=false:=by simp;omega
         have hp2:ps=false:=by rw[hPX];simp[n5,n3]
         subst hp2;clear hPX n5 n3;have HOU3:=zz (show w2.ownsRow W5.heap.size 37 1 u (((n.kids.take kn).take (i+1)).filter (Cr M n)).length ((((n.kids.take kn).take (i+1)).filter (Cr M n)).map idV) from by
          rw[HTK.out,List.filter_append];simp only[List.filter_cons,HPX.out,if_false,List.filter_nil,List.append_nil,Bool.false_eq_true];exact HOU.out)
         go_wp2;go_roundw
         case rel=>exact⟨i+1,u,rfl,by go_num,by omega,HOU3.out.alloc _,HB8.out.alloc HB8.out.size _⟩
         case measure=>simp[intOf];omega
      ·obtain rfl:i=kn:=by omega
       have hsl:(n.kids.take i).take i=n.kids.take i:=List.take_of_length_le (by simp;omega);rw[hsl] at HOU;have HB10:=zz (HB5.out.trans (hb6.mono HB5.out.size));have HO10:=zz (Sl.Ai (Aq HO5.out (Fr.of_below (D:=fun _=>False) hb6) (fun _ _ e=>e)));have HU10:=zz (HU5.out.fr (Fr.of_below (D:=fun _=>False) hb6) (fun e=>e));have hfl:((n.kids.take i).filter (Cr M n)).length≤1000000:=by
        have h1:=List.length_filter_le (Cr M n) (n.kids.take i);have h2:(n.kids.take i).length≤i:=by simp;omega
        omega
       have hz6:=hb6.size;have hwz:w.heap.size < W5.heap.size:=by have:=HU5.out.lt;omega
       clear hou hb6 hsl hlk
       go_wp2_with (at_builtin;refine Bb _ rfl (.tmp 77) (.tmp 78) _ rfl W5.heap.size 37 j0 _ 8 Tryz.underlying42 hj hj0 hj1 hj2 rfl _ ((n.kids.take i).filter (Cr M n)).length (((n.kids.take i).filter (Cr M n)).map idV) rfl HOU.out wr.heap.size _ out.length (out.map idV) rfl HO10.out ?_ (Ej _) ?_ ?_ ?_ ?_)
       all_goals first
        |intro v7 W7 own7 g7 at7
        |(simp;done)
        |(unfold maxLen;omega)
        |omega
       have HS7:=zz (show SnSt M par F w.heap.size R w f v7 p W7 (id::seen) (Em M n i++out) from by
        have hf7:Fr (fun q=>W5.heap.size≤q) _ W7:=Fr.EQ g7 (fun q e=>(HOU.out.lt q e).1);refine⟨?_,HU10.out.fr hf7 (fun e=>by omega),HB10.out.trans ((hf7.imp (D':=fun q=>w.heap.size≤q) (fun q _ e=>by omega)).below' HB10.out.size),AA,HRUN.out,by simp;omega, ?_,hpl⟩
        ·rw[List.length_append,List.map_append]
         exact Cv own7 (by omega)
        ·rw[List.length_append,List.length_cons]
         unfold Em;omega)
       clear own7 g7 at7;go_wp2;go_roundw
       case rel=>exact⟨v7,p,rfl,rfl,f,_,_,HS7.out⟩
       case measure=>
        rw[HF0.out];refine Nat.lt_succ_of_le (Hg.IY ?_);exact⟨p,_,_,rfl,HS7.out⟩
attribute [local go_sem] Oper.semAt_some
theorem FJ(B:Nat)(v:Value)(ids:List Nat)(id:Nat)(w:World)(hs:Sl w B v ids.length (ids.map idV))(hl:ids.length≤1000000000000)(hl2:ids.length≤1000000):
 Calls Tryz.prog 55 #[v,.int .u64 (id:Int)] w fun e w'=>e= .returned (.bool (decide (0≤idxI ids id)))∧w=w':=by
 have TI:=zz (Oe B v ids id w hs hl2);clear hs;go_enter Tryz.func55,Tryz.ntmps55;go_wp2_with fail;refine TI.out.mono ?_;rintro e w1 ⟨rfl,rfl⟩;clear TI;go_wp2;go_ret;exact⟨rfl,rfl⟩
theorem MC{P:Program}{c:Code}{K:Act→World→Prop}{Q':Exit→Act→World→Prop}{a:Act}{w:World}(h:c.wp P (Exit.then K (fun _ _ _=>False)) a w):c.wp P (Exit.then K Q') a w:=
 wp_mono h (fun e a w h=>by cases e <;>first|exact h|exact h.elim)
def BoxI(ab B:Nat)(S:Nat→Prop)(A:World):Prop:=A.heap[B]? =some (.cells #[.pointer (some ⟨ab,0,none⟩)] 26 (0,0))∧(∃r,A.heap[B+1]? =some (.cells #[r] 4 (0,0)))∧∀q,S q↔q=B∨q=B+1
theorem BoxI.fr{ab B:Nat}{S:Nat→Prop}{A A':World}(h:BoxI ab B S A)(hf:Fr (fun q=>¬S q) A A'):BoxI ab B S A':=by
 obtain⟨h1,⟨r,h2⟩,h3⟩:=h;exact⟨hf.at_ h1 (fun h=>h ((h3 B).2 (.inl rfl))),⟨r,hf.at_ h2 (fun h=>h ((h3 (B+1)).2 (.inr rfl)))⟩,h3⟩
theorem BoxI.lt{ab B:Nat}{S:Nat→Prop}{A:World}(h:BoxI ab B S A):∀q,S q→B≤q∧q < A.heap.size:=by
 obtain⟨h1,⟨r,h2⟩,h3⟩:=h;intro q hq;have l1:=(Ab.1 h1).1;have l2:=(Ab.1 h2).1;rcases(h3 q).1 hq with e|e <;>subst e <;>exact⟨by omega,by omega⟩
end Go.Proofs.YtijhlanclfajiaaGreatDoor
