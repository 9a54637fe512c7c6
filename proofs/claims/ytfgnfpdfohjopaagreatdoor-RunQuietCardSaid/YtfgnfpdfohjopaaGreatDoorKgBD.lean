/-
  A part of the proof.
-/
import Derived.Test.YtfgnfpdfohjopaaGreatDoorKgBC
import Derived.RangeFuncNested
import Derived.RangeFuncBound
import Derived.Maps.OwnIn
set_option linter.all false
set_option maxHeartbeats 0
set_option maxRecDepth 100000
namespace Hg
section
def wk(M:Nat→Option Node):Nat→List Nat→List Nat→Option (List (Nat×Node))
 |0,_,_=>none
 |_+1,[],_=>some []
 |f+1,i::s,seen=>match M i with
   |none=>wk M f s seen
   |some n=>if i∈seen then wk M f s seen else(wk M f (n.kids++s) (i::seen)).map ((i,n):: ·)
theorem Qv(M:Nat→Option Node)(f:Nat)(seen:List Nat):wk M (f+1) [] seen=some []:=rfl
theorem Ea(M:Nat→Option Node)(f i:Nat)(s seen:List Nat):wk M (f+1) (i::s) seen=match M i with
 |none=>wk M f s seen
 |some n=>if i∈seen then wk M f s seen else(wk M f (n.kids++s) (i::seen)).map ((i,n):: ·):=rfl
theorem OQ(M:Nat→Option Node):∀(f:Nat) (s seen:List Nat) (r:List (Nat×Node)),wk M f s seen=some r→s.length < f
 |0,_,_,_,h=>by cases h
 |f+1,[],_,_,_=>by simp
 |f+1,i::s,seen,r,h=>by
   rw[Ea] at h;cases hM:M i with
   |none=>rw[hM] at h;have:=OQ M f s seen r h;simp;omega
   |some n=>
     rw[hM] at h;dsimp only at h;by_cases hi:i∈seen
     ·rw[if_pos hi] at h;have:=OQ M f s seen r h;simp;omega
     ·rw[if_neg hi] at h
      cases hw:wk M f (n.kids++s) (i::seen) with
      |none=>rw[hw] at h;cases h
      |some r'=>have:=OQ M f _ _ r' hw;simp at this⊢;omega
theorem MZ{p:Nat→Prop}(h:∃n,p n):∃m,p m∧∀n,p n→m≤n:=by
 obtain⟨n,hn⟩:=h
 induction n using Nat.strongRecOn with
 |_ n ih=>
   by_cases hm:∃k,k < n∧p k
   ·obtain⟨k,hk,hp⟩:=hm
    exact ih k hk hp
   ·refine⟨n,hn,fun k hk=> ?_⟩
    rcases Nat.lt_or_ge k n with h|h
    ·exact absurd ⟨k,h,hk⟩ hm
    ·exact h
open Classical in
noncomputable def least(p:Nat→Prop):Nat:=if h:∃n,p n then Classical.choose (MZ h) else 0
theorem JZ{p:Nat→Prop}(h:∃n,p n):p (least p):=by
 unfold least;rw[dif_pos h];exact(Classical.choose_spec (MZ h)).1
theorem IL{p:Nat→Prop}{n:Nat}(h:p n):least p≤n:=by
 unfold least;rw[dif_pos ⟨n,h⟩];exact(Classical.choose_spec (MZ ⟨n,h⟩)).2 n h
end
def isK(M:Nat→Option Node)(kind:Nat)(k:Nat):Bool:=match M k with|some n=>n.kind==kind|none=>false
def ndAt(M:Nat→Option Node)(id:Nat):Node:=(M id).getD Node.zero
def CO(M:Nat→Option Node)(id kind:Nat):List Nat:=(ndAt M id).kids.filter (isK M kind)
def Cm(M:Nat→Option Node):List Nat:=CO M 1 2
def Br(M:Nat→Option Node)(m:Nat):List Nat:=CO M m 3
def KB(M:Nat→Option Node):Prop:=∀i nd,M i=some nd→∀k∈nd.kids,k < 18446744073709551616
theorem KB.at{M:Nat→Option Node}(h:KB M)(id:Nat):∀k∈(ndAt M id).kids,k < 18446744073709551616:=by
 intro k hk;unfold ndAt at hk;cases hM:M id with
 |none=>rw[hM] at hk;simp[Node.zero] at hk
 |some nd=>rw[hM] at hk;exact h id nd hM k hk
theorem KB.kids{M:Nat→Option Node}(h:KB M)(id kind:Nat):∀k∈CO M id kind,k < 18446744073709551616:=fun k hk=>h.at id k (List.mem_filter.1 hk).1
end Hg
namespace Go.Proofs.YtfgnfpdfohjopaaGreatDoor
open Go.RowKit
open Hg (GT gl)
section
section
variable {P:Program} {ops:Array Oper} {Q:Exit→Act→World→Prop} {md:Region.Mode} {l n:Nat}
theorem Qq{o:Oper}{a:Act}{w:World}{K:Act→World→Prop}(hd:∀c,o.op≠ .defer c)(h:o.wp P a w K Q):o.wpIn (Fence.wide.inRound l) n P a w K Q:=by
 unfold Oper.wpIn;refine⟨fun _ _=>trivial, ?_⟩;have e:Oper.semAt (Fence.wide.inRound l).round a.eval o=execOp a.eval o:=Oper.semAt_some l _ o hd;rw[e];unfold Oper.wp at h;generalize(execOp a.eval o).run P w=r at h⊢;cases r with
 |halt c w'=>
   cases c <;>first|exact h|exact h.elim
 |ok x w'=>
   cases x with
   |value v=>exact h
   |skip=>exact h
   |enter f args=>
     refine⟨fun hs=>(by cases hs),CallsIn.inRound l ?_⟩;refine callsIn_wide.2 (Calls.mono h ?_);intro e w2 he;cases e <;>exact he
   |row r args=>
     refine⟨fun hs=>(by cases hs), ?_⟩;intro c cs _;obtain⟨v,w2,hr,hs⟩:=h c cs;exact⟨v,w2,hr,stepsIn_wide.2 hs⟩
   |_=>first|exact h|exact h.elim
theorem OO{i:Nat}{a:Act}{w:World}{K:Act→World→Prop}(hd:∀(j:Nat) (o:Oper) c,ops[j]? =some o→o.op≠ .defer c)(hQ:¬LetsOut Q)(h:wpOp P ops Q i K a w):wpOpIn (Fence.wide.inRound l) n P ops Q i K a w:=by
 unfold wpOpIn;unfold wpOp at h;cases ho:ops[i]? with
 |none=>rw[ho] at h;exact h
 |some o=>
   rw[ho] at h;dsimp only at h⊢;by_cases hw:Region.wanted o (yielded ops a.tmps)=true
   ·rw[if_pos hw] at h⊢
    rcases h with h|h
    ·exact Qq (fun c=>hd i o c ho) h
    ·exact absurd h.2 hQ
   ·rw[if_neg hw] at h⊢
    exact⟨fun _ _=>trivial,h⟩
theorem I5(hd:∀(j:Nat) (o:Oper) c,ops[j]? =some o→o.op≠ .defer c)(hQ:¬LetsOut Q):∀(fuel:Nat) (listed:Array Bool) (a:Act) (w:World),wpAny P md ops Q fuel listed a w→wpAnyIn (Fence.wide.inRound l) n P md ops Q fuel listed a w
 |0,_,_,_,h=>h
 |fuel+1,listed,a,w,h=>⟨h.1,fun i hi=>wpOpIn_mono (fun a' w' h'=>I5 hd hQ fuel _ a' w' h') (OO hd hQ (h.2 i hi))⟩
def SV(ops:Array Oper):Bool:=ops.all fun o=>match o.op with| .defer _=>false|_=>true
theorem Oi(h:SV ops=true):∀(j:Nat) (o:Oper) c,ops[j]? =some o→o.op≠ .defer c:=by
 intro j o c ho e;have:=Array.all_eq_true_iff_forall_mem.1 h o (Array.mem_of_getElem? ho);rw[e] at this;cases this
theorem CX{id:Nat}{a:Act}{w:World}(S:World→Prop)(k:Nat)(hm:P.follows .mixedOrders=true)(hd:SV ops=true)(hQ:¬LetsOut Q)
 (h:Bu P .any ops Q S k ops.size (Array.replicate ops.size false) a w.drew):(Code.region id ops true).wpIn (Fence.wide.inRound l) n P Q a w:=
 wpIn_region_any hm (I5 (Oi hd) hQ _ _ _ _ (FX _ _ _ _ h))
end
structure Au where
 id:Nat
 nd:Hg.Node
 ka:Option Addr
 kc:Nat
def Au.strip(x:Au):Nat×Hg.Node:=(x.id,x.nd)
@[reducible] def Au.kv(x:Au):Value:= .slice x.ka x.nd.kids.length x.kc
@[reducible] def Au.enc(x:Au):Array Value:= #[idV x.id,ndV x.nd x.ka x.kc]
def Au.kb(x:Au)(q:Nat):Prop:=x.kv.ownBlock=some q
def Au.At(x:Au)(w:World):Prop:=Sl w w.heap.size x.kv x.nd.kids.length (x.nd.kids.map idV)
def SeqW(P:Program)(gf:Nat)(lb:Array Value)(Bs:Nat→Prop)(n₀:Nat)(xs:List (Nat×Hg.Node))(w0:World):Prop:=
 ∀(m l:Nat) (J:(Nat→Prop)→List Au→World→Prop) (Jx:List Au→World→Prop) (W:World),Fr (fun q=>n₀≤q∧¬Bs q) w0 W→
   (∀Z pre A B,J Z pre A→Fr Z A B→J (fun q=>Z q∨A.heap.size≤q∧q < B.heap.size) pre B)→
   (∀ Z pre x A, J Z pre A → (∀ q, Z q → q < A.heap.size) → (pre ++ [x]).map Au.strip <+: xs → x.At A → (∀ q, x.kb q → Z q) →
    YieldAt Fence.wide (m-1) P l x.enc A fun e W'=>(e= .returned (.bool true)∧J Z (pre++[x]) W'∧Fr (fun q=>n₀≤q∧¬Z q) A W')∨(e= .returned (.bool false)∧Jx (pre++[x]) W'))→
   J Bs [] W→
   CallsIn Fence.wide m P gf (#[.func (.yield l) #[] #[]]++lb) W fun e W'=>(∃v,e= .returned v)∧((∃Z ys,ys.map Au.strip=xs∧J Z ys W')∨(∃pre,pre.map Au.strip <+:xs∧Jx pre W'))
def Vq(I:(Nat→Prop)→List Au→World→Prop)(Ix:Code→(Nat→Prop)→List Au→World→Prop)(S:Nat→Prop)(xs:List Au)(W:World):Exit→Act→World→Prop
 | .normal,_,W'=>∃S',I S' xs W'∧Fr S W W'∧∀q,S' q→S q∨W.heap.size≤q
 | .ret,_,W'=>∃S',Ix .ret S' xs W'∧Fr S W W'∧∀q,S' q→S q∨W.heap.size≤q
 | .exit id,_,W'=>∃S',Ix (.exit id) S' xs W'∧Fr S W W'∧∀q,S' q→S q∨W.heap.size≤q
 |_,_,_=>False
variable {n:Nat} {P:Program}
theorem DZ(W:World)(l:Nat)(o:Obj):Fr (fun q=>q=l) W (W.putObj l o):=Fr.Y1 (grownBy_putObj' W l o) (fun q e=>by injection e with e;exact e.symm)
theorem GI{g:Operand}{ps:Array Tmp}{assign body:Code}{Q:Exit→Act→World→Prop}{a:Act}{w:World}
 {gf:Nat} {lb:Array Value} (hg:a.eval g= .func (.func gf) #[] lb) (eg:∀args w,(callFunc gf args).run P w= .ok (.enter gf args) w)
 {Bs:Nat→Prop} {n₀:Nat} {xs:List (Nat×Hg.Node)} {w0:World} (hseq:SeqW P gf lb Bs n₀ xs w0) (hb0:Fr (fun q=>n₀≤q∧¬Bs q) w0 w) (hps:ps.size=2)
 (hB0:∀q,Bs q→n₀≤q∧q < w.heap.size) (hn₀:n₀≤w.heap.size)
 (I:(Nat→Prop)→List Au→World→Prop) (Ix:Code→(Nat→Prop)→List Au→World→Prop) (I1:(Nat→Prop)→List Au→Au→Act→World→Prop)
 (hI:∀S pre A B,I S pre A→Fr (fun q=>¬S q) A B→I S pre B) (hIx:∀c S pre A B,Ix c S pre A→Fr (fun q=>¬S q) A B→Ix c S pre B)
 (hI1:∀S pre x a A B,I1 S pre x a A→Fr (fun q=>¬(S q∨x.kb q)) A B→I1 S pre x a B)
 (hIl:∀S pre A,I S pre A→∀q,S q→q < A.heap.size) (hI1l:∀S pre x a A,I1 S pre x a A→∀q,S q→q < A.heap.size)
 (S0:Nat→Prop) (h0:I S0 [] w) (hS0:∀q,S0 q→n₀≤q∧q < w.heap.size∧¬Bs q)
 (hassign : ∀ (l m : Nat) (S : Nat → Prop) (pre : List Au) (x : Au) (A : World) (K : Act → World → Prop), I S pre A → (pre ++ [x]).map Au.strip <+: xs → x.At A → (∀ q, x.kb q → ¬ S q) → Fr (fun q => S0 q ∨ Bs q) w A →
  (∀S1 a1 A1,I1 S1 pre x a1 A1→Fr S A A1→(∀q,S1 q→S q∨A.heap.size≤q)→K a1 A1)→
  assign.wpIn (Fence.wide.inRound l) m P (Exit.then K (fun _ _ _=>False)) {tmps:=(ps.zip x.enc).foldl (fun t (p,v)=>t.setIfInBounds p v) a.tmps,defers:=[]} A)
 (hbody : ∀ (l m : Nat) (S : Nat → Prop) (pre : List Au) (x : Au) (a1 : Act) (A : World), I1 S pre x a1 A → (pre ++ [x]).map Au.strip <+: xs → Fr (fun q => S0 q ∨ Bs q) w A →
  body.wpIn (Fence.wide.inRound l) m P (Vq I Ix S (pre++[x]) A) a1 A)
 (hdone:∀(S:Nat→Prop) (ys:List Au) (W:World),ys.map Au.strip=xs→I S ys W→W.heap[w.heap.size]? =some (.deferred (some []))→¬S w.heap.size→Fr (fun q=>S0 q∨Bs q) w W→Q .normal {a with defers:={target:= .collected w.heap.size,args:= #[]}::a.defers} W)
 (hstop:∀(c:Code) (S:Nat→Prop) (pre:List Au) (W:World),pre.map Au.strip <+:xs→Ix c S pre W→W.heap[w.heap.size]? =some (.deferred (some []))→¬S w.heap.size→Fr (fun q=>S0 q∨Bs q) w W→c.wpIn Fence.wide n P Q {a with defers:={target:= .collected w.heap.size,args:= #[]}::a.defers} W):
 (Code.rangeFunc g ps assign body).wpIn Fence.wide n P Q a w:=by
 refine wpIn_rangeFunc ?_;intro fn hfn;show∃(l:Nat) (mark:List Deferred) (w₁:World) (d:Deferred) (w₁':World) (f:FuncId) (args:Array Value) (w₂:World),(Instr.enterLoop fn a.tmps ps assign body none).run P w= .ok (l,mark) w₁∧_;obtain⟨rec,hrec⟩:∃rec:LoopState→Option Code→Loop,rec=fun st pe=>{state:=st,pending:=pe,fn,tmps:=a.tmps,params:=ps,assign,body,defers:=w.heap.size}:=⟨_,rfl⟩;obtain⟨W1,hW1⟩:∃W1,(w.alloc (.deferred (some []))).alloc (.loop (rec .ready none))=W1:=⟨_,rfl⟩;have hL1:W1.heap[w.heap.size+1]? =some (.loop (rec .ready none)):=by
  rw[←hW1];have:=World.alloc_heap_new (w.alloc (.deferred (some []))) (.loop (rec .ready none));rwa[World.size_alloc] at this
 have hK1:W1.heap[w.heap.size]? =some (.deferred (some [])):=by
  rw[←hW1];exact(Below.heap_alloc _ _ _ (by simp)).trans (World.alloc_heap_new w _)
 have hf1:∀D,Fr D w W1:=fun D=>by rw[←hW1];exact((Fr.refl D w).alloc _).alloc _
 have hI1':I S0 [] W1:=hI _ _ _ _ h0 (hf1 _);have hb1:Fr (fun q=>n₀≤q∧¬Bs q) w0 W1:=hb0.trans (hf1 _);refine⟨w.heap.size+1,[{target:= .collected w.heap.size,args:= #[]}],W1,{target:= .fn (.func gf) lb,args:= #[.func (.yield (w.heap.size+1)) #[] #[]]},W1,gf,
  #[.func (.yield (w.heap.size+1)) #[] #[]]++lb,W1, ?_, ?_, ?_, ?_,fun hs=>(by cases hs), ?_⟩
 ·rw[←hW1,hrec];exact run_enterLoop_outer _ _ _ _ _
 ·simp only[resolve,hg]
  simp[go_sem]
 ·intro f' hf';trivial
 ·simp[invoke,go_sem,eg]
 ·have hz1:W1.heap.size=w.heap.size+2:=by rw[←hW1];simp
  refine(hseq (n-1) (w.heap.size+1)
   (fun Z pre A=>∃S,I S pre A∧(∀q,S q→n₀≤q∧¬Z q∧q≠w.heap.size+1∧q≠w.heap.size)∧A.heap[w.heap.size+1]? =some (.loop (rec .ready none))∧A.heap[w.heap.size]? =some (.deferred (some []))∧¬Z (w.heap.size+1)∧¬Z w.heap.size∧(∀q,Z q→Bs q∨w.heap.size≤q)∧(∀q,S q→S0 q∨w.heap.size≤q)∧Fr (fun q=>S0 q∨Bs q) w A)
   (fun pre A=>∃c S,Ix c S pre A∧(∀q,S q→q≠w.heap.size+1∧q≠w.heap.size)∧A.heap[w.heap.size+1]? =some (.loop (rec .done (some c)))∧A.heap[w.heap.size]? =some (.deferred (some []))∧Fr (fun q=>S0 q∨Bs q) w A)
   W1 hb1 ?_ ?_ ?_).mono ?_
  ·rintro Z pre A B ⟨S,hi,hS,hl,hk,hzl,hzk,hzb,hsb,hf⟩ hfr
   have hlA:w.heap.size+1 < A.heap.size:=(Ab.1 hl).1;refine⟨S,hI _ _ _ _ hi (hfr.imp (fun q _ hz hs=>(hS q hs).2.1 hz)),fun q hs=>⟨(hS q hs).1, ?_,(hS q hs).2.2⟩,hfr.at_ hl hzl,hfr.at_ hk hzk, ?_, ?_, ?_,hsb,hf.Dw hfr (fun q hq hz=> ?_)⟩
   ·rintro(h|h)
    ·exact(hS q hs).2.1 h
    ·have:=hIl _ _ _ hi q hs;omega
   ·rintro(h|h)
    ·exact hzl h
    ·omega
   ·rintro(h|h)
    ·exact hzk h
    ·omega
   ·rintro q (h|h)
    ·exact hzb q h
    ·exact .inr (by omega)
   ·rcases hzb q hz with h|h
    ·exact .inr h
    ·omega
  ·rintro Z pre x A ⟨S,hi,hS,hl,hk,hzl,hzk,hzb,hsb,hf⟩ hZlt hpre hx hxZ
   have hlA:w.heap.size+1 < A.heap.size:=(Ab.1 hl).1;have hy:=run_yield (P:=P) (args:=x.enc) hl (by rw[hrec];exact hps.symm);rw[hrec] at hy;refine⟨fn,_,assign,body,hy,roundIn_of_wpIn hfn (hassign _ _ S pre x A _ hi hpre hx (fun q hq hs=>(hS q hs).2.1 (hxZ q hq)) hf ?_)⟩;intro S1 a1 A1 hi1 hfa hS1;have hlA1:A1.heap[w.heap.size+1]? =some (.loop (rec .ready none)):=hfa.at_ hl (fun hs=>(hS _ hs).2.2.1 rfl);have hkA1:A1.heap[w.heap.size]? =some (.deferred (some [])):=hfa.at_ hk (fun hs=>(hS _ hs).2.2.2 rfl);have hltA1:w.heap.size+1 < A1.heap.size:=(Ab.1 hlA1).1;refine⟨_,run_beginRound hlA1 (by rw[hrec]), ?_⟩;have hp1:=DZ A1 (w.heap.size+1) (.loop {rec .ready none with state:= .busy});have hl2:(A1.putObj (w.heap.size+1) (.loop {rec .ready none with state:= .busy})).heap[w.heap.size+1]? =some (.loop {rec .ready none with state:= .busy}):=World.putObj_heap_same hltA1;have hk2:(A1.putObj (w.heap.size+1) (.loop {rec .ready none with state:= .busy})).heap[w.heap.size]? =some (.deferred (some [])):=(World.putObj_heap_other (by omega)).trans hkA1;have hxl:¬x.kb (w.heap.size+1):=fun h=>hzl (hxZ _ h);have hS1l:¬S1 (w.heap.size+1):=fun h=>by
    rcases hS1 _ h with h|h
    ·exact(hS _ h).2.2.1 rfl
    ·omega
   have hS1k:¬S1 w.heap.size:=fun h=>by
    rcases hS1 _ h with h|h
    ·exact(hS _ h).2.2.2 rfl
    ·omega
   have hfA1:Fr (fun q=>S0 q∨Bs q) w A1:=hf.Dw hfa (fun q hq hs=>by
    rcases hsb q hs with h|h
    ·exact .inl h
    ·omega)
   have hi2:=hI1 _ _ _ _ _ _ hi1 (hp1.imp (fun q _ e=>by subst e;rintro(h|h);exact hS1l h;exact hxl h));have hfA2:Fr (fun q=>S0 q∨Bs q) w (A1.putObj (w.heap.size+1) (.loop {rec .ready none with state:= .busy})):=hfA1.Dw hp1 (fun q hq e=>by omega);generalize hA2:A1.putObj (w.heap.size+1) (.loop {rec .ready none with state:= .busy})=A2 at hp1 hl2 hk2 hi2 hfA2;have hz2:A1.heap.size≤A2.heap.size:=hp1.size;refine wpIn_mono (hbody _ _ S1 pre x a1 A2 hi2 hpre hfA2) ?_;have fin:∀(jump:Option Code) (S':Nat→Prop) (W3:World),Fr S1 A2 W3→(∀q,S' q→S1 q∨A2.heap.size≤q)→
    (Instr.endRound (w.heap.size+1) jump).run P W3= .ok (.bool jump.isNone) (W3.putObj (w.heap.size+1) (.loop (rec (if jump.isNone then .ready else .done) jump)))∧
    (W3.putObj (w.heap.size+1) (.loop (rec (if jump.isNone then .ready else .done) jump))).heap[w.heap.size+1]? =some (.loop (rec (if jump.isNone then .ready else .done) jump))∧
    (W3.putObj (w.heap.size+1) (.loop (rec (if jump.isNone then .ready else .done) jump))).heap[w.heap.size]? =some (.deferred (some []))∧
    Fr (fun q=>q=w.heap.size+1) W3 (W3.putObj (w.heap.size+1) (.loop (rec (if jump.isNone then .ready else .done) jump)))∧¬S' (w.heap.size+1)∧¬S' w.heap.size∧
    Fr (fun q=>S0 q∨Bs q) w (W3.putObj (w.heap.size+1) (.loop (rec (if jump.isNone then .ready else .done) jump))):=fun jump S' W3 hf3 hS'=>by
    have hl3:W3.heap[w.heap.size+1]? =some (.loop {rec .ready none with state:= .busy}):=hf3.at_ hl2 hS1l;have hk3:W3.heap[w.heap.size]? =some (.deferred (some [])):=hf3.at_ hk2 hS1k;have:=run_endRound (P:=P) jump hl3;have hpf:=DZ W3 (w.heap.size+1) (.loop (rec (if jump.isNone then .ready else .done) jump));refine⟨?_,World.putObj_heap_same (Ab.1 hl3).1,(World.putObj_heap_other (by omega)).trans hk3,hpf,fun h=> ?_,fun h=> ?_, ?_⟩
    ·rw[hrec] at this⊢;exact this
    ·rcases hS' _ h with h|h
     ·exact hS1l h
     ·omega
    ·rcases hS' _ h with h|h
     ·exact hS1k h
     ·omega
    ·refine(hfA2.Dw hf3 (fun q hq hs=> ?_)).Dw hpf (fun q hq e=>by omega)
     rcases hS1 q hs with h|h
     ·rcases hsb q h with h|h
      ·exact .inl h
      ·omega
     ·omega
   rintro e a3 W3 hp;cases e with
   |normal=>
     obtain⟨S',hi3,hf3,hS'⟩:=hp;obtain⟨hr,hl4,hk4,hpf,hSl,hSk,hfw⟩:=fin none S' W3 hf3 hS';have hcls:∀q,S' q→S q∨A.heap.size≤q:=fun q hq=>by
      rcases hS' q hq with h|h
      ·exact hS1 q h
      ·have:=hfa.size;exact .inr (by omega)
     refine⟨_,_,hr,.inl ⟨rfl,⟨S',hI _ _ _ _ hi3 (hpf.imp (fun q _ e hs=>by subst e;exact hSl hs)),fun q hq=>⟨?_, ?_,fun e=>by subst e;exact hSl hq,fun e=>by subst e;exact hSk hq⟩,hl4,hk4,hzl,hzk,hzb,fun q hq=> ?_,hfw⟩, ?_⟩⟩
     ·rcases hcls q hq with h|h
      ·exact(hS q h).1
      ·omega
     ·intro hz
      rcases hcls q hq with h|h
      ·exact(hS q h).2.1 hz
      ·have:=hZlt q hz;omega
     ·rcases hcls q hq with h|h
      ·exact hsb q h
      ·exact .inr (by omega)
     ·have hS1c:∀q,q < A.heap.size→S1 q→n₀≤q∧¬Z q:=fun q hq hs=>by
       rcases hS1 q hs with h|h
       ·exact⟨(hS q h).1,(hS q h).2.1⟩
       ·omega
      refine(((hfa.imp (fun q _ hs=>⟨(hS q hs).1,(hS q hs).2.1⟩)).Dw hp1 (fun q hq e=> ?_)).Dw hf3 (fun q hq hs=>hS1c q hq hs)).Dw hpf (fun q hq e=> ?_)
      ·subst e;exact⟨by omega,hzl⟩
      ·subst e;exact⟨by omega,hzl⟩
   |ret=>
     obtain⟨S',hi3,hf3,hS'⟩:=hp;obtain⟨hr,hl4,hk4,hpf,hSl,hSk,hfw⟩:=fin (some .ret) S' W3 hf3 hS';exact⟨_,_,hr,.inr ⟨rfl,.ret,S',hIx _ _ _ _ _ hi3 (hpf.imp (fun q _ e hs=>by subst e;exact hSl hs)),fun q hq=>⟨fun e=>by subst e;exact hSl hq,fun e=>by subst e;exact hSk hq⟩,hl4,hk4,hfw⟩⟩
   |exit id=>
     obtain⟨S',hi3,hf3,hS'⟩:=hp;obtain⟨hr,hl4,hk4,hpf,hSl,hSk,hfw⟩:=fin (some (.exit id)) S' W3 hf3 hS';exact⟨_,_,hr,.inr ⟨rfl,.exit id,S',hIx _ _ _ _ _ hi3 (hpf.imp (fun q _ e hs=>by subst e;exact hSl hs)),fun q hq=>⟨fun e=>by subst e;exact hSl hq,fun e=>by subst e;exact hSk hq⟩,hl4,hk4,hfw⟩⟩
   |goto t=>exact hp.elim
   |panic ch=>exact hp.elim
   |outgrown=>exact hp.elim
  ·exact⟨S0,hI1',fun q hq=>⟨(hS0 q hq).1,(hS0 q hq).2.2,fun e=>by have:=(hS0 q hq).2.1;omega,fun e=>by have:=(hS0 q hq).2.1;omega⟩,hL1,hK1,fun h=>by have:=(hB0 _ h).2;omega,fun h=>by have:=(hB0 _ h).2;omega,fun q h=> .inl h,fun q h=> .inl h,hf1 _⟩
  ·rintro e W2 ⟨⟨v,rfl⟩,(⟨Z,ys,hys,S,hi,hS,hl,hk,-,-,-,-,hf⟩|⟨pre,hpre,c,S,hi,hS,hl,hk,hf⟩)⟩
   ·have hpf:=DZ W2 (w.heap.size+1)
    refine⟨none,_,by have:=run_endLoop (P:=P) hl (by rw[hrec];simp);rw[hrec] at this;exact this, ?_⟩;exact hdone S ys _ hys (hI _ _ _ _ hi ((hpf _).imp (fun q _ e hs=>by subst e;exact(hS _ hs).2.2.1 rfl))) ((World.putObj_heap_other (by omega)).trans hk) (fun h=>(hS _ h).2.2.2 rfl) (hf.Dw (hpf _) (fun q hq e=>by omega))
   ·have hpf:=DZ W2 (w.heap.size+1)
    refine⟨some c,_,by have:=run_endLoop (P:=P) hl (by rw[hrec];simp);rw[hrec] at this;exact this, ?_⟩;exact hstop c S pre _ hpre (hIx _ _ _ _ _ hi ((hpf _).imp (fun q _ e hs=>by subst e;exact(hS _ hs).1 rfl))) ((World.putObj_heap_other (by omega)).trans hk) (fun h=>(hS _ h).2 rfl) (hf.Dw (hpf _) (fun q hq e=>by omega))
end
open Hg (wk)
section
attribute [local go_sem] Oper.semAt_some
section
variable {P:Program}
theorem JO{F:Fence}{k:Nat}(w:World){ops:Array Oper}{rest:List Oper}{o:Oper}{a:Act}{Q:Exit→Act→World→Prop}(hgd:o.guard=none)(s x:Operand)(t:TypeId)
 (ho:o.op= .call {callee:= .builtin .append,args:= #[s,x],argTypes:= #[t,t]})
 (base:Nat) (e:TypeId) (i:TypeInfo) (z:Value) (bytes:Nat) (ht:P.underlying t=some (.slice e)) (hi:P.info? e=some i) (hz:i.zero=some z)
 (hsize:i.size=1) (hby:i.bytes=bytes) (hzs:z.cells.size=1)
 (v:Value) (n:Nat) (xs:List Value) (hs:a.eval s=v) (hown:w.ownsRow base e 1 v n xs)
 (B:Nat) (vx:Value) (m:Nat) (news:List Value) (hx:a.eval x=vx) (hsl:Sl w B vx m news) (hl:news.length=m) (h1:∀u∈news,u.oneCell'=true)
 (h63:n+m≤maxLen) (hbytes:(n+m)*bytes≤140737488355328) (hbase:base≤w.heap.size)
 (h:∀v' w',w'.ownsRow base e 1 v' (n+m) (xs++news)→w.grownBy w' v.ownBlock→(v'.ownBlock=v.ownBlock∨v'.ownBlock=some w.heap.size)→wpListIn F k P ops Q rest (a.put o.dst v') w'):
 wpListIn F k P ops Q (o::rest) a w:=by
 obtain⟨ax,c,rfl,hc⟩:=hsl;cases ax with
 |none=>
   have hn0:news=[]:=by
    rcases Nat.eq_zero_or_pos news.length with h0|h0
    ·exact List.eq_nil_of_length_eq_zero h0
    ·obtain⟨b,o',hb,_⟩:=hc h0;cases hb
   subst hn0;simp only[List.length_nil] at hl;subst hl;refine wpListIn_plain hgd fun K hK=> ?_;have hrun:=Hr (P:=P) (w:=w) base t o.type e i 1 c ht hi v n xs hown;unfold Oper.wpIn;refine⟨by simp[Oper.about,ho,resolve,Target.leads,Sem.run_pure], ?_⟩;rw[Oper.semAt_plain F _ _ (by rw[ho];intro c hc';cases hc')]
   simp[execOp,ho,resolve,invoke,builtin,hs,hx,hrun,Result.andThen]
   refine hK _ _ (h v w ?_ ⟨rfl,rfl,rfl,AA,fun _ _ _=>rfl⟩ (.inl rfl));simpa using hown
 |some ad=>
   refine wpListIn_append_own_at w hgd s x t ho base e i z 1 bytes ht hi hz hsize hby hzs (by decide) v n xs hs hown ad m c news hx (by omega) (fun j u hj=> ?_) h1 h63 hbytes hbase (fun v' w' a1 a2 _ a4=>h v' w' a1 a2 a4);obtain⟨hlt,he⟩:=Ai.1 hj;obtain⟨b,o',hb,_,hcell⟩:=hc (by omega);injection hb with hb;subst hb;have hadd:(⟨b,o',none⟩:Addr).add j=⟨b,o'+j,none⟩:=by unfold Addr.add;split <;>simp_all
   rw[hadd,hcell j hlt,he]
end
def Jp(l:List Nat):List (Nat×Value):=l.map fun k=>(k,.bool true)
abbrev IMap:=XMap (α:=Nat) 45 idV
structure WkSt (M:Nat→Option Hg.Node) (n₀ ib bb sb id ab:Nat) (F:Nat) (xs:List (Nat×Hg.Node)) (J:(Nat→Prop)→List Au→World→Prop) (w0:World) (f:Nat) (v:Value) (wr:World) (Z:Nat→Prop) (pre:List Au) (stack seen:List Nat) (rest:List (Nat×Hg.Node)):Prop where
 j:J Z pre wr
 z:∀q,Z q→n₀≤q∧q < wr.heap.size
 zi:Z ib∧Z bb∧Z sb
 box:wr.cell? ⟨ib,0,none⟩=some (idV id)∧wr.cell? ⟨bb,0,none⟩=some (.pointer (some ⟨ab,0,none⟩))
 own:wr.ownsRow n₀ 45 1 v stack.length (stack.reverse.map idV)
 vz:∀q,v.ownBlock=some q→Z q∧q≠ib∧q≠bb
 sne:sb≠ib∧sb≠bb
 mp:IMap wr sb (Jp seen)
 top:∀x∈stack,x < Ah
 run:wk M f stack seen=some rest
 all:pre.map Au.strip++rest=xs
 cnt:seen.length+f≤F
 fr:Fr (fun q=>n₀≤q) w0 wr
section
variable {M:Nat→Option Hg.Node} {n₀ ib bb sb id ab F:Nat} {xs:List (Nat×Hg.Node)} {J:(Nat→Prop)→List Au→World→Prop} {w0:World} {f g z i:Nat} {wr W2 W3 W4 W5 W6:World} {Z:Nat→Prop} {pre:List Au} {s seen:List Nat} {rest:List (Nat×Hg.Node)}
theorem WkSt.pop(h:WkSt M n₀ ib bb sb id ab F xs J w0 f (.slice (some ⟨g,0,none⟩) (s.length+1) z) wr Z pre (i::s) seen rest):wr.ownsRow n₀ 45 1 (.slice (some ⟨g,0,none⟩) s.length z) s.length (s.reverse.map idV):=
 ownsRow_pop (n:=s.length) (size:=1) (xs:=s.reverse.map idV) (by simp) (show wr.ownsRow n₀ 45 1 (.slice (some ⟨g,0,none⟩) (s.length+1) z) (s.length+1) (s.reverse.map idV++[idV i]) from by simpa using h.own)
theorem WkSt.skip(h:WkSt M n₀ ib bb sb id ab F xs J w0 (f+1) (.slice (some ⟨g,0,none⟩) (s.length+1) z) wr Z pre (i::s) seen rest)(hJ:∀Z pre A B,J Z pre A→Fr Z A B→J (fun q=>Z q∨A.heap.size≤q∧q < B.heap.size) pre B)
 (hf:Fr (fun _=>False) wr W2) (hw:wk M (f+1) (i::s) seen=wk M f s seen):
 WkSt M n₀ ib bb sb id ab F xs J w0 f (.slice (some ⟨g,0,none⟩) s.length z) W2 (fun q=>Z q∨wr.heap.size≤q∧q < W2.heap.size) pre s seen rest:=by
 have hD:∀D,Fr D wr W2:=fun D=>hf.imp (fun _ _ e=>e.elim);have hsz:=hf.size;have hn₀:n₀≤wr.heap.size:=by have:=h.z ib h.zi.1;omega
 refine⟨hJ _ _ _ _ h.j (hD _), ?_,⟨.inl h.zi.1,.inl h.zi.2.1,.inl h.zi.2.2⟩,⟨(hf.cell (p:=⟨ib,0,none⟩) (h.z ib h.zi.1).2 (fun e=>e)).trans h.box.1,(hf.cell (p:=⟨bb,0,none⟩) (h.z bb h.zi.2.1).2 (fun e=>e)).trans h.box.2⟩,Am h.pop hf (fun _ _ e=>e),fun q e=> ?_,h.sne,h.mp.fr hf (fun e=>e),fun x hx=>h.top x (by simp[hx]),by rw[←hw];exact h.run,h.all,by have:=h.cnt;omega,h.fr.trans (hD _)⟩
 ·rintro q (hq|hq)
  ·have:=h.z q hq;exact⟨this.1,by omega⟩
  ·exact⟨by omega,hq.2⟩
 ·have:=h.vz q e
  exact⟨.inl this.1,this.2⟩
theorem WkSt.row(h:WkSt M n₀ ib bb sb id ab F xs J w0 (f+1) (.slice (some ⟨g,0,none⟩) (s.length+1) z) wr Z pre (i::s) seen rest)(hf3:Fr (fun q=>q=sb) wr W3)(hk4:Fr (fun q=>n₀≤q∧¬(Z q∨wr.heap.size≤q∧q < W3.heap.size)) W3 W4)
 {kb:Nat→Prop} (hkb:∀q,kb q→wr.heap.size≤q∧q < W3.heap.size) (hf5:Fr kb W4 W5):W5.ownsRow n₀ 45 1 (.slice (some ⟨g,0,none⟩) s.length z) s.length (s.reverse.map idV):=by
 have hgz:=h.vz g rfl;have hgl:=h.z g hgz.1;obtain⟨es,ck,hm⟩:=h.mp.obj;have hgs:g≠sb:=fun e=>by
  rcases Cs h.own hm with h'|h'
  ·cases h'
  ·exact h' (by rw[←e];rfl)
 refine Am (Am (Am h.pop hf3 (fun q e e'=> ?_)) hk4 (fun q e e'=> ?_)) hf5 (fun q e e'=> ?_)
 ·injection e with e;exact hgs (e.trans e')
 ·injection e with e;have e:g=q:=e;subst e;exact e'.2 (.inl hgz.1)
 ·injection e with e;have e:g=q:=e;subst e;have:=hkb _ e';omega
theorem WkSt.next(h:WkSt M n₀ ib bb sb id ab F xs J w0 (f+1) (.slice (some ⟨g,0,none⟩) (s.length+1) z) wr Z pre (i::s) seen rest)(hJ:∀Z pre A B,J Z pre A→Fr Z A B→J (fun q=>Z q∨A.heap.size≤q∧q < B.heap.size) pre B)
 {nd:Hg.Node} (hM:M i=some nd) (hi:i∉seen) (hk:∀k∈nd.kids,k < Ah) (x:Au) (hx:x.strip=(i,nd)) (hf3:Fr (fun q=>q=sb) wr W3) (hm3:IMap W3 sb (Jp (i::seen)))
 (hJ4:J (fun q=>Z q∨wr.heap.size≤q∧q < W3.heap.size) (pre++[x]) W4) (hk4:Fr (fun q=>n₀≤q∧¬(Z q∨wr.heap.size≤q∧q < W3.heap.size)) W3 W4)
 {kb:Nat→Prop} (hkb:∀q,kb q→wr.heap.size≤q∧q < W3.heap.size) (hf5:Fr kb W4 W5) {v':Value} (own6:W6.ownsRow n₀ 45 1 v' (s.length+nd.kids.length) (s.reverse.map idV++nd.kids.reverse.map idV)) (g6:W5.grownBy W6 (some g)) (at6:v'.ownBlock=some g∨v'.ownBlock=some W5.heap.size):
 ∃Z' rest',WkSt M n₀ ib bb sb id ab F xs J w0 f v' W6 Z' (pre++[x]) (nd.kids++s) (i::seen) rest':=by
 have hgz:=h.vz g rfl;have hgl:=h.z g hgz.1;have hn₀:n₀≤wr.heap.size:=by have:=h.z ib h.zi.1;omega
 obtain⟨es,ck,hm⟩:=h.mp.obj;have hgs:g≠sb:=fun e=>by
  rcases Cs h.own hm with h'|h'
  ·cases h'
  ·exact h' (by rw[←e];rfl)
 have s3:=hf3.size;have s4:=hk4.size;have s5:=hf5.size;have s6:=g6.size;have hf6:Fr (fun q=>q=g) W5 W6:=Fr.Y1 g6 (fun q e=>by injection e with e;exact e.symm);have hf46:Fr (fun q=>Z q∨wr.heap.size≤q∧q < W3.heap.size) W4 W6:=(hf5.imp (fun q _ e=> .inr (hkb q e))).Dw hf6 (fun q _ e=>by subst e;exact .inl hgz.1);have hzi:=(h.z ib h.zi.1).2;have hzb:=(h.z bb h.zi.2.1).2;have hzs:=(h.z sb h.zi.2.2).2;have hcell:∀q,q < wr.heap.size→Z q→q≠sb→q≠g→W6.heap[q]? =wr.heap[q]? :=fun q hq hz h1 h2=>
  (hf6.block q (by omega) h2).trans ((hf5.block q (by omega) (fun e=>by have:=hkb q e;omega)).trans ((hk4.block q (by omega) (fun e=>e.2 (.inl hz))).trans (hf3.block q hq h1)))
 have hrun:=h.run;rw[Hg.Ea,hM] at hrun;dsimp only at hrun;rw[if_neg hi] at hrun;cases hr:wk M f (nd.kids++s) (i::seen) with
 |none=>rw[hr] at hrun;cases hrun
 |some rest'=>
   rw[hr] at hrun;have hrun:(i,nd)::rest'=rest:=Option.some.inj hrun;refine⟨_,rest',hJ _ _ _ _ hJ4 hf46, ?_,⟨.inl (.inl h.zi.1),.inl (.inl h.zi.2.1),.inl (.inl h.zi.2.2)⟩,⟨?_, ?_⟩, ?_,fun q e=> ?_,h.sne, ?_,fun y hy=> ?_,hr, ?_, ?_, ?_⟩
   ·rintro q ((hq|hq)|hq)
    ·have:=h.z q hq;exact⟨this.1,by omega⟩
    ·exact⟨by omega,by omega⟩
    ·exact⟨by omega,by omega⟩
   ·exact(World.cell?_of_block (a:=⟨ib,0,none⟩) (hcell ib hzi h.zi.1 (fun e=>h.sne.1 e.symm) (fun e=>hgz.2.1 e.symm))).trans h.box.1
   ·exact(World.cell?_of_block (a:=⟨bb,0,none⟩) (hcell bb hzb h.zi.2.1 (fun e=>h.sne.2 e.symm) (fun e=>hgz.2.2 e.symm))).trans h.box.2
   ·have e1:(nd.kids++s).length=s.length+nd.kids.length:=by simp[Nat.add_comm]
    have e2:(nd.kids++s).reverse.map idV=s.reverse.map idV++nd.kids.reverse.map idV:=by simp
    rw[e1,e2];exact own6
   ·rcases at6 with h'|h'
    ·rw[h'] at e
     injection e with e;subst e;exact⟨.inl (.inl hgz.1),hgz.2⟩
    ·have hq:=own6.lt q e
     rw[h'] at e;injection e with e;exact⟨.inr ⟨by omega,hq.2⟩,by omega,by omega⟩
   ·have h4:=hm3.fr hk4 (fun e=>e.2 (.inl h.zi.2.2))
    have h5:=h4.fr hf5 (fun e=>by have:=hkb sb e;omega);exact h5.fr hf6 (fun e=>hgs e.symm)
   ·rcases List.mem_append.1 hy with hy|hy
    ·exact hk y hy
    ·exact h.top y (by simp[hy])
   ·rw[List.map_append,List.append_assoc]
    show pre.map Au.strip++([x.strip]++rest')=xs;rw[hx,←h.all,←hrun];rfl
   ·have:=h.cnt;simp;omega
   ·refine(((h.fr.Dw hf3 (fun q hq e=>by subst e;exact(h.z q h.zi.2.2).1)).Dw hk4 (fun q _ e=>e.1)).Dw hf5 (fun q hq e=>by have:=hkb q e;omega)).Dw hf6 (fun q _ e=>by subst e;exact hgl.1)
end
theorem Hw(ab mb c:Nat)(M:Nat→Option Hg.Node)(n₀ id ib bb F:Nat)(xs:List (Nat×Hg.Node))(w0:World)(hAr:∀W',Fr (fun q=>n₀≤q) w0 W'→ArAt W' ab mb c M)(hib:w0.cell? ⟨ib,0,none⟩=some (idV id))(hbb:w0.cell? ⟨bb,0,none⟩=some (.pointer (some ⟨ab,0,none⟩)))
 (hlt:n₀≤ib∧n₀≤bb∧ib < w0.heap.size∧bb < w0.heap.size) (hid:id < Ah) (hk:∀i nd,M i=some nd→∀k∈nd.kids,k < Ah) (hxs:wk M F [id] []=some xs) (hF:F≤1000000):
 SeqW Tryz.prog 129 #[.pointer (some ⟨ib,0,none⟩),.pointer (some ⟨bb,0,none⟩)] (fun q=>q=ib∨q=bb) n₀ xs w0:=by
 intro m l J Jx W hW hJ hY h0;obtain⟨j0,hj,hj0,hj1,hj2⟩:=info_parts IM;have hzb:∀W:World,(zeroValue 4).run Tryz.prog W= .ok (.bool false) W:=fun W=>by kernel_rfl
 have hmm:= @run_makeMap Tryz.prog;refine callsIn_of_wp Tryz.func129 rfl trivial ?_ rfl;simp only[Tryz.ntmps129,List.size_toArray,List.length_cons,List.length_nil,Nat.reduceAdd,Nat.reduceSub,Array.replicate_succ,Array.replicate_zero,List.push_toArray,List.append_toArray,List.nil_append,List.cons_append];have ci:W.cell? ⟨ib,0,none⟩=some (idV id):=(hW.cell (p:=⟨ib,0,none⟩) hlt.2.2.1 (fun h=>h.2 (.inl rfl))).trans hib;have cb:W.cell? ⟨bb,0,none⟩=some (.pointer (some ⟨ab,0,none⟩)):=(hW.cell (p:=⟨bb,0,none⟩) hlt.2.2.2 (fun h=>h.2 (.inr rfl))).trans hbb;have hli:ib < W.heap.size:=AR hlt.2.2.1 hW.size;have hlb:bb < W.heap.size:=AR hlt.2.2.2 hW.size;gi_wp2;have hst:∃Z pre stack seen rest,WkSt M n₀ ib bb W.heap.size id ab F xs J w0 F (.slice (some ⟨W.heap.size+1,0,none⟩) 1 1) ((W.alloc (.map #[] 0)).alloc (.cells #[idV id] 45)) Z pre stack seen rest:=by
  have hfr:∀D,Fr D W ((W.alloc (.map #[] 0)).alloc (.cells #[idV id] 45)):=fun D=>((Fr.refl D W).alloc _).alloc _;have hn:=AX (W.alloc (.map #[] 0)) (.cells #[idV id] 45);rw[show(W.alloc (.map #[] 0)).heap.size=W.heap.size+1 by simp] at hn;refine⟨_,[],[id],[],xs,hJ _ _ _ _ h0 (hfr _), ?_,⟨.inl (.inl rfl),.inl (.inr rfl),.inr ⟨AA,by simp;omega⟩⟩,⟨((hfr (fun _=>False)).cell (p:=⟨ib,0,none⟩) hli (fun h=>h)).trans ci,((hfr (fun _=>False)).cell (p:=⟨bb,0,none⟩) hlb (fun h=>h)).trans cb⟩,
   ⟨rfl,.inr ⟨W.heap.size+1,1,#[idV id],rfl,by omega,hn,AA,by unfold maxLen;omega,rfl,rfl⟩⟩, ?_,⟨by omega,by omega⟩,(XMap.made 45 idV W).keep (heap_alloc_old _ _ (by simp)),fun x hx=>(by simp at hx;subst hx;exact hid),hxs,rfl,by simp,(hW.imp (fun q _ h=>h.1)).trans (hfr _)⟩
  ·rintro q ((h|h)|h)
   ·subst h;exact⟨hlt.1,by simp;omega⟩
   ·subst h;exact⟨hlt.2.1,by simp;omega⟩
   ·exact⟨by omega,by simpa using h.2⟩
  ·intro q e
   injection e with e;have e:W.heap.size+1=q:=e;subst e;exact⟨.inr ⟨by omega,by simp⟩,by omega,by omega⟩
 have HST:=zz hst;have HJ:=zz hJ;have HY:=zz hY;have HAR:=zz hAr;have HK:=zz hk;clear hst hJ hY hAr hk hW h0 ci cb hib hbb hxs hid;generalize W.heap.size=sb at HST⊢;generalize World.alloc (World.alloc W _) _=W1 at HST⊢;clear hli hlb
 gi_loopw [5] (fun p wr=>∃v,p=v∧∃f Z pre stack seen rest,WkSt M n₀ ib bb sb id ab F xs J w0 f v wr Z pre stack seen rest) (fun v wr=>Hg.least (fun f=>∃Z pre stack seen rest,WkSt M n₀ ib bb sb id ab F xs J w0 f v wr Z pre stack seen rest))
 case atStart=>exact⟨_,rfl,F,HST.out⟩
 case round=>
  obtain⟨v,hv,hrel⟩:=hrel;have hv:=hv.symm;subst hv;have hl:=Hg.JZ hrel;clear hrel HST;generalize hf0:Hg.least _=f at hl;have HF0:=zz hf0;clear hf0;obtain⟨Z,pre,stack,seen,rest,hS⟩:=hl;have HS:=zz hS;cases stack with
  |nil=>
    have hown:=hS.own;have hv0:∃a cc,v= .slice a 0 cc:=by
     obtain⟨a,cc,e⟩:=(Sl.Aj hown).form;exact⟨a,cc,e⟩
    obtain⟨a,cc,rfl⟩:=hv0;clear hS hown;gi_wp2;go_end0;refine⟨⟨_,rfl⟩,.inl ⟨Z,pre, ?_,HS.out.j⟩⟩;have h1:=HS.out.run;have h2:=HS.out.all;cases f with
    |zero=>cases h1
    |succ f=>
      rw[Hg.Qv] at h1;injection h1 with h1;subst h1;simpa using h2
  |cons i s=>
    have hown:=hS.own;obtain⟨g,z,rfl⟩:=ownsRow_succ (k:=s.length) (show wr.ownsRow n₀ 45 1 v (s.length+1) _ from hown);have hlen:s.length+1≤1000000:=by
     have h1:=Hg.OQ M f _ _ _ hS.run;have h2:=hS.cnt;simp at h1;omega
    have kc:wr.cell? ⟨g,s.length,none⟩=some (idV i):=by
     rw[hown.cellAt s.length (by simp)];simp
    have hcap:s.length+1≤z:=(by obtain⟨c9,e,h,_⟩:=IC hown rfl;injection e with _ _ e;simp at h;omega);have hcap2:s.length≤z:=by omega
    have hks:IntKind.i64.wrap (((s.length+1:Nat):Int)-1)=(s.length:Int):=by rw[IntWalk.i64_in _ (by omega)];omega
    have hks2:IntKind.i64.wrap (s.length:Int)=(s.length:Int):=IntWalk.i64_in _ (by omega);have hit:=hS.top i (by simp);have hbb:=hS.box.2;have TG:=zz (Mr ab mb c M i wr (HAR.out wr hS.fr) hit);cases f with
    |zero=>exact absurd hS.run (by intro h;cases h)
    |succ f=>
    have hszr:∀q,Z q→q < wr.heap.size:=fun q hq=>(hS.z q hq).2;have hgetn:∀(o:Option Hg.Node),M i=o→Calls Tryz.prog 55 #[.pointer (some ⟨ab,0,none⟩),.int .u64 (i:Int)] wr (Hf wr o):=fun o h=>h ▸ TG.out;clear hS hown TG;cases hM:M i with
    |none=>
      have TG:=zz (hgetn none hM);clear hgetn;gi_wp2_with fail;refine⟨trivial,fun h=>(by cases h),(callsIn_wide.2 TG.out).mono ?_⟩;rintro e w1 ⟨ka,kc1,rfl,ho1,hb1⟩;have HF1:=zz (Fr.of_below (D:=fun _=>False) hb1);clear ho1 hb1 TG kc hbb;gi_wp2;go_roundw
      case rel=>exact⟨_,rfl,f,_,_,_,_,_,HS.out.skip HJ.out (HF1.out.alloc _) (by rw[Hg.Ea,hM])⟩
      case measure=>
       rw[HF0.out];refine Nat.lt_succ_of_le (Hg.IL ?_);exact⟨_,_,_,_,_,HS.out.skip HJ.out (HF1.out.alloc _) (by rw[Hg.Ea,hM])⟩
    |some nd=>
      have TG:=zz (hgetn (some nd) hM);have hmp:=HS.out.mp;have hsb:=(HS.out.z sb HS.out.zi.2.2).2;clear hgetn;gi_wp2_with fail;refine⟨trivial,fun h=>(by cases h),(callsIn_wide.2 TG.out).mono ?_⟩;rintro e w1 ⟨ka,kc1,rfl,ho1,hb1⟩;have HF1:=zz (Fr.of_below (D:=fun _=>False) hb1);have HO1:=zz ho1;have hsz1:wr.heap.size≤w1.heap.size:=hb1.size;have hm1:IMap (w1.alloc (.cells #[.int .u8 (nd.kind:Int),strV nd.name,.int .i64 nd.num,.int .u8 (nd.type:Int),.int .u64 (nd.ref:Int),.slice ka nd.kids.length kc1] 48)) sb (Jp seen):=hmp.fr (HF1.out.alloc _) (fun e=>e);have hlk:=hm1.look (x:=i) (t:=178) BL Tryz.underlying178 (hzb _) ⟨_,BJ hit⟩;unfold Jp at hlk;rw[Hg.WP] at hlk;clear ho1 hb1 TG kc hbb hmp;by_cases hi:i∈seen
      ·rw[if_pos hi] at hlk
       replace hlk:(Instr.lookup 178 (.map (some sb)) (.int .u64 (i:Int)) false).run Tryz.prog (w1.alloc (.cells #[.int .u8 (nd.kind:Int),strV nd.name,.int .i64 nd.num,.int .u8 (nd.type:Int),.int .u64 (nd.ref:Int),.slice ka nd.kids.length kc1] 48))= .ok (.bool true) _:=hlk;clear hm1;gi_wp2;go_roundw
       case rel=>exact⟨_,rfl,f,_,_,_,_,_,HS.out.skip HJ.out (HF1.out.alloc _) (by rw[Hg.Ea,hM];simp[hi])⟩
       case measure=>
        rw[HF0.out];refine Nat.lt_succ_of_le (Hg.IL ?_);exact⟨_,_,_,_,_,HS.out.skip HJ.out (HF1.out.alloc _) (by rw[Hg.Ea,hM];simp[hi])⟩
      ·rw[if_neg hi] at hlk
       replace hlk:(Instr.lookup 178 (.map (some sb)) (.int .u64 (i:Int)) false).run Tryz.prog (w1.alloc (.cells #[.int .u8 (nd.kind:Int),strV nd.name,.int .i64 nd.num,.int .u8 (nd.type:Int),.int .u64 (nd.ref:Int),.slice ka nd.kids.length kc1] 48))= .ok (.bool false) _:=hlk;obtain⟨W3,hrun3,hU3,hg3⟩:=hm1.put (t:=178) BL Tryz.underlying178 (fun x y h=>by injection h with _ h;exact Int.ofNat.inj h) (by have:=HS.out.cnt;unfold Jp;simp;omega) i ⟨_,BJ hit⟩ (.bool true);have hnw:=AX w1 (.cells #[.int .u8 (nd.kind:Int),strV nd.name,.int .i64 nd.num,.int .u8 (nd.type:Int),.int .u64 (nd.ref:Int),.slice ka nd.kids.length kc1] 48);have hb3:W3.heap[w1.heap.size]? =some (.cells #[.int .u8 (nd.kind:Int),strV nd.name,.int .i64 nd.num,.int .u8 (nd.type:Int),.int .u64 (nd.ref:Int),.slice ka nd.kids.length kc1] 48 (0,0)):=(hg3.block w1.heap.size (by simp) (fun e=>by injection e with e;omega)).trans hnw;have hf3a:Fr (fun q=>q=sb) wr (w1.alloc (.cells #[.int .u8 (nd.kind:Int),strV nd.name,.int .i64 nd.num,.int .u8 (nd.type:Int),.int .u64 (nd.ref:Int),.slice ka nd.kids.length kc1] 48)):=(HF1.out.alloc _).imp (fun _ _ e=>e.elim);have HF3:=zz (hf3a.step hg3 (fun q e=>by injection e with e;exact .inl e.symm));have hsz3:w1.heap.size+1≤W3.heap.size:=by have:=hg3.size;simpa using this
       have HO3:=zz (show W3.ownsRow wr.heap.size 45 1 (.slice ka nd.kids.length kc1) nd.kids.length (nd.kids.map idV) from Am (HO1.out.alloc _) (Fr.Y1 hg3 (fun q e=>by injection e with e;exact e.symm):Fr (fun q=>q=sb) _ _) (fun q e e'=>by have:=(HO1.out.lt q e).1;omega));have HU3:=zz hU3;replace hrun3:(Instr.mapUpdate 178 (.map (some sb)) (.int .u64 (i:Int)) (.bool true)).run Tryz.prog (w1.alloc (.cells #[.int .u8 (nd.kind:Int),strV nd.name,.int .i64 nd.num,.int .u8 (nd.type:Int),.int .u64 (nd.ref:Int),.slice ka nd.kids.length kc1] 48))= .ok () W3:=hrun3;have hJ3:=HJ.out _ _ _ _ HS.out.j (HF3.out.imp (D':=Z) (fun q _ e=>by subst e;exact HS.out.zi.2.2));have hpre:(pre++[(⟨i,nd,ka,kc1⟩:Au)]).map Au.strip <+:xs:=by
        have hrun:=HS.out.run;have hall:=HS.out.all;rw[Hg.Ea,hM] at hrun;dsimp only at hrun;rw[if_neg hi] at hrun;cases hr:wk M f (nd.kids++s) (i::seen) with
        |none=>rw[hr] at hrun;cases hrun
        |some rest'=>
          rw[hr] at hrun;have hrun:(i,nd)::rest'=rest:=Option.some.inj hrun;exact⟨rest',by rw[←hall,←hrun];simp[Au.strip]⟩
       obtain⟨fn,tmps,assign,body,hy,hR⟩:=HY.out _ pre ⟨i,nd,ka,kc1⟩ W3 hJ3 (fun q hq=>by
        rcases hq with hq|hq
        ·have:=hszr q hq;omega
        ·exact hq.2) hpre (Sl.Aj HO3.out) (fun q hq=> .inr (HO3.out.lt q hq))
       dsimp only[Au.enc] at hy;have e0:=AJ W3 w1.heap.size 0 _ _ (0,0) hb3;have e1:=AJ W3 w1.heap.size 1 _ _ (0,0) hb3;have e2:=AJ W3 w1.heap.size 2 _ _ (0,0) hb3;have e3:=AJ W3 w1.heap.size 3 _ _ (0,0) hb3;have e4:=AJ W3 w1.heap.size 4 _ _ (0,0) hb3;have e5:=AJ W3 w1.heap.size 5 _ _ (0,0) hb3;simp at e0 e1 e2 e3 e4 e5;clear hm1 hU3 hg3 hnw hf3a hJ3;gi_wp2;refine⟨fun h=>(by cases h),hR.mono ?_⟩;rintro e W4 (⟨rfl,hJ4,hk4⟩|⟨rfl,hJx4⟩)
       ·have hl5:nd.kids.length≤1000000:=by
         have:=(HAR.out wr HS.out.fr).map.len i;rw[hM] at this;exact this
        have hkb:∀q,(Value.slice ka nd.kids.length kc1).ownBlock=some q→wr.heap.size≤q∧q < W3.heap.size:=fun q e=>by have:=HO1.out.lt q e;omega
        have HKB:=zz hkb;have hb4:W4.heap[w1.heap.size]? =W3.heap[w1.heap.size]? :=hk4.block _ (by omega) (fun e=>e.2 (.inr ⟨by omega,by omega⟩));have HO4:=zz (show W4.ownsRow wr.heap.size 45 1 (.slice ka nd.kids.length kc1) nd.kids.length (nd.kids.map idV) from Am HO3.out hk4 (fun q e e'=>e'.2 (.inr (hkb q e))));have d5:W4.cell? ⟨w1.heap.size,5,none⟩=some (.slice ka nd.kids.length kc1):=(World.cell?_of_block (a:=⟨w1.heap.size,5,none⟩) hb4).trans e5;have TR:=zz (Pf wr.heap.size _ nd.kids W4 hl5 HO4.out);have HJ4:=zz hJ4;have HK4:=zz hk4;have hz4:W3.heap.size≤W4.heap.size:=hk4.size;clear hy hR hJ4 hk4 e0 e1 e2 e3 e4 e5 hlk hrun3 hkb;gi_wp2_with fail;refine⟨trivial,fun h=>(by cases h),(callsIn_wide.2 TR.out).mono ?_⟩;rintro e W5 ⟨rfl,ho5,hf5⟩;have hb5:W5.heap[w1.heap.size]? =W4.heap[w1.heap.size]? :=hf5.block _ (by omega) (fun e=>by have:=HO1.out.lt _ e;omega);have c5:W5.cell? ⟨w1.heap.size,5,none⟩=some (.slice ka nd.kids.length kc1):=(World.cell?_of_block (a:=⟨w1.heap.size,5,none⟩) hb5).trans d5;have HROW:=zz (HS.out.row HF3.out HK4.out HKB.out hf5);have HF5:=zz hf5;have HO5:=zz ho5;have hz5:W4.heap.size≤W5.heap.size:=hf5.size;have hn5:n₀≤W5.heap.size:=by have:=HS.out.z ib HS.out.zi.1;omega
        clear hf5 ho5 hb5 hb4 d5 TR
        gi_wp2_with (gi_at_builtin;refine JO _ rfl (.tmp 49) (.tmp 51) _ rfl n₀ 45 j0 _ 8 Tryz.underlying46 hj hj0 hj1 hj2 rfl _ s.length (s.reverse.map idV) rfl HROW.out W5.heap.size _ nd.kids.length (nd.kids.reverse.map idV) rfl (Sl.Aj HO5.out) ?_ (FJ _) ?_ ?_ ?_ ?_)
        ·simp
        ·unfold maxLen;omega
        ·omega
        ·exact hn5
        intro v6 W6 own6 g6 at6;rw[←List.map_reverse,←List.map_reverse] at own6;obtain⟨Z6,rest6,hS6⟩:=HS.out.next HJ.out hM hi (HK.out i nd hM) ⟨i,nd,ka,kc1⟩ rfl HF3.out HU3.out HJ4.out HK4.out HKB.out HF5.out own6 g6 at6;have HS6:=zz hS6;clear own6 g6 at6 hS6;gi_wp2;go_roundw
        case rel=>exact⟨_,rfl,f,_,_,_,_,_,HS6.out⟩
        case measure=>
         rw[HF0.out];refine Nat.lt_succ_of_le (Hg.IL ?_);exact⟨_,_,_,_,_,HS6.out⟩
       ·gi_wp2
        refine bodyPost_ret (results_none rfl _ _ _) rfl ?_;exact⟨⟨_,rfl⟩,.inr ⟨_,hpre,hJx4⟩⟩
end
open Hg (isK ndAt CO)
theorem Jf(ab id:Nat)(w:World):Calls Tryz.prog 86 #[.pointer (some ⟨ab,0,none⟩),idV id] w fun e w'=>e= .returned (.func (.func 129) #[] #[.pointer (some ⟨w.heap.size+1,0,none⟩),.pointer (some ⟨w.heap.size,0,none⟩)])∧w'=(w.alloc (.cells #[.pointer (some ⟨ab,0,none⟩)] 25)).alloc (.cells #[idV id] 45):=by
 go_enter Tryz.func86,Tryz.ntmps86;go_wp2;go_ret;exact⟨rfl,rfl⟩
theorem H9(ab:Nat)(w:World):Calls Tryz.prog 87 #[.pointer (some ⟨ab,0,none⟩)] w fun e w'=>e= .returned (idV 1)∧w'=w:=by
 go_enter Tryz.func87,Tryz.ntmps87;go_wp2;go_ret;exact⟨rfl,rfl⟩
theorem NB{w1:World}(nd:Hg.Node)(ka:Option Addr)(kc:Nat):∀i,((w1.alloc (.cells #[.int .u8 (nd.kind:Int),strV nd.name,.int .i64 nd.num,.int .u8 (nd.type:Int),.int .u64 (nd.ref:Int),.slice ka nd.kids.length kc] 48)).cell? ⟨w1.heap.size,i,none⟩)=(#[.int .u8 (nd.kind:Int),strV nd.name,.int .i64 nd.num,.int .u8 (nd.type:Int),.int .u64 (nd.ref:Int),.slice ka nd.kids.length kc]:Array Value)[i]? :=fun i=>AJ _ w1.heap.size i _ _ (0,0) (AX w1 _)
theorem QK(ab mb c:Nat)(M:Nat→Option Hg.Node)(x kind b1 b2:Nat)(w:World)(hA:ArAt w ab mb c M)(h1:w.cell? ⟨b1,0,none⟩=some (.pointer (some ⟨ab,0,none⟩)))(h2:w.cell? ⟨b2,0,none⟩=some (.int .u8 (kind:Int)))(hb2:b2 < w.heap.size)(hx:x < Ah):
 Calls Tryz.prog 104 #[idV x,.pointer (some ⟨b1,0,none⟩),.pointer (some ⟨b2,0,none⟩)] w fun e w'=>e= .returned (.bool (!isK M kind x))∧Below w.heap.size w w':=by
 have hget:∀o,M x=o→Calls Tryz.prog 55 #[.pointer (some ⟨ab,0,none⟩),.int .u64 (x:Int)] w (Hf w o):=fun o h=>h ▸ Mr ab mb c M x w hA hx;unfold isK;cases hM:M x with
 |none=>
   have TG:=zz (hget none hM);clear hget hA;go_enter Tryz.func104,Tryz.ntmps104;go_wp2_with fail;refine TG.out.mono ?_;rintro e w1 ⟨ka,kc,rfl,ho1,hb1⟩;have HB:=zz hb1;clear ho1 hb1 TG;go_wp2;go_ret;exact⟨rfl,HB.out.alloc HB.out.size _⟩
 |some nd=>
   have TG:=zz (hget (some nd) hM);clear hget hA;go_enter Tryz.func104,Tryz.ntmps104;go_wp2_with fail;refine TG.out.mono ?_;rintro e w1 ⟨ka,kc,rfl,ho1,hb1⟩;have HB:=zz hb1;have d2:w1.cell? ⟨b2,0,none⟩=some (.int .u8 (kind:Int)):=(hb1.cell hb2).trans h2;have hb3:b2 < w1.heap.size:=AR hb2 hb1.size;have hq:((nd.kind:Int) !=(kind:Int))= !(nd.kind==kind):=by
    by_cases e:nd.kind=kind
    ·subst e;simp
    ·have h1:(nd.kind==kind)=false:=by simpa using e
     have h2:((nd.kind:Int) !=(kind:Int))=true:=by simp;omega
     rw[h1,h2];rfl
   clear ho1 hb1 TG;go_wp2;go_ret;refine⟨?_,HB.out.alloc HB.out.size _⟩
   first|rfl|(simp[hq];done)|(rw[hq])
theorem WL(ab mb c:Nat)(M:Nat→Option Hg.Node)(kind b1 b2:Nat)(v:Value)(xs:List Nat)(B:Nat)(w:World)(hA:ArAt w ab mb c M)(h1:w.cell? ⟨b1,0,none⟩=some (.pointer (some ⟨ab,0,none⟩)))(h2:w.cell? ⟨b2,0,none⟩=some (.int .u8 (kind:Int)))(hb1:b1 < w.heap.size)(hb2:b2 < w.heap.size)(hx:∀x∈xs,x < Ah)
 (hs:Sl w w.heap.size v xs.length (xs.map idV)) (hl:xs.length≤1000000):
 Calls Tryz.prog 145 #[v,.func (.func 104) #[] #[.pointer (some ⟨b1,0,none⟩),.pointer (some ⟨b2,0,none⟩)]] w fun e w'=>(∃r:Int,e= .returned (.int .i64 r)∧((r= -1∧∀x∈xs,isK M kind x=true)∨∃i:Nat,r=(i:Int)∧∃x,xs[i]? =some x∧isK M kind x=false∧∀j y,j < i→xs[j]? =some y→isK M kind y=true))∧Below w.heap.size w w':=by
 have HS:=zz hs;have HA:=zz hA;obtain⟨a,cc,rfl⟩:=hs.form;have HC:=zz (And.intro h1 h2);have HX:=zz hx;clear hs hA h1 h2 hx;go_enter Tryz.func145,Tryz.ntmps145;go_wp2
 go_loopw [8] (fun p wr=>∃k:Nat,p= .int .i64 (k:Int)∧k≤xs.length∧Below w.heap.size w wr∧∀j y,j < k→xs[j]? =some y→isK M kind y=true) (fun p wr=>xs.length-(intOf p).toNat)
 case atStart=>exact⟨0,rfl,Nat.zero_le _,AL,fun j y hj=>by omega⟩
 case round=>
  obtain⟨k,rfl,hk,hb,hno⟩:=hrel;have HN:=zz hno;have HB:=zz hb;clear hno hb;by_cases hlt:k < xs.length
  ·obtain⟨b,o,rfl,_,kc⟩:=(HS.out.below HB.out AA).mapAt hlt
   have hm:xs[k]∈xs:=List.getElem_mem hlt;have TI:=zz (QK ab mb c M xs[k] kind b1 b2 wr (HA.out.below HB.out AA) ((HB.out.cell hb1).trans HC.out.1) ((HB.out.cell hb2).trans HC.out.2) (AR hb2 HB.out.size) (HX.out _ hm));have hy:=AY hlt;generalize xs[k]=y at kc TI hy;have HY:=zz hy;clear hm hy;cases hp:isK M kind y with
   |false=>
     rw[hp] at TI;have HP:=zz hp;clear hp;go_wp2_with fail;refine TI.out.mono ?_;rintro e w1 ⟨rfl,hb9⟩;have HB1:=zz (HB.out.trans (hb9.mono HB.out.size));clear TI hb9;go_wp2;go_ret;exact⟨⟨(k:Int),rfl,.inr ⟨k,rfl,y,HY.out,HP.out,HN.out⟩⟩,HB1.out⟩
   |true=>
     rw[hp] at TI;have HP:=zz hp;clear hp;go_wp2_with fail;refine TI.out.mono ?_;rintro e w1 ⟨rfl,hb9⟩;have HB1:=zz (HB.out.trans (hb9.mono HB.out.size));clear TI hb9;go_wp2;go_roundw
     case rel=>exact⟨k+1,by go_num,by omega,HB1.out,fun j z hj hz=>by
      by_cases e:j=k
      ·subst e;rw[HY.out] at hz;injection hz with hz;rw[←hz];exact HP.out
      ·exact HN.out j z (by omega) hz⟩
     case measure=>simp[intOf];omega
  ·obtain rfl:k=xs.length:=by omega
   go_wp2;go_ret;refine⟨⟨-1,rfl,.inl ⟨rfl,fun x hx=> ?_⟩⟩,HB.out⟩;obtain⟨j,hj,he⟩:=List.mem_iff_getElem.1 hx;exact HN.out j x hj (by rw[AY hj,he])
theorem Jt{w:World}{base:Nat}{e:TypeId}{g n cap m:Nat}{xs:List Value}(h:w.ownsRow base e 1 (.slice (some ⟨g,0,none⟩) n cap) n xs)(hm:m≤n):w.ownsRow base e 1 (.slice (some ⟨g,0,none⟩) m cap) m (xs.take m):=by
 obtain⟨h1,h2⟩:=h;refine⟨by simp;omega, ?_⟩;rcases h2 with⟨h2,_⟩|⟨g',cap',cur,hv,hg,hh,hc1,hc2,hc3,ht⟩
 ·cases h2
 ·injection hv with e1 e2 e3
  injection e1 with e1;injection e1 with e1;subst e1;subst e3;refine .inr ⟨g,cap,cur,rfl,hg,hh,by omega,hc2,hc3, ?_⟩;rw[←ht,List.take_take]
  congr 1
  omega
theorem GU{base:Nat}{e:TypeId}{g n cap:Nat}{xs:List Value}:∀(vs:List Value) (o:Nat) (w:World),w.ownsRow base e 1 (.slice (some ⟨g,0,none⟩) n cap) n xs→n≤o→(w.setCells g o vs).ownsRow base e 1 (.slice (some ⟨g,0,none⟩) n cap) n xs∧Fr (fun q=>q=g) w (w.setCells g o vs)
 |[],_,w,h,_=>⟨h,Fr.refl _ _⟩
 |v::vs,o,w,h,ho=>by
   have h1:=(h.stored o v).1;rw[List.set_eq_of_length_le (by have:=h.1;simp at this;omega)] at h1;obtain⟨a,b⟩:=GU vs (o+1) (w.setCell ⟨g,o,none⟩ v) h1 (by omega);exact⟨a,((Fr.refl (fun q=>q=g) w).set (p:=⟨g,o,none⟩) (.inl rfl) v).trans b⟩
structure LZ (p:Nat→Bool) (xs:List Nat) (i j:Nat) (ys:List Nat):Prop where
 len:ys.length=xs.length
 lt:i < j
 le:j≤xs.length
 kept:ys.take i=(xs.take j).filter p
 rest:ys.drop j=xs.drop j
theorem LZ.skip{p:Nat→Bool}{xs ys:List Nat}{i j x:Nat}(h:LZ p xs i j ys)(hx:xs[j]? =some x)(hp:p x=false):LZ p xs i (j+1) ys:=by
 have hj:j < xs.length:=(Ai.1 hx).1;refine⟨h.len,by have:=h.lt;omega,by omega, ?_, ?_⟩
 ·rw[h.kept,List.take_succ,hx,List.filter_append]
  simp[hp]
 ·rw[←List.drop_drop,h.rest,List.drop_drop]
theorem LZ.keep{p:Nat→Bool}{xs ys:List Nat}{i j x:Nat}(h:LZ p xs i j ys)(hx:xs[j]? =some x)(hp:p x=true):LZ p xs (i+1) (j+1) (ys.set i x):=by
 have hj:j < xs.length:=(Ai.1 hx).1;have hij:=h.lt;refine⟨by simp[h.len],by omega,by omega, ?_, ?_⟩
 ·rw[List.take_succ,List.take_set_of_le AA,h.kept,List.take_succ,hx,List.filter_append]
  rw[List.getElem?_set_self (by rw[h.len];omega)]
  simp[hp]
 ·rw[List.drop_set_of_lt (by omega),←List.drop_drop,h.rest,List.drop_drop]
theorem Wj(ab mb c:Nat)(M:Nat→Option Hg.Node)(kind b1 b2:Nat)(v:Value)(xs:List Nat)(B:Nat)(w:World)(hA:∀W,Fr (fun q=>v.ownBlock=some q) w W→ArAt W ab mb c M)(h1:w.cell? ⟨b1,0,none⟩=some (.pointer (some ⟨ab,0,none⟩)))(h2:w.cell? ⟨b2,0,none⟩=some (.int .u8 (kind:Int)))(hb1:b1 < w.heap.size∧v.ownBlock≠some b1)(hb2:b2 < w.heap.size∧v.ownBlock≠some b2)(hx:∀x∈xs,x < Ah)
 (ho:w.ownsRow B 45 1 v xs.length (xs.map idV)) (hl:xs.length≤1000000):
 Calls Tryz.prog 103 #[v,.func (.func 104) #[] #[.pointer (some ⟨b1,0,none⟩),.pointer (some ⟨b2,0,none⟩)]] w fun e w'=>(∃v',e= .returned v'∧w'.ownsRow B 45 1 v' (xs.filter (isK M kind)).length ((xs.filter (isK M kind)).map idV))∧Fr (fun q=>v.ownBlock=some q) w w':=by
 have hv0:∀W:World,(zeroValue 45).run Tryz.prog W= .ok (.int .u64 0) W:=fun W=>by kernel_rfl
 have T1:=zz (WL ab mb c M kind b1 b2 v xs B w (hA w (Fr.refl _ _)) h1 h2 hb1.1 hb2.1 hx (Sl.Aj ho) hl);obtain⟨a,cc,rfl⟩:=(Sl.Aj ho).form;have HO:=zz ho;have HA:=zz hA;have HC:=zz (And.intro h1 (And.intro h2 (And.intro hb1 hb2)));have HX:=zz hx;clear ho hA h1 h2 hx hb1 hb2;go_enter Tryz.func103,Tryz.ntmps103;go_wp2_with fail;refine T1.out.mono ?_;rintro e w1 ⟨⟨r,rfl,hr⟩,hbw⟩;have hf1:Fr (fun q=>(Value.slice a xs.length cc).ownBlock=some q) w w1:=Fr.of_below hbw;have HO1:=zz (show w1.ownsRow B 45 1 (.slice a xs.length cc) xs.length (xs.map idV) from Am HO.out (Fr.of_below (D:=fun _=>False) hbw) (fun _ _ e=>e));have HF1:=zz hf1;clear T1 hbw hf1;rcases hr with⟨rfl,hall⟩|⟨i0,rfl,x0,hx0,hp0,hbef⟩
 ·have hfil:xs.filter (isK M kind)=xs:=List.filter_eq_self.2 hall
  clear hall;go_wp2;go_ret;rw[hfil];exact⟨⟨_,rfl,HO1.out⟩,HF1.out⟩
 ·have hi0:i0 < xs.length:=(Ai.1 hx0).1
  obtain⟨g,rfl⟩:∃g,a=some ⟨g,0,none⟩:=by
   rcases HO.out.2 with⟨_,h⟩|⟨g,cap,cur,hv,_⟩
   ·omega
   ·injection hv with h1 h2 h3;exact⟨g,h1⟩
  have hst0:LZ (isK M kind) xs i0 (i0+1) xs:=by
   refine⟨rfl,by omega,by omega, ?_,rfl⟩;rw[List.take_succ,hx0,List.filter_append];have h1:(xs.take i0).filter (isK M kind)=xs.take i0:=List.filter_eq_self.2 (fun y hy=>by
    obtain⟨k,hk,e⟩:=List.mem_iff_getElem.1 hy;rw[List.length_take] at hk;rw[List.getElem_take] at e;exact hbef k y (by omega) (by rw[AY (by omega),e]))
   rw[h1]
   simp[hp0]
  have HST:=zz hst0;have hq:((i0:Int)== -1)=false:=by simp
  have hwi:IntKind.i64.wrap ((i0:Int)+1)=((i0+1:Nat):Int):=by rw[IntWalk.i64_in _ (by omega)];push_cast;rfl
  have hcap:xs.length≤cc:=(by obtain⟨c9,e,h,_⟩:=IC HO.out rfl;injection e with _ _ e;omega);clear hst0 hbef hp0 hx0;go_wp2
  go_loopw [5,6] (fun p q wr=>∃(i j:Nat) (ys:List Nat),p= .int .i64 (i:Int)∧q= .int .i64 (j:Int)∧LZ (isK M kind) xs i j ys∧wr.ownsRow B 45 1 (.slice (some ⟨g,0,none⟩) xs.length cc) xs.length (ys.map idV)∧Fr (fun q=>(Value.slice (some ⟨g,0,none⟩) xs.length cc).ownBlock=some q) w wr) (fun _ q wr=>xs.length-(intOf q).toNat)
  case atStart=>exact⟨i0,i0+1,xs,rfl,by first|rfl|go_num,HST.out,HO1.out,HF1.out⟩
  case round=>
   obtain⟨i,j,ys,rfl,rfl,hD,ho,hf⟩:=hrel;have hij:=hD.lt;have hjl:=hD.le;by_cases hlt:j < xs.length
   ·obtain⟨x,hxj⟩:∃x,xs[j]? =some x:=⟨_,AY hlt⟩
    have hyj:ys[j]? =some x:=by
     have h:=congrArg (fun l=>l[0]?) hD.rest;simpa[hxj] using h
    have cj:wr.cell? ⟨g,j,none⟩=some (idV x):=by rw[ho.cellAt j (by omega)];simp[hyj]
    have fz:∀k,wr.frozen? ⟨g,k,none⟩=false:=ho.frozenAt;have hxx:x∈xs:=List.mem_of_getElem? hxj;have TI:=zz (QK ab mb c M x kind b1 b2 wr (HA.out wr hf) ((hf.cell (p:=⟨b1,0,none⟩) HC.out.2.2.1.1 HC.out.2.2.1.2).trans HC.out.1) ((hf.cell (p:=⟨b2,0,none⟩) HC.out.2.2.2.1 HC.out.2.2.2.2).trans HC.out.2.1) (AR HC.out.2.2.2.1 hf.size) (HX.out x hxx));have HD:=zz hD;have HOw:=zz ho;have HFw:=zz hf;have HXJ:=zz hxj;have hwj:IntKind.i64.wrap ((j:Int)+1)=(j:Int)+1:=IntWalk.i64_in _ (by omega);have hwi:IntKind.i64.wrap ((i:Int)+1)=(i:Int)+1:=IntWalk.i64_in _ (by omega);have hil:i < xs.length:=by omega
    have ci:∃u,wr.cell? ⟨g,i,none⟩=some u:=by
     have:i < ys.length:=by rw[hD.len];omega
     exact⟨idV ys[i],by rw[ho.cellAt i (by omega)];simp[this]⟩
    have CI:=zz ci;clear hD ho hf hyj hxj hxx ci;cases hp:isK M kind x with
    |false=>
      rw[hp] at TI;have HP:=zz hp;clear hp;go_wp2_with fail;refine TI.out.mono ?_;rintro e w2 ⟨rfl,hb9⟩;have HF2:=zz (HFw.out.trans (Fr.of_below hb9));have HO2:=zz (Am HOw.out (Fr.of_below (D:=fun _=>False) hb9) (fun _ _ e=>e));clear TI hb9;go_wp2;go_roundw
      case rel=>exact⟨i,j+1,ys,rfl,by go_num,HD.out.skip HXJ.out HP.out,HO2.out,HF2.out⟩
      case measure=>simp[intOf];omega
    |true=>
      rw[hp] at TI;have HP:=zz hp;clear hp;go_wp2_with fail;refine TI.out.mono ?_;rintro e w2 ⟨rfl,hb9⟩;have HF2:=zz ((HFw.out.trans (Fr.of_below hb9)).set (p:=⟨g,i,none⟩) (.inl rfl) (idV x));have ho2:=Am HOw.out (Fr.of_below (D:=fun _=>False) hb9) (fun _ _ e=>e);have HO2:=zz (show(w2.setCell ⟨g,i,none⟩ (idV x)).ownsRow B 45 1 (.slice (some ⟨g,0,none⟩) xs.length cc) xs.length ((ys.set i x).map idV) from by rw[List.map_set];exact(ho2.stored i (idV x)).1);have fz2:∀k,w2.frozen? ⟨g,k,none⟩=false:=ho2.frozenAt;obtain⟨u,ci2⟩:∃u,w2.cell? ⟨g,i,none⟩=some u:=by
       obtain⟨u,hu⟩:=CI.out;have hgl:g < wr.heap.size:=(HOw.out.lt g rfl).2;exact⟨u,(hb9.cell (p:=⟨g,i,none⟩) hgl).trans hu⟩
      clear TI hb9 ho2 fz cj;go_wp2;go_roundw
      case rel=>exact⟨i+1,j+1,ys.set i x,by go_num,by go_num,HD.out.keep HXJ.out HP.out,HO2.out,HF2.out⟩
      case measure=>simp[intOf];omega
   ·obtain rfl:j=xs.length:=by omega
    have hkept:=hD.kept;rw[List.take_length] at hkept;have hlenk:(xs.filter (isK M kind)).length=i:=by rw[←hkept,List.length_take,hD.len];omega
    have hcl:∀ty,(Builtin.clear_ #[46] ty #[.slice (some ⟨g,i,none⟩) (xs.length-i) (cc-i)]).run Tryz.prog wr= .ok (.tuple #[]) (wr.setCells g i (List.replicate (xs.length-i) (.int .u64 0))):=fun ty=>
     Lib.run_clear_slice wr _ _ ty _ Tryz.underlying46 hv0 rfl rfl g i _ _ (by omega) (fun k hk=>by
      have:i+k < ys.length:=by rw[hD.len];omega
      rw[ho.cellAt (i+k) (by omega)];simp[this]) (fun k hk=>ho.frozenAt (i+k))
    have hfin:=GU (List.replicate (xs.length-i) (.int .u64 0)) i wr (Jt ho (show i≤xs.length by omega)) AA;have HFIN:=zz (show(wr.setCells g i (List.replicate (xs.length-i) (.int .u64 0))).ownsRow B 45 1 (.slice (some ⟨g,0,none⟩) i cc) (xs.filter (isK M kind)).length ((xs.filter (isK M kind)).map idV) from by
     have:=hfin.1;rw[←List.map_take,hkept] at this;rw[hlenk];exact this)
    have HFF:=zz (hf.trans (hfin.2.imp (D':=fun q=>(Value.slice (some ⟨g,0,none⟩) xs.length cc).ownBlock=some q) (fun q _ e=>by subst e;rfl)));have hil:i≤xs.length:=by omega
    have hic:i≤cc:=by omega
    clear hD ho hf hkept hfin hlenk;go_wp2;go_ret;exact⟨⟨_,rfl,HFIN.out⟩,HFF.out⟩
open Hg (Cm Br KB)
theorem Fr.below'{n:Nat}{w w':World}(h:Fr (fun q=>n≤q) w w')(hn:n≤w.heap.size):Below n w w':=⟨h.os,h.tape,h.output,h.size,fun i hi=>h.block i (by omega) (by omega)⟩
def ArOk(w:World)(ab:Nat)(M:Nat→Option Hg.Node):Prop:=(∃mb c,ArAt w ab mb c M)∧KB M
theorem ArOk.below{w w':World}{ab:Nat}{M:Nat→Option Hg.Node}(h:ArOk w ab M)(hb:Below w.heap.size w w'):ArOk w' ab M:=by
 obtain⟨⟨mb,c,hA⟩,hk⟩:=h;exact⟨⟨mb,c,hA.below hb AA⟩,hk⟩
theorem ArOk.fr{w w':World}{ab:Nat}{M:Nat→Option Hg.Node}(h:ArOk w ab M)(hb:Fr (fun q=>w.heap.size≤q) w w'):ArOk w' ab M:=h.below (hb.below (fun q h1 h2=>by omega))
theorem ArOk.len{w:World}{ab:Nat}{M:Nat→Option Hg.Node}(h:ArOk w ab M)(id:Nat):(ndAt M id).kids.length≤1000000:=by
 obtain⟨⟨mb,c,hA⟩,_⟩:=h;exact hA.map.len id
theorem ArOk.lenK{w:World}{ab:Nat}{M:Nat→Option Hg.Node}(h:ArOk w ab M)(id kind:Nat):(CO M id kind).length≤1000000:=by
 have h1:=h.len id;have h2:(CO M id kind).length≤(ndAt M id).kids.length:=List.length_filter_le _ _;omega
theorem ArOk.lt{w:World}{ab:Nat}{M:Nat→Option Hg.Node}(h:ArOk w ab M):ab < w.heap.size:=by
 obtain⟨⟨mb,c,hA⟩,_⟩:=h;exact hA.lt
theorem ArOk.get{w:World}{ab:Nat}{M:Nat→Option Hg.Node}(h:ArOk w ab M){id:Nat}(hid:id < Ah):Calls Tryz.prog 55 #[.pointer (some ⟨ab,0,none⟩),.int .u64 (id:Int)] w (Hf w (M id)):=by
 obtain⟨⟨mb,c,hA⟩,_⟩:=h;exact Mr ab mb c M id w hA hid
def Yw(w:World)(M:Nat→Option Hg.Node)(id:Nat)(e:Ending)(w':World):Prop:=
 ∃ka kc,e= .returned (.tuple #[ndV (ndAt M id) ka kc,.bool (M id).isSome])∧w'.ownsRow w.heap.size 45 1 (.slice ka (ndAt M id).kids.length kc) (ndAt M id).kids.length ((ndAt M id).kids.map idV)∧Below w.heap.size w w'
theorem ArOk.getN{w:World}{ab:Nat}{M:Nat→Option Hg.Node}(h:ArOk w ab M){id:Nat}(hid:id < Ah):Calls Tryz.prog 55 #[.pointer (some ⟨ab,0,none⟩),.int .u64 (id:Int)] w (Yw w M id):=(h.get hid).mono (fun _ _ h=>h)
def O4(w:World)(xs:List Nat)(e:Ending)(w':World):Prop:=(∃v,e= .returned v∧w'.ownsRow w.heap.size 45 1 v xs.length (xs.map idV))∧Below w.heap.size w w'
theorem J2(ab:Nat)(M:Nat→Option Hg.Node)(id kind:Nat)(w:World)(hA:ArOk w ab M)(hid:id < Ah):
 Calls Tryz.prog 56 #[.pointer (some ⟨ab,0,none⟩),idV id,.int .u8 (kind:Int)] w (O4 w (CO M id kind)):=by
 have hba:Below w.heap.size w ((w.alloc (.cells #[.pointer (some ⟨ab,0,none⟩)] 25)).alloc (.cells #[.int .u8 (kind:Int)] 5)):=((AL).alloc AA _).alloc (by simp) _;have TG:=zz ((hA.below hba).getN hid);have HA:=zz hA;have HBA:=zz hba;have hxs:=hA.2.at id;have hln:=hA.len id;have hc1:∀W:World,Below (w.heap.size+2) ((w.alloc (.cells #[.pointer (some ⟨ab,0,none⟩)] 25)).alloc (.cells #[.int .u8 (kind:Int)] 5)) W→W.cell? ⟨w.heap.size,0,none⟩=some (.pointer (some ⟨ab,0,none⟩))∧W.cell? ⟨w.heap.size+1,0,none⟩=some (.int .u8 (kind:Int)):=fun W hW=>by
  have h2:=AX (w.alloc (.cells #[.pointer (some ⟨ab,0,none⟩)] 25)) (.cells #[.int .u8 (kind:Int)] 5);rw[show(w.alloc (.cells #[.pointer (some ⟨ab,0,none⟩)] 25)).heap.size=w.heap.size+1 by simp] at h2;have h1:((w.alloc (.cells #[.pointer (some ⟨ab,0,none⟩)] 25)).alloc (.cells #[.int .u8 (kind:Int)] 5)).heap[w.heap.size]? =_:=(heap_alloc_old _ _ (by simp)).trans (AX w (.cells #[.pointer (some ⟨ab,0,none⟩)] 25));exact⟨AJ W w.heap.size 0 _ _ (0,0) ((hW.block _ (by omega)).trans h1),AJ W (w.heap.size+1) 0 _ _ (0,0) ((hW.block _ (by omega)).trans h2)⟩
 have HC1:=zz hc1;clear hA hba hc1;go_enter Tryz.func56,Tryz.ntmps56;go_wp2_with fail;refine TG.out.mono ?_;rintro e w1 ⟨ka,kc,rfl,ho1,hb1⟩;have hz1:w.heap.size+2≤w1.heap.size:=by have:=hb1.size;simpa using this
 have hz0:((w.alloc (.cells #[.pointer (some ⟨ab,0,none⟩)] 25)).alloc (.cells #[.int .u8 (kind:Int)] 5)).heap.size=w.heap.size+2:=by simp
 have hbn:=NB (w1:=w1) (ndAt M id) ka kc;have ho2:=ho1.alloc (.cells #[.int .u8 ((ndAt M id).kind:Int),strV (ndAt M id).name,.int .i64 (ndAt M id).num,.int .u8 ((ndAt M id).type:Int),.int .u64 ((ndAt M id).ref:Int),.slice ka (ndAt M id).kids.length kc] 48);have hb2:=hb1.alloc hb1.size (.cells #[.int .u8 ((ndAt M id).kind:Int),strV (ndAt M id).name,.int .i64 (ndAt M id).num,.int .u8 ((ndAt M id).type:Int),.int .u64 ((ndAt M id).ref:Int),.slice ka (ndAt M id).kids.length kc] 48);rw[hz0] at ho2 hb2;have hbw:Below w.heap.size w (w1.alloc (.cells #[.int .u8 ((ndAt M id).kind:Int),strV (ndAt M id).name,.int .i64 (ndAt M id).num,.int .u8 ((ndAt M id).type:Int),.int .u64 ((ndAt M id).ref:Int),.slice ka (ndAt M id).kids.length kc] 48)):=HBA.out.trans (hb2.mono (by omega));have c5:=hbn 5;simp at c5;have hql:=ho2.lt;obtain⟨hcc1,hcc2⟩:=HC1.out _ hb2;have hz2:(w1.alloc (.cells #[.int .u8 ((ndAt M id).kind:Int),strV (ndAt M id).name,.int .i64 (ndAt M id).num,.int .u8 ((ndAt M id).type:Int),.int .u64 ((ndAt M id).ref:Int),.slice ka (ndAt M id).kids.length kc] 48)).heap.size=w1.heap.size+1:=by simp
 obtain⟨⟨mb,cc,hAr⟩,hkb⟩:=HA.out;have TD:=Wj ab mb cc M kind w.heap.size (w.heap.size+1) (.slice ka (ndAt M id).kids.length kc) (ndAt M id).kids w.heap.size _ (fun W hf=>hAr.below (hbw.trans ((hf.imp (D':=fun q=>w.heap.size≤q) (fun q _ e=>by have:=(hql _ e).1;omega)).below' hbw.size)) AA) hcc1 hcc2 ⟨by omega,fun e=>by have:=(hql _ e).1;omega⟩ ⟨by omega,fun e=>by have:=(hql _ e).1;omega⟩ hxs (CQ ho2 (by omega)) hln;have TD2:=zz TD;have HBW:=zz hbw;have HQL:=zz hql;clear ho1 hb1 ho2 hb2 hbw hql TD hbn hcc1 hcc2 TG hAr hkb;go_wp2_with fail;refine TD2.out.mono ?_;rintro e w3 ⟨⟨v,rfl,ho3⟩,hf3⟩;have HO3:=zz ho3;have HB3:=zz (HBW.out.trans ((hf3.imp (D':=fun q=>w.heap.size≤q) (fun q _ e=>by have:=(HQL.out _ e).1;omega)).below' HBW.out.size));clear TD2 ho3 hf3;go_wp2;go_ret;exact⟨⟨v,rfl,HO3.out⟩,HB3.out⟩
abbrev i64V(n:Int):Value:= .int .i64 n
def FrAt(w:World)(fb n:Nat)(V:Nat→Int):Prop:=∃D,w.ownsMap Tryz.prog 45 rawR fb n D∧Maps.IsMap D∧∀k,k < Ah→D.atKey (idL k) (.held (i64V 0))= .held (i64V (V k))
theorem FrAt.made(w:World):FrAt (w.alloc (.map #[] 0)) w.heap.size 0 (fun _=>0):=⟨.map [],World.ownsMap_made w _ _ _,⟨[],rfl⟩,fun _ _=>rfl⟩
theorem FrAt.lt{w:World}{b n:Nat}{V:Nat→Int}(h:FrAt w b n V):b < w.heap.size:=by
 obtain⟨D,ho,_⟩:=h;exact ho.lt
theorem FrAt.obj{w:World}{b n:Nat}{V:Nat→Int}(h:FrAt w b n V):∃es ck,w.heap[b]? =some (.map es ck):=by
 obtain⟨D,ho,_⟩:=h;exact IB ho
theorem FrAt.look{w:World}{b n:Nat}{V:Nat→Int}(h:FrAt w b n V){k:Nat}(hk:k < Ah):(Instr.lookup 111 (.map (some b)) (.int .u64 (k:Int)) false).run Tryz.prog w= .ok (i64V (V k)) w:=by
 obtain⟨D,ho,_,hs⟩:=h;have hz:(zeroValue 2).run Tryz.prog w= .ok (i64V 0) w:=by kernel_rfl
 obtain⟨v,ps,hrun,hv⟩:=ho.lookup BL Tryz.underlying111 hz (zd:= .held (i64V 0)) (zp:=[]) rfl (BJ hk);rw[hs k hk] at hv;simp only[rawR,Option.some.injEq,Prod.mk.injEq] at hv;have e:v=i64V (V k):=by simpa using hv.1
 rw[hrun,e]
theorem FrAt.put{w:World}{b n:Nat}{V:Nat→Int}(h:FrAt w b n V){k:Nat}(x:Int)(hk:k < Ah)(hn:n≤1000000):
 ∃w',(Instr.mapUpdate 111 (.map (some b)) (.int .u64 (k:Int)) (i64V x)).run Tryz.prog w= .ok () w'∧FrAt w' b (n+1) (fun j=>if j=k then x else V j)∧w.grownBy w' (some b):=by
 obtain⟨D,ho,hi,hs⟩:=h;obtain⟨w',hrun,ho',hg⟩:=ho.update BL Tryz.underlying111 (by unfold maxLen;omega) (BJ hk) (val:=i64V x) (d:= .held (i64V x)) (ps:=[]) rfl;refine⟨w',hrun,⟨_,ho',Maps.IsMap.put hi _ _,fun j hj=> ?_⟩,hg⟩;dsimp only;by_cases e:j=k
 ·subst e
  rw[if_pos rfl];exact Maps.atKey_put_same hi (by trivial) _ _
 ·rw[if_neg e,Maps.atKey_put_other (Mj e)]
  exact hs j hj
theorem FrAt.fr{S:Nat→Prop}{w w':World}{b n:Nat}{V:Nat→Int}(h:FrAt w b n V)(hf:Fr S w w')(hb:¬S b):FrAt w' b n V:=by
 obtain⟨D,ho,hi,hs⟩:=h;exact⟨D,MM ho hf hb,hi,hs⟩
theorem Bc.frr{D:Nat→Prop}{Z:Nat→Prop}{w w':World}{nb c:Nat}{M:Nat→Option Hg.Node}(h:Bc Z w nb c M)(hf:Fr D w w')(h2:¬D nb)(h3:∀q,Z q→¬D q):Bc Z w' nb c M:=by
 obtain⟨⟨E,hw,hc,hk⟩,hbd⟩:=h;refine⟨⟨E,MM hw hf h2,hc,fun id hid=> ?_⟩,hbd⟩;have hx:=hk id hid;cases hM:M id with
 |none=>rw[hM] at hx;exact hx
 |some nd=>
   rw[hM] at hx;obtain⟨ka,kc,g1,g2,g3⟩:=hx;exact⟨ka,kc,g1,(g2.fr AA hf (fun q e=>h3 q (g3 q e))).more hf.size,g3⟩
theorem Bc.other{Z:Nat→Prop}{w w':World}{nb fb c:Nat}{M:Nat→Option Hg.Node}{es:Array MapEntry}{ck:Nat}(h:Bc Z w nb c M)(hm:w.heap[fb]? =some (.map es ck))(hg:w.grownBy w' (some fb))(hne:nb≠fb):Bc Z w' nb c M:=by
 obtain⟨⟨E,hw,hc,hk⟩,hbd⟩:=h;refine⟨⟨E,hw.kept hg (fun e=>by injection e with e;exact hne e),hc,fun id hid=> ?_⟩,hbd⟩;have hx:=hk id hid;cases hM:M id with
 |none=>rw[hM] at hx;exact hx
 |some nd=>
   rw[hM] at hx;obtain⟨ka,kc,g1,g2,g3⟩:=hx;exact⟨ka,kc,g1,(Gn g2 AA hm hg).more hg.size,g3⟩
theorem Bc.lookZ{Z:Nat→Prop}{w w1:World}{mb c:Nat}{M:Nat→Option Hg.Node}(h:Bc Z w mb c M)(hb:Below w.heap.size w w1){id:Nat}(hid:id < Ah){nd:Hg.Node}(hM:M id=some nd):
 ∃ka kc,(Instr.lookup 60 (.map (some mb)) (.int .u64 (id:Int)) true).run Tryz.prog w1= .ok (.tuple #[ndV nd ka kc,.bool true]) w1∧
   Sl w w.heap.size (.slice ka nd.kids.length kc) nd.kids.length (nd.kids.map idV)∧∀q,(Value.slice ka nd.kids.length kc).ownBlock=some q→Z q:=by
 have hz:(zeroValue 48).run Tryz.prog w1= .ok (ndV Hg.Node.zero none 0) w1:=by kernel_rfl
 obtain⟨⟨D,ho,hc,hk⟩,hbd⟩:=h;obtain⟨v,ps,hrun,hv⟩:=(ho.kept (below_grown hb none) (by simp)).look_ok BL Tryz.underlying60 hz (zd:= .held (ndV Hg.Node.zero none 0)) (zp:=[]) rfl (BJ hid);have hx:=hk id hid;simp only[rawR,Option.some.injEq,Prod.mk.injEq] at hv;rw[hM] at hx;obtain⟨ka,kc,h1,h2,h3⟩:=hx;rw[h1] at hv;have e:v=ndV nd ka kc:=by simpa using hv.1
 refine⟨ka,kc, ?_,h2,h3⟩;rw[hrun,Maps.has_true_of_atKey h1,e]
end Go.Proofs.YtfgnfpdfohjopaaGreatDoor
namespace Go.Proofs.YtfgnfpdfohjopaaGreatDoor.Rn
open Go.RowKit
open Hg (Fz FV FO FT IT KB Ak)
structure QC where
 M:Nat→Option Hg.Node
 fuel:Nat
 input:List Int
 ids:List Nat
 iv:Value
def QC.nd(C:QC)(id:Nat):Hg.Node:=Hg.ndAt C.M id
def QC.burn(C:QC)(s:Fz):Bool×Fz:=
 if s.e=0 then(if C.fuel≤s.used then(false,{s with e:=2}) else(true,{s with used:=s.used+1})) else(false,s)
@[reducible] def Ir(iv:Value)(ab nb fu:Nat)(s:Fz)(tv:Value):Array Value:= #[.pointer (some ⟨ab,0,none⟩),.map (some nb),iv,.int .i64 (fu:Int),.int .u8 (s.e:Int),.int .i64 0,tv,.int .i64 (s.used:Int),.int .i64 (s.rd:Int)]
structure Mach (C:QC) (X:Nat→Prop) (ab mb nb:Nat) (w0 w:World) (s:Fz) (tv:Value):Prop where
 cell:w.heap[mb]? =some (.cells (Ir C.iv ab nb C.fuel s tv) 62 (0,0))
 ar:ArOk w0 ab C.M
 bel:Below w0.heap.size w0 w
 tr:w.ownsRow w0.heap.size 2 1 tv s.trace.length (s.trace.map i64V)
 nodes:∃c Mc,Bc (fun q=>q≠mb∧tv.ownBlock≠some q∧q < w.heap.size∧¬X q) w nb c Mc∧(∃ks:List Nat,ks.Nodup∧ks.length=c∧(∀k,(Mc k).isSome=true↔k∈ks)∧∀k∈ks,k∈C.ids)∧∀id n,Mc id=some n→n=C.nd id
 lo:w0.heap.size≤mb∧w0.heap.size≤nb
 tm:tv.ownBlock≠some mb
 fu:C.fuel≤50000
 us:s.used≤50000
 tl:s.trace.length≤s.used
 il:C.ids.length≤1000000
 xl:∀q,X q→q < w.heap.size
 inp:Sl w0 w0.heap.size C.iv C.input.length (C.input.map i64V)∧C.input.length≤1000000
variable {C:QC} {X:Nat→Prop} {ab mb nb fb n:Nat} {w0 w w':World} {s s':Fz} {tv tv':Value} {V:Nat→Int}
theorem Mach.arOk(h:Mach C X ab mb nb w0 w s tv):ArOk w ab C.M:=h.ar.below h.bel
theorem Mach.nobj(h:Mach C X ab mb nb w0 w s tv):∃es ck,w.heap[nb]? =some (.map es ck):=by
 obtain⟨c,Mc,hm,_⟩:=h.nodes;obtain⟨⟨D,ho,_⟩,_⟩:=hm;exact IB ho
theorem Mach.ne(h:Mach C X ab mb nb w0 w s tv):nb≠mb:=by
 obtain⟨es,ck,hm⟩:=h.nobj;intro e;have:=h.cell;rw[←e,hm] at this;cases this
theorem Mach.lt(h:Mach C X ab mb nb w0 w s tv):mb < w.heap.size:=(Ab.1 h.cell).1
def MD(mb nb fb:Nat)(tv:Value):Nat→Prop:=fun q=>q=mb∨q=nb∨q=fb∨tv.ownBlock=some q
def Ay(mb nb fb:Nat)(w:World)(tv:Value)(w':World)(tv':Value):Prop:=Fr (MD mb nb fb tv) w w'∧∀q,tv'.ownBlock=some q→tv.ownBlock=some q∨w.heap.size≤q
theorem Ay.refl(mb nb fb:Nat)(w:World)(tv:Value):Ay mb nb fb w tv w tv:=⟨Fr.refl _ _,fun q h=> .inl h⟩
theorem Ay.trans{w1 w2:World}{tv1 tv2:Value}(h:Ay mb nb fb w tv w1 tv1)(k:Ay mb nb fb w1 tv1 w2 tv2):Ay mb nb fb w tv w2 tv2:=by
 refine⟨h.1.Dw k.1 (fun q hq e=> ?_),fun q e=> ?_⟩
 ·rcases e with e|e|e|e
  ·exact .inl e
  ·exact .inr (.inl e)
  ·exact .inr (.inr (.inl e))
  ·rcases h.2 q e with e|e
   ·exact .inr (.inr (.inr e))
   ·omega
 ·rcases k.2 q e with e|e
  ·exact h.2 q e
  ·exact .inr (AC h.1.size e)
theorem Ay.of_below{w1:World}(hb:Below w.heap.size w w1):Ay mb nb fb w tv w1 tv:=⟨(Fr.of_below hb),fun q e=> .inl e⟩
theorem Mach.below(h:Mach C X ab mb nb w0 w s tv)(hb:Below w.heap.size w w'):Mach C X ab mb nb w0 w' s tv:=by
 obtain⟨c,Mc,hm,hc,hn⟩:=h.nodes;exact⟨(hb.block mb h.lt).trans h.cell,h.ar,h.bel.trans (hb.mono h.bel.size),BO h.tr hb AA,⟨c,Mc,(hm.below hb AA).imp (fun q hz=>⟨hz.1,hz.2.1,AR hz.2.2.1 hb.size,hz.2.2.2⟩),hc,hn⟩,h.lo,h.tm,h.fu,h.us,h.tl,h.il,fun q hq=>AR (h.xl q hq) hb.size,h.inp⟩
theorem Mach.turn(h:Mach C X ab mb nb w0 w s tv)(hf:Fr (fun q=>q=mb) w w')(hc:w'.heap[mb]? =some (.cells (Ir C.iv ab nb C.fuel s' tv) 62 (0,0)))(ht:s'.trace=s.trace)(hn:s.used≤s'.used)(hu:s'.used≤50000):Mach C X ab mb nb w0 w' s' tv:=by
 obtain⟨c,Mc,hm,hcc,hnn⟩:=h.nodes;have hne:=h.ne;refine⟨hc,h.ar,⟨hf.os.trans h.bel.os,hf.tape.trans h.bel.tape,hf.output.trans h.bel.output,AC h.bel.size hf.size,fun i hi=>(hf.block i (AR hi h.bel.size) (fun e=>by have:=h.lo.1;omega)).trans (h.bel.block i hi)⟩, ?_,⟨c,Mc,(hm.frr hf hne (fun q hz e=>hz.1 e)).imp (fun q hz=>⟨hz.1,hz.2.1,AR hz.2.2.1 hf.size,hz.2.2.2⟩),hcc,hnn⟩,h.lo,h.tm,h.fu,hu,by rw[ht];exact AC h.tl hn,h.il,fun q hq=>AR (h.xl q hq) hf.size,h.inp⟩;rw[ht];exact Am h.tr hf (fun q e e'=>h.tm (e' ▸ e))
theorem Mach.put{w1:World}{x:Nat}(h:Mach C X ab mb nb w0 w s tv){c':Nat}{Mc':Nat→Option Hg.Node}(hA:Bc (fun q=>q≠mb∧tv.ownBlock≠some q∧(q < w.heap.size∧¬X q)∧q≠x) w' nb c' Mc')(hg:w.grownBy w' (some nb))(hx:w0.heap.size≤x∧x≠mb∧x≠nb∧tv.ownBlock≠some x)(hf2:Fr (fun q=>q=x) w' w1)(hc:∃ks:List Nat,ks.Nodup∧ks.length=c'∧(∀k,(Mc' k).isSome=true↔k∈ks)∧∀k∈ks,k∈C.ids)(hn:∀id n,Mc' id=some n→n=C.nd id):Mach C X ab mb nb w0 w1 s tv:=by
 obtain⟨es,ck,hm⟩:=h.nobj;have hf:Fr (fun q=>q=nb) w w':=Fr.Y1 hg (fun q e=>by injection e with e;exact e.symm);have hne:=h.ne;obtain⟨x1,x2,x3,x4⟩:=hx;refine⟨hf2.at_ (hf.at_ h.cell (fun e=>hne e.symm)) (fun e=>x2 e.symm),h.ar,⟨hf2.os.trans (hf.os.trans h.bel.os),hf2.tape.trans (hf.tape.trans h.bel.tape),hf2.output.trans (hf.output.trans h.bel.output),AC (AC h.bel.size hf.size) hf2.size,fun i hi=> ?_⟩,
  Am (Am h.tr hf (fun q e e'=> ?_)) hf2 (fun q e e'=>x4 (e' ▸ e)),⟨c',Mc',(hA.frr hf2 (fun e=>x3 e.symm) (fun q hz e=>hz.2.2.2 e)).imp (fun q hz=>⟨hz.1,hz.2.1,AR hz.2.2.1.1 (AC hf.size hf2.size),hz.2.2.1.2⟩),hc,hn⟩,h.lo,h.tm,h.fu,h.us,h.tl,h.il,fun q hq=>AR (h.xl q hq) (AC hf.size hf2.size),h.inp⟩
 ·have hl:=h.lo
  have hi2:=AR hi h.bel.size;exact(hf2.block i (AR hi2 hf.size) (by omega)).trans ((hf.block i hi2 (by omega)).trans (h.bel.block i hi))
 ·subst e'
  rcases Cs h.tr hm with h1|h1
  ·rw[h1] at e;cases e
  ·exact h1 e
def Keep(mb:Nat)(w:World)(tv v:Value)(n:Nat)(xs:List Value):Prop:=Sl w w.heap.size v n xs∧(0 < xs.length→∀q,v.ownBlock=some q→q≠mb∧tv.ownBlock≠some q)
theorem Keep.step{v:Value}{k:Nat}{xs:List Value}(h:Keep mb w tv v k xs)(hs:Ay mb nb fb w tv w' tv')(hN:∃es ck,w.heap[nb]? =some (.map es ck))(hF:∃es ck,w.heap[fb]? =some (.map es ck)):Keep mb w' tv' v k xs:=by
 obtain⟨⟨a,c,rfl,hc⟩,ho⟩:=h;refine⟨⟨a,c,rfl,fun hn=> ?_⟩,fun hn q hq=> ?_⟩
 ·obtain⟨b,o,rfl,hb,hx⟩:=hc hn
  have hq:=ho hn b rfl;have h0:=hx 0 hn;have hmap:∀m,(∃es ck,w.heap[m]? =some (.map es ck))→b≠m:=by
   rintro m ⟨es,ck,hm⟩ rfl
   simp[World.cell?,hm] at h0
  have h1:=hmap nb hN;have h2:=hmap fb hF;refine⟨b,o,rfl,AR hb hs.1.size,fun j hj=> ?_⟩;refine(hs.1.cell (p:=⟨b,o+j,none⟩) hb ?_).trans (hx j hj);rintro(e|e|e|e)
  ·exact hq.1 e
  ·exact h1 e
  ·exact h2 e
  ·exact hq.2 e
 ·obtain⟨b,o,rfl,hb,hx⟩:=hc hn
  have e:b=q:=by injection hq
  subst e;have hq2:=ho hn b rfl;refine⟨hq2.1,fun e=> ?_⟩;rcases hs.2 b e with e|e
  ·exact hq2.2 e
  ·omega
theorem Keep.below{v:Value}{k:Nat}{xs:List Value}(h:Keep mb w tv v k xs)(hb:Below w.heap.size w w'):Keep mb w' tv v k xs:=⟨(h.1.below hb AA).more hb.size,h.2⟩
structure St (C:QC) (X:Nat→Prop) (ab mb nb fb:Nat) (w0 w:World) (s:Fz) (tv:Value) (V:FV):Prop where
 m:Mach C X ab mb nb w0 w s tv
 f:∃n,FrAt w fb n V∧n≤100000+s.used
 ne:fb≠nb
 lo:w0.heap.size≤fb
variable {R:FV}
theorem St.fne(h:St C X ab mb nb fb w0 w s tv R):fb≠mb:=by
 obtain⟨n,hf,_⟩:=h.f;obtain⟨es,ck,hm⟩:=hf.obj;intro e;have:=h.m.cell;rw[←e,hm] at this;cases this
theorem St.below(h:St C X ab mb nb fb w0 w s tv R)(hb:Below w.heap.size w w'):St C X ab mb nb fb w0 w' s tv R:=
 ⟨h.m.below hb,h.f.imp fun _ hf=>⟨hf.1.fr (Fr.of_below hb:Fr (fun _=>False) w w') (fun e=>e),hf.2⟩,h.ne,h.lo⟩
theorem St.node(h:St C X ab mb nb fb w0 w s tv R)(hm:Mach C X ab mb nb w0 w' s tv)(hf:Fr (fun q=>q=nb) w w'):St C X ab mb nb fb w0 w' s tv R:=⟨hm,h.f.imp fun _ h2=>⟨h2.1.fr hf h.ne,h2.2⟩,h.ne,h.lo⟩
theorem St.burn(h:St C X ab mb nb fb w0 w s tv R)(hm:Mach C X ab mb nb w0 w' s' tv)(hf:Fr (fun q=>q=mb) w w')(hu:s.used≤s'.used):St C X ab mb nb fb w0 w' s' tv R:=⟨hm,h.f.imp fun _ h2=>⟨h2.1.fr hf h.fne,AC h2.2 (Nat.add_le_add_left hu _)⟩,h.ne,h.lo⟩
theorem Ay.ofN(hf:Fr (fun q=>q=nb) w w'):Ay mb nb fb w tv w' tv:=⟨hf.imp (fun q _ e=> .inr (.inl e)),fun q e=> .inl e⟩
theorem Ay.ofM(hf:Fr (fun q=>q=mb) w w'):Ay mb nb fb w tv w' tv:=⟨hf.imp (fun q _ e=> .inl e),fun q e=> .inl e⟩
end Go.Proofs.YtfgnfpdfohjopaaGreatDoor.Rn
