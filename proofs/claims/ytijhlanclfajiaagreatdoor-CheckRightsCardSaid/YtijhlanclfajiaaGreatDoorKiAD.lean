/-
  A part of the proof.
-/
import Derived.StillTail
import Derived.WalkKit
import Derived.Deep.RegionHeld
import Derived.Test.YtijhlanclfajiaaGreatDoorKiAC
set_option linter.all false
namespace Go.Proofs.YtijhlanclfajiaaGreatDoor
open Go
section
variable {P:Program} {ops:Array Oper} {Q:Exit→Act→World→Prop} {md:Region.Mode} {S:World→Prop} {n:Nat}
def Bu(P:Program)(md:Region.Mode)(ops:Array Oper)(Q:Exit→Act→World→Prop)(S:World→Prop)(n:Nat):Nat→Array Bool→Act→World→Prop
 |0,listed,a,w=>Region.ready md ops listed=[]∧Q .normal a w
 |fuel+1,listed,a,w=>
   (Region.ready md ops listed=[]→Q .normal a w)∧
   ∀i∈Region.ready md ops listed,wpOp P ops Q i (fun a' w'=>(i < n→S w')∧Bu P md ops Q S n fuel (listed.setIfInBounds i true) a' w') a w
theorem FP:∀(fuel:Nat) (listed:Array Bool) (a:Act) (w:World),Bu P md ops Q S n fuel listed a w→wpAny P md ops Q fuel listed a w
 |0,_,_,_,h=>h
 |fuel+1,_,_,_,h=>⟨h.1,fun i hi=>wpOp_mono (fun a' w' h'=>FP fuel _ a' w' h'.2) (h.2 i hi)⟩
def Ym(md:Region.Mode)(ops:Array Oper)(n:Nat):Prop:=Region.sinkB md ops n=true∧Region.chainB md ops n=true∧n < ops.size
theorem Gm(hW:Ym md ops n){i:Nat}{oi:Oper}{v:Value}(hin:i < n)(hi:ops[i]? =some oi)(hsel:∀(j:Nat) (o:Oper) cs b,ops[j]? =some o→o.op≠ .select cs b)
 (hQ:∀c a w,Q (.panic c) (a.put oi.dst v) w→Q (.panic c) a w):
 ∀(fuel:Nat) (listed:Array Bool) (a:Act) (w:World),HeadInv md ops n listed→
   (∀j oj,ops[j]? =some oj→j≠i→listed.getD j true=false→(∀e∈oj.after,Region.binds md e=true→e.on≠i)→oi.apart ops oj=true)→
   i∈Region.ready md ops listed→YieldsIf P ops S oi v a→S w→
   Bu P md ops Q S n fuel (listed.setIfInBounds i true) (a.put oi.dst v) w→Bu P md ops Q S n (fuel+1) listed a w:=by
 intro fuel
 induction fuel with
 |zero=>
   intro listed a w _ _ hr hy hS H;refine⟨fun h=>(by rw[h] at hr;cases hr),fun j hj=> ?_⟩;by_cases hji:j=i
   ·subst hji;exact hy.wpOp hi hS ⟨fun _=>hS,H⟩
   ·have:=ready_mono hj hji
    rw[H.1] at this;cases this
 |succ fuel ih=>
   intro listed a w inv hfree hr hy hS H;refine⟨fun h=>(by rw[h] at hr;cases hr),fun j hj=> ?_⟩;by_cases hji:j=i
   ·subst hji;exact hy.wpOp hi hS ⟨fun _=>hS,H⟩
   ·have h1:=H.2 j (ready_mono hj hji)
    obtain⟨hjun,oj,hoj,hall⟩:=mem_ready.1 hj;have hiun:=(mem_ready.1 hr).1;have hjn:j < n:=by
     rcases Nat.lt_or_ge j n with h|h
     ·exact h
     ·exact absurd hj (tail_waits hW.1 hW.2.1 hW.2.2 inv _ i rfl hin hiun j h)
    have hnot:∀e∈oj.after,Region.binds md e=true→e.on≠i:=fun e he hb heq=>by
     have h1:=hall e he hb;rw[heq,getD_both hiun] at h1;cases h1
    have h2:=wpOp_putIf hoj (hfree j oj hoj hji hjun hnot) (fun cs b=>hsel i oi cs b hi) (fun cs b=>hsel j oj cs b hoj) hQ hy h1;have hfree':∀k ok,ops[k]? =some ok→k≠i→(listed.setIfInBounds j true).getD k true=false→
     (∀e∈ok.after,Region.binds md e=true→e.on≠i)→oi.apart ops ok=true:=fun k ok hk hki hun hno=>by
     refine hfree k ok hk hki ?_ hno;by_cases hjk:j=k
     ·subst hjk;exact hjun
     ·rw[getD_set_ne true hjk] at hun;exact hun
    refine wpOp_mono (fun a' w' h3=>⟨h3.2.1,ih (listed.setIfInBounds j true) a' w' (inv.set hj hjn) hfree' (ready_mono hr (Ne.symm hji)) h3.1 (h3.2.1 hjn) ?_⟩) h2;rw[Array.setIfInBounds_comm _ _ hji];exact h3.2.2
def F5(md:Region.Mode)(ops:Array Oper)(n:Nat)(listed:Array Bool):Bool:=
 listed.size==ops.size && ((List.range ops.size).all fun j=> !listed.getD j false||match ops[j]? with
  |some oj=>oj.after.all fun e=> !Region.binds md e||listed.getD e.on false
  |none=>true) && (List.range ops.size).all fun t=>decide (t < n)|| !listed.getD t true
theorem Ke{listed:Array Bool}(h:F5 md ops n listed=true):HeadInv md ops n listed:=by
 simp only[F5,Bool.and_eq_true,beq_iff_eq,List.all_eq_true,List.mem_range,Bool.or_eq_true,Bool.not_eq_true',decide_eq_true_eq] at h;obtain⟨⟨h1,h2⟩,h3⟩:=h;refine⟨h1,fun j oj hj hl e he hb=> ?_,fun t ht ht'=> ?_⟩
 ·have hlt:j < ops.size:=(Array.getElem?_eq_some_iff.1 hj).1
  rcases h2 j hlt with h|h
  ·rw[h] at hl;cases hl
  ·rw[hj] at h
   have:=Array.all_eq_true_iff_forall_mem.1 h e he;simp only[Bool.or_eq_true,Bool.not_eq_true',hb] at this;rcases this with h|h
   ·cases h
   ·exact h
 ·rcases h3 t ht' with h|h
  ·omega
  ·exact h
def Ja(md:Region.Mode)(ops:Array Oper)(n:Nat):Bool:=Region.noSelect ops && Region.sinkB md ops n && Region.chainB md ops n && decide (n < ops.size)
theorem AC{i:Nat}{oi:Oper}{v:Value}{fuel:Nat}{listed:Array Bool}{a:Act}{w:World}(hi:ops[i]? =some oi)
 (hB:(Ja md ops n && F5 md ops n listed && Region.free md ops listed i && (Region.ready md ops listed).contains i && decide (i < n))=true)
 (hQ:∀c a w,Q (.panic c) (a.put oi.dst v) w→Q (.panic c) a w) (hS:S w) (hy:YieldsIf P ops S oi v a)
 (h:Bu P md ops Q S n fuel (listed.setIfInBounds i true) (a.put oi.dst v) w):Bu P md ops Q S n (fuel+1) listed a w:=by
 simp only[Bool.and_eq_true,decide_eq_true_eq,Ja] at hB;obtain⟨⟨⟨⟨⟨⟨⟨b1,b2⟩,b3⟩,b4⟩,b5⟩,b6⟩,b7⟩,b8⟩:=hB;exact Gm ⟨b2,b3,b4⟩ b8 hi (Region.noSelect_spec b1) hQ fuel listed a w (Ke b5) (Region.free_spec hi b6) (by simpa using b7) hy hS h
def QJ(md:Region.Mode)(ops:Array Oper)(n:Nat)(ex:List Nat):Bool:=
 (List.range n).all fun i=>ex.contains i||(List.range (n+1)).any fun j=>decide (i < j) && Region.waitsFor md ops j i
structure InvX (md:Region.Mode) (ops:Array Oper) (n:Nat) (ex:List Nat) (listed:Array Bool):Prop where
 inv:HeadInv md ops n listed
 ex:∀i∈ex,listed.getD i false=true
theorem InvX.set{n i:Nat}{ex:List Nat}{listed:Array Bool}(h:InvX md ops n ex listed)(hi:i∈Region.ready md ops listed)(hin:i < n):InvX md ops n ex (listed.setIfInBounds i true):=
 ⟨h.inv.set hi hin,fun j hj=>getD_set_true (h.ex j hj)⟩
theorem QA{n:Nat}{ex:List Nat}{listed:Array Bool}(hs:QJ md ops n ex=true)(hc:Region.chainB md ops n=true)(hn:n < ops.size)(invX:InvX md ops n ex listed):
 ∀(d i:Nat),n-i=d→i < n→listed.getD i true=false→∀t,n≤t→t∉Region.ready md ops listed:=by
 have inv:=invX.inv;intro d
 induction d using Nat.strongRecOn with
 |_ d ih=>
   intro i hd hi hun t ht hr;obtain⟨_,ot,hot,hall⟩:=mem_ready.1 hr;have htlt:t < ops.size:=(Array.getElem?_eq_some_iff.1 hot).1;by_cases htn:t=n
   ·subst htn
    have h1:=List.all_eq_true.1 hs i (List.mem_range.2 hi);simp only[Bool.or_eq_true] at h1;rcases h1 with h1|h1
    ·have h2:=invX.ex i (by simpa using h1)
     rw[getD_both hun] at h2;cases h2
    obtain⟨j,hj,hj2⟩:=List.any_eq_true.1 h1;simp only[Bool.and_eq_true,decide_eq_true_eq] at hj2;obtain⟨oj,hoj,e,he,hb,hon⟩:=Region.waitsFor_spec hj2.2;have hjle:j≤t:=by have:=List.mem_range.1 hj;omega
    by_cases hjt:j=t
    ·subst hjt
     have:oj=ot:=Option.some.inj (hoj.symm.trans hot);subst this;have h2:=hall e he hb;rw[hon,getD_both hun] at h2;cases h2
    ·cases hl:listed.getD j false with
     |true=>
       have h2:=inv.closed j oj hoj hl e he hb;rw[hon,getD_both hun] at h2;cases h2
     |false=>
       have hjs:j < listed.size:=by rw[inv.size];omega
       exact ih (t-j) (by omega) j rfl (by omega) (getD_in hjs hl) t (Nat.le_refl _) hr
   ·have h1:=List.all_eq_true.1 hc t (List.mem_range.2 htlt)
    simp only[Bool.or_eq_true,decide_eq_true_eq] at h1;rcases h1 with h1|h1
    ·omega
    ·obtain⟨o',ho',e,he,hb,hon⟩:=Region.waitsFor_spec h1
     have:o'=ot:=Option.some.inj (ho'.symm.trans hot);subst this;have h2:=hall e he hb;rw[hon,getD_both (inv.tail (t-1) (by omega) (by omega))] at h2;cases h2
theorem Nt{ex:List Nat}(hW:QJ md ops n ex=true∧Region.chainB md ops n=true∧n < ops.size){i:Nat}{oi:Oper}{v:Value}(hin:i < n)(hi:ops[i]? =some oi)(hsel:∀(j:Nat) (o:Oper) cs b,ops[j]? =some o→o.op≠ .select cs b)
 (hQ:∀c a w,Q (.panic c) (a.put oi.dst v) w→Q (.panic c) a w):
 ∀(fuel:Nat) (listed:Array Bool) (a:Act) (w:World),InvX md ops n ex listed→
   (∀j oj,ops[j]? =some oj→j≠i→listed.getD j true=false→(∀e∈oj.after,Region.binds md e=true→e.on≠i)→oi.apart ops oj=true)→
   i∈Region.ready md ops listed→YieldsIf P ops S oi v a→S w→
   Bu P md ops Q S n fuel (listed.setIfInBounds i true) (a.put oi.dst v) w→Bu P md ops Q S n (fuel+1) listed a w:=by
 intro fuel
 induction fuel with
 |zero=>
   intro listed a w _ _ hr hy hS H;refine⟨fun h=>(by rw[h] at hr;cases hr),fun j hj=> ?_⟩;by_cases hji:j=i
   ·subst hji;exact hy.wpOp hi hS ⟨fun _=>hS,H⟩
   ·have:=ready_mono hj hji
    rw[H.1] at this;cases this
 |succ fuel ih=>
   intro listed a w inv hfree hr hy hS H;refine⟨fun h=>(by rw[h] at hr;cases hr),fun j hj=> ?_⟩;by_cases hji:j=i
   ·subst hji;exact hy.wpOp hi hS ⟨fun _=>hS,H⟩
   ·have h1:=H.2 j (ready_mono hj hji)
    obtain⟨hjun,oj,hoj,hall⟩:=mem_ready.1 hj;have hiun:=(mem_ready.1 hr).1;have hjn:j < n:=by
     rcases Nat.lt_or_ge j n with h|h
     ·exact h
     ·exact absurd hj (QA hW.1 hW.2.1 hW.2.2 inv _ i rfl hin hiun j h)
    have hnot:∀e∈oj.after,Region.binds md e=true→e.on≠i:=fun e he hb heq=>by
     have h1:=hall e he hb;rw[heq,getD_both hiun] at h1;cases h1
    have h2:=wpOp_putIf hoj (hfree j oj hoj hji hjun hnot) (fun cs b=>hsel i oi cs b hi) (fun cs b=>hsel j oj cs b hoj) hQ hy h1;have hfree':∀k ok,ops[k]? =some ok→k≠i→(listed.setIfInBounds j true).getD k true=false→
     (∀e∈ok.after,Region.binds md e=true→e.on≠i)→oi.apart ops ok=true:=fun k ok hk hki hun hno=>by
     refine hfree k ok hk hki ?_ hno;by_cases hjk:j=k
     ·subst hjk;exact hjun
     ·rw[getD_set_ne true hjk] at hun;exact hun
    refine wpOp_mono (fun a' w' h3=>⟨h3.2.1,ih (listed.setIfInBounds j true) a' w' (inv.set hj hjn) hfree' (ready_mono hr (Ne.symm hji)) h3.1 (h3.2.1 hjn) ?_⟩) h2;rw[Array.setIfInBounds_comm _ _ hji];exact h3.2.2
theorem Js{i:Nat}{oi:Oper}{v:Value}{fuel:Nat}{listed:Array Bool}{a:Act}{w:World}(ex:List Nat)(hi:ops[i]? =some oi)
 (hB:(Region.noSelect ops && QJ md ops n ex && Region.chainB md ops n && decide (n < ops.size) && (ex.all fun i=>listed.getD i false) && F5 md ops n listed && Region.free md ops listed i && (Region.ready md ops listed).contains i && decide (i < n))=true)
 (hQ:∀c a w,Q (.panic c) (a.put oi.dst v) w→Q (.panic c) a w) (hS:S w) (hy:YieldsIf P ops S oi v a)
 (h:Bu P md ops Q S n fuel (listed.setIfInBounds i true) (a.put oi.dst v) w):Bu P md ops Q S n (fuel+1) listed a w:=by
 simp only[Bool.and_eq_true,decide_eq_true_eq] at hB;obtain⟨⟨⟨⟨⟨⟨⟨⟨b1,b2⟩,b3⟩,b4⟩,b9⟩,b5⟩,b6⟩,b7⟩,b8⟩:=hB;exact Nt (ex:=ex) ⟨b2,b3,b4⟩ b8 hi (Region.noSelect_spec b1) hQ fuel listed a w ⟨Ke b5,fun i hi=>List.all_eq_true.1 b9 i hi⟩ (Region.free_spec hi b6) (by simpa using b7) hy hS h
theorem AR{i:Nat}{o:Oper}{fuel:Nat}{listed:Array Bool}{a:Act}{w:World}(ho:ops[i]? =some o)(hr:Region.ready md ops listed=[i])
 (h:∀K':Act→World→Prop,Shut (∀a w,S w→(S w→Bu P md ops Q S n fuel (listed.setIfInBounds i true) a w)→K' a w)→if Region.wanted o (yielded ops a.tmps)=true then Oper.wp P o a w K' Q else K' (a.put o.dst undef) w):
 Bu P md ops Q S n (fuel+1) listed a w:=by
 refine⟨fun h0=>(by rw[h0] at hr;cases hr),fun j hj=> ?_⟩;rw[hr] at hj;have:j=i:=by simpa using hj
 subst this;exact wpOp_step ho (fun K' hK=>h K' (fun a w hS hW=>hK a w ⟨fun _=>hS,hW hS⟩))
theorem FQ{i j:Nat}{oi oj:Oper}{fuel:Nat}{listed:Array Bool}{a:Act}{w:World}(hi:ops[i]? =some oi)(hj:ops[j]? =some oj)(hr:Region.ready md ops listed=[i,j])
 (h1:∀K':Act→World→Prop,Shut (∀a w,S w→(S w→Bu P md ops Q S n fuel (listed.setIfInBounds i true) a w)→K' a w)→if Region.wanted oi (yielded ops a.tmps)=true then Oper.wp P oi a w K' Q else K' (a.put oi.dst undef) w)
 (h2:∀K':Act→World→Prop,Shut (∀a w,S w→(S w→Bu P md ops Q S n fuel (listed.setIfInBounds j true) a w)→K' a w)→if Region.wanted oj (yielded ops a.tmps)=true then Oper.wp P oj a w K' Q else K' (a.put oj.dst undef) w):
 Bu P md ops Q S n (fuel+1) listed a w:=by
 refine⟨fun h0=>(by rw[h0] at hr;cases hr),fun k hk=> ?_⟩;rw[hr] at hk;rcases List.mem_cons.1 hk with rfl|hk
 ·exact wpOp_step hi (fun K' hK=>h1 K' (fun a w hS hW=>hK a w ⟨fun _=>hS,hW hS⟩))
 ·have:k=j:=by simpa using hk
  subst this;exact wpOp_step hj (fun K' hK=>h2 K' (fun a w hS hW=>hK a w ⟨fun _=>hS,hW hS⟩))
theorem JJ:∀(fuel:Nat) (listed:Array Bool) (a:Act) (w:World),(∀i,listed.getD i true=false→n≤i)→wpAny P md ops Q fuel listed a w→Bu P md ops Q S n fuel listed a w
 |0,_,_,_,_,h=>h
 |fuel+1,listed,a,w,hn,h=>⟨h.1,fun i hi=>wpOp_mono (fun a' w' h'=>⟨fun hin=>absurd hin (by have:=hn i (mem_ready.1 hi).1;omega),JJ fuel _ a' w' (fun j hj=>by
  by_cases hij:i=j
  ·subst hij;exact hn i (mem_ready.1 hi).1
  ·exact hn j (by rw[getD_set_ne true hij] at hj;exact hj)) h'⟩) (h.2 i hi)⟩
theorem Ag{l:List Oper}{listed:Array Bool}{a:Act}{w:World}(hB:((List.range l.length).all (fun i=>decide (n≤i)||listed.getD i true) && listed.size==l.length && Region.seqB md l.toArray (l.drop n).length n listed)=true)
 (h:wpList P l.toArray Q (l.drop n) a w):Bu P md l.toArray Q S n (l.drop n).length listed a w:=by
 simp only[Bool.and_eq_true,List.all_eq_true,List.mem_range,Bool.or_eq_true,decide_eq_true_eq,beq_iff_eq] at hB;obtain⟨⟨h1,h3⟩,h2⟩:=hB;refine JJ _ _ _ _ (fun i hi=> ?_) (wpAny_of_seq (l.drop n) n listed a w (fun j=>by simp[List.getElem?_drop]) h2 h);have hlt:i < listed.size:=by
  rcases Nat.lt_or_ge i listed.size with h'|h'
  ·exact h'
  ·simp[Array.getElem?_eq_none h'] at hi
 rcases h1 i (by omega) with h|h
 ·exact h
 ·rw[h] at hi;cases hi
theorem Ay{id:Nat}{a:Act}{w:World}(S:World→Prop)(n:Nat)(hm:P.follows .mixedOrders=true)
 (h:Bu P .any ops Q S n ops.size (Array.replicate ops.size false) a w.drew):(Code.region id ops true).wp P Q a w:=
 wp_region_any hm (FP _ _ _ _ h)
end
theorem CY{w:World}{p:Addr}{v:Value}(h:w.cell? p=some v)(o:Obj):(w.alloc o).cell? p=some v:=by
 rw[World.cell?_alloc_some w p o (by rw[h];rfl),h]
section
variable {P:Program} {ops:Array Oper} {Q:Exit→Act→World→Prop} {md:Region.Mode} {S:World→Prop} {n:Nat}
theorem tk(i:Nat)(v:Value){oi:Oper}{fuel:Nat}{listed:Array Bool}{a:Act}{w:World}(hi:ops[i]? =some oi)
  (hB:(Ja md ops n && F5 md ops n listed && Region.free md ops listed i && (Region.ready md ops listed).contains i && decide (i < n))=true)
  (hQ:∀c a w,Q (.panic c) (a.put oi.dst v) w→Q (.panic c) a w) (hS:S w) (hw:Region.wanted oi (yielded ops a.tmps)=true) (hy:∀w,S w→(execOp a.eval oi).run P w= .ok (.value v) w)
  (h:Bu P md ops Q S n fuel (listed.setIfInBounds i true) (a.put oi.dst v) w):Bu P md ops Q S n (fuel+1) listed a w:=
  AC hi hB hQ hS (.inl ⟨hw,hy⟩) h
theorem tx(ex:List Nat)(i:Nat)(v:Value){oi:Oper}{fuel:Nat}{listed:Array Bool}{a:Act}{w:World}(hi:ops[i]? =some oi)
  (hB:(Region.noSelect ops && QJ md ops n ex && Region.chainB md ops n && decide (n < ops.size) && (ex.all fun i=>listed.getD i false) && F5 md ops n listed && Region.free md ops listed i && (Region.ready md ops listed).contains i && decide (i < n))=true)
  (hQ:∀c a w,Q (.panic c) (a.put oi.dst v) w→Q (.panic c) a w) (hS:S w) (hw:Region.wanted oi (yielded ops a.tmps)=true) (hy:∀w,S w→(execOp a.eval oi).run P w= .ok (.value v) w)
  (h:Bu P md ops Q S n fuel (listed.setIfInBounds i true) (a.put oi.dst v) w):Bu P md ops Q S n (fuel+1) listed a w:=
  Js ex hi hB hQ hS (.inl ⟨hw,hy⟩) h
end
theorem sA{α:Type}(l:List α)(i:Nat)(a:α):l.toArray.setIfInBounds i a=(l.set i a).toArray:=List.setIfInBounds_toArray ..
theorem sB{α:Type}(x:α)(l:List α)(a:α):(x::l).set 0 a=a::l:=List.set_cons_zero
theorem sC{α:Type}(x:α)(l:List α)(n:Nat)(a:α):(x::l).set (n+1) a=x::l.set n a:=List.set_cons_succ
theorem sD{α:Type}{xs:List α}{i:Nat}(h:i < xs.toArray.size):xs.toArray[i]=xs[i]'(by simpa using h):=List.getElem_toArray h
theorem sE{α:Type}(a:α)(l:List α)(i:Nat)(h:i+1 < (a::l).length):(a::l)[i+1]=l[i]'(Nat.lt_of_succ_lt_succ h):=List.getElem_cons_succ ..
theorem sF{α:Type}(a:α)(l:List α)(h:0 < (a::l).length):(a::l)[0]=a:=List.getElem_cons_zero ..
section
variable {P:Program} {ops:Array Oper} {Q:Exit→Act→World→Prop} {md:Region.Mode} {S:World→Prop} {n:Nat}
theorem tz(i:Nat){v:Value}{a':Act}{l':Array Bool}{oi:Oper}{fuel:Nat}{listed:Array Bool}{a:Act}{w:World}(h:Bu P md ops Q S n fuel l' a' w)
  (hi:ops[i]? =some oi:=by rfl) (hB:(Ja md ops n && F5 md ops n listed && Region.free md ops listed i && (Region.ready md ops listed).contains i && decide (i < n))=true:=by kernel_rfl)
  (hS:S w:=by assumption) (hw:Region.wanted oi (yielded ops a.tmps)=true:=by rfl)
  (hy:∀w,S w→(execOp a.eval oi).run P w= .ok (.value v) w:=by intro w' hSw;(try dsimp only at hSw);go_simp;try with_reducible rfl)
  (ha:a.put oi.dst v=a':=by (try simp only[Act.put,sA,sB,sC,sD,sE,sF]);rfl) (hl:listed.setIfInBounds i true=l':=by (try simp only[sA,sB,sC]);rfl)
  (hQ:∀c a w,Q (.panic c) (a.put oi.dst v) w→Q (.panic c) a w:=by exact fun _ _ _ h=>h):Bu P md ops Q S n (fuel+1) listed a w:=by
  subst ha;subst hl;exact AC hi hB hQ hS (.inl ⟨hw,hy⟩) h
theorem ty(ex:List Nat)(i:Nat){v:Value}{a':Act}{l':Array Bool}{oi:Oper}{fuel:Nat}{listed:Array Bool}{a:Act}{w:World}(h:Bu P md ops Q S n fuel l' a' w)
  (hi:ops[i]? =some oi:=by rfl) (hB:(Region.noSelect ops && QJ md ops n ex && Region.chainB md ops n && decide (n < ops.size) && (ex.all fun i=>listed.getD i false) && F5 md ops n listed && Region.free md ops listed i && (Region.ready md ops listed).contains i && decide (i < n))=true:=by kernel_rfl)
  (hS:S w:=by assumption) (hw:Region.wanted oi (yielded ops a.tmps)=true:=by rfl)
  (hy:∀w,S w→(execOp a.eval oi).run P w= .ok (.value v) w:=by intro w' hSw;(try dsimp only at hSw);go_simp;try with_reducible rfl)
  (ha:a.put oi.dst v=a':=by (try simp only[Act.put,sA,sB,sC,sD,sE,sF]);rfl) (hl:listed.setIfInBounds i true=l':=by (try simp only[sA,sB,sC]);rfl)
  (hQ:∀c a w,Q (.panic c) (a.put oi.dst v) w→Q (.panic c) a w:=by exact fun _ _ _ h=>h):Bu P md ops Q S n (fuel+1) listed a w:=by
  subst ha;subst hl;exact Js ex hi hB hQ hS (.inl ⟨hw,hy⟩) h
end
end Go.Proofs.YtijhlanclfajiaaGreatDoor
namespace Go.Proofs.YtijhlanclfajiaaGreatDoor.Ev
open Go Go.RowKit
structure St where
 fr:T AV
 h:T AB
 n:Nat
 ws:List Nat
def addW(ws us:List Nat):List Nat:=us.foldl (fun l x=>if l.contains x then l else x::l) ws
abbrev Gl:=FuncId→List AV→T AB→Nat→Option (AV×T AB×Nat×List Nat)
def ME(ops:Array Oper)(fr:T AV)(o:Oper):Option Bool:=match o.guard with
 |none=>some true
 |some (j,want)=>match (ops[j]?).bind (·.dst) with
   |none=>none
   |some d=>match fr.get d with
     |some (.v (.bool t))=>some (t==want)
     |some (.v (.tuple a))=>if a.isEmpty then some false else none
     |_=>none
def putA(m:Nat)(dst:Option Tmp)(a:AV)(s:St):Option St:=match dst with
 |none=>some s
 |some d=>if d < m then match T.put 12 s.fr d (some a) with
  |some fr=>some {s with fr:=fr}
  |none=>none
   else none
def Yl(call:Gl)(fr:T AV)(h:T AB)(n:Nat)(c:Call):Option (AV×T AB×Nat×List Nat):=match c.callee with
 | .value f=>match opnd fr f,GX fr c.args.toList with
   |some (.v (.func (.func g) a b)),some l=>if a.isEmpty && b.isEmpty then call g l h n else none
   |some (.fn g cs),some l=>call g (l++cs) h n
   |_,_=>none
 |_=>none
def WH(o:Oper):Bool:=match o.op with
 | .move _| .assign _| .pick .. | .binOp .. | .unOp .. | .convert .. | .index .. | .extract .. | .field .. | .nilCheck _| .fieldAddr .. | .indexAddr .. | .load .. | .lookup .. | .slice .. | .makeFunc .. | .build .. =>true
 | .call c=>match c.callee with
   | .builtin .len| .builtin .min| .builtin .max=>true
   |_=>false
 |_=>false
def evX(P:Program)(call:Gl)(m:Nat)(o:Oper)(s:St):Option St:=match (match o.op with
    | .call c=>match c.callee with
      | .value _=>Yl call s.fr s.h s.n c
      |_=>evW P s.h s.n s.fr o
    |_=>evW P s.h s.n s.fr o) with
 |some (a,h,n,ws)=>putA m o.dst a ⟨s.fr,h,n,addW s.ws ws⟩
 |none=>none
def evOp(P:Program)(call:Gl)(m:Nat)(ops:Array Oper)(o:Oper)(s:St):Option St:=match ME ops s.fr o with
 |some true=>if WH o then match evR P s.h s.fr o with
  |some a=>putA m o.dst a s
  |none=>none
   else evX P call m o s
 |some false=>putA m o.dst (.v undef) s
 |none=>none
def RH(P:Program)(call:Gl)(m:Nat)(ops:Array Oper):List Oper→St→Option St
 |[],s=>some s
 |o::os,s=>match evOp P call m ops o s with
   |some s=>RH P call m ops os s
   |none=>none
def plan(ops:Array Oper)(n:Nat):Nat→Array Bool→Option (List (Nat×Bool))
 |0,listed=>match Region.ready .any ops listed with
   |[]=>some []
   |_=>none
 |f+1,listed=>match Region.ready .any ops listed with
   |[]=>some []
   |r=>match r.find? fun i=>decide (i < n) && ((ops[i]?).any WH) && Region.free .any ops listed i with
     |some i=>(plan ops n f (listed.setIfInBounds i true)).map ((i,true):: ·)
     |none=>match r with
       |[i]=>(plan ops n f (listed.setIfInBounds i true)).map ((i,false):: ·)
       |_=>none
def QW(ops:Array Oper):Nat→Option (Nat×List (Nat×Bool))
 |0=>none
 |n+1=>if Ja .any ops n then match plan ops n ops.size (Array.replicate ops.size false) with
     |some p=>some (n,p)
     |none=>QW ops n
   else QW ops n
def Es(P:Program)(call:Gl)(m:Nat)(ops:Array Oper)(n n0:Nat):List (Nat×Bool)→List Nat→List Nat→St→Option (St×List Nat×List Nat)
 |[],rd,ws,s=>some (s,rd,ws)
 |(i,true)::p,rd,ws,s=>match ops[i]? with
   |none=>none
   |some o=>match ME ops s.fr o with
     |some true=>match evR P s.h s.fr o with
       |some a=>match putA m o.dst a s with
         |some s'=>if (looks s.fr o).all fun b=>decide (b < n0) then Es P call m ops n n0 p (addW rd (looks s.fr o)) ws s' else none
         |none=>none
       |none=>none
     |some false=>match putA m o.dst (.v undef) s with
       |some s'=>Es P call m ops n n0 p rd ws s'
       |none=>none
     |none=>none
 |(i,false)::p,rd,ws,s=>match ops[i]? with
   |none=>none
   |some o=>match evOp P call m ops o {s with ws:=[]} with
     |some s'=>Es P call m ops n n0 p rd (if i < n then addW ws s'.ws else ws) {s' with ws:=addW s.ws s'.ws}
     |none=>none
def Sg(P:Program)(call:Gl)(m:Nat)(ops:Array Oper)(s:St):Option St:=match QW ops ops.size with
 |none=>none
 |some (n,p)=>match Es P call m ops n s.n p [] [] s with
   |some (s',rd,ws)=>if rd.all fun b=> !ws.contains b then some s' else none
   |none=>none
inductive Ex where
 |normal
 |exit (id:Nat)
 |ret
def Pf(body:St→Option (Ex×St)):Nat→St→Option (Ex×St)
 |0,_=>none
 |k+1,s=>match body s with
   |some (.normal,s)=>Pf body k s
   |r=>r
def frame:List AV→Nat→T AV→Option (T AV)
 |[],_,t=>some t
 |a::l,k,t=>match T.put 12 t k (some a) with
   |some t=>frame l (k+1) t
   |none=>none
def resA(P:Program)(h:T AB)(fr:T AV):List ResultVar→Option (List AV)
 |[]=>some []
 | .tmp t::l=>match fr.get t,resA P h fr l with
   |some a,some r=>some (a::r)
   |_,_=>none
 | .cell x t::l=>match (fr.get x).bind (Tu P h t),resA P h fr l with
   |some a,some r=>some (a::r)
   |_,_=>none
def UG(P:Program)(sum:FuncId→Option (List AV→T AB→Nat→Option (AV×T AB×Nat×List Nat)))(ev:Nat→Code→St→Option (Ex×St)):Gl:=fun g l h n=>match sum g with
 |some f=>f l h n
 |none=>match P.funcs[g]? with
   |none=>none
   |some fn=>match fn.body,frame l 0 .lf with
     |some b,some fr=>if l.length≤fn.ntmps then match ev fn.ntmps b ⟨fr,h,n,[]⟩ with
      |some (.exit _,_)=>none
      |some (_,s)=>match resA P s.h s.fr fn.results.toList with
        |some [a]=>some (a,s.h,s.n,s.ws.filter (· < n))
        |some r=>some (.tup r,s.h,s.n,s.ws.filter (· < n))
        |none=>none
      |none=>none
       else none
     |_,_=>none
def Sc(P:Program)(call:Gl)(ev:Nat→Code→St→Option (Ex×St))(k m:Nat)(c:Code)(s:St):Option (Ex×St):=match c with
 | .skip| .label _=>some (.normal,s)
 | .region _ ops false=>match RH P call m ops ops.toList s with
   |some s=>some (.normal,s)
   |none=>none
 | .region _ ops true=>match Sg P call m ops s with
   |some s=>some (.normal,s)
   |none=>none
 | .seq a b=>match ev m a s with
   |some (.normal,s)=>ev m b s
   |r=>r
 | .cond x a b=>match opnd s.fr x with
   |some (.v (.bool t))=>ev m (if t then a else b) s
   |_=>none
 | .block id b=>match ev m b s with
   |some (.exit j,s)=>if j=id then some (.normal,s) else some (.exit j,s)
   |r=>r
 | .loop b=>Pf (ev m b) k s
 | .exit id=>some (.exit id,s)
 | .ret=>some (.ret,s)
 |_=>none
def evC(P:Program)(sum:FuncId→Option (List AV→T AB→Nat→Option (AV×T AB×Nat×List Nat))):Nat→Nat→Code→St→Option (Ex×St)
 |0=>fun _ _ _=>none
 |k+1=>Sc P (UG P sum (evC P sum k)) (evC P sum k) k
structure FR (E:En) (n:Nat) (fr:T AV) (a:Act) (m:Nat):Prop where
 size:a.tmps.size=m
 at_:∀t x,fr.get t=some x→t < m∧VR E n x (a.tmps.getD t undef)
 calm:a.defers=[]
def Hw(P:Program)(w0:World)(call:Gl):Prop:=∀g args h n a h' n' ws,call g args h n=some (a,h',n',ws)→
 (∃fn,P.funcs[g]? =some fn∧fn.body.isSome=true∧(fn.name== "runtime.NumGoroutine")=false)∧
 ∀E w xs,WR P w0 E n h w→VRs E n args xs→Calls P g xs.toArray w fun e w'=>∃E' y,e= .returned y∧VR E' n' a y∧Le E n E' n'∧WR P w0 E' n' h' w'∧Kp n ws h h'
section
variable {P:Program} {w0:World} {E E':En} {n n' m:Nat} {h h':T AB} {fr:T AV} {a:Act} {w w':World} {o:Oper} {ops:Array Oper}
theorem FR.mono(F:FR E n fr a m)(L:Le E n E' n'):FR E' n' fr a m:=⟨F.size,fun t x hx=>⟨(F.at_ t x hx).1,(F.at_ t x hx).2.mono L⟩,F.calm⟩
theorem FR.held(F:FR E n fr a m):Ops E n fr a.eval:=fun x av hx=>by
 cases x with
 |tmp t=>exact(F.at_ t av hx).2
 |const v=>cases hx;exact .v _
 |global g=>cases hx;exact .v _
 |func f=>cases hx;exact .v _
theorem FR.put(F:FR E n fr a m){x:AV}{y:Value}(hv:VR E n x y){dst:Option Tmp}{s s':St}(hs:s.fr=fr)(e:putA m dst x s=some s'):FR E n s'.fr (a.put dst y) m∧s'.h=s.h∧s'.n=s.n∧s'.ws=s.ws:=by
 unfold putA at e
 split at e
 ·cases e;exact⟨hs ▸ F,rfl,rfl,rfl⟩
 ·rename_i d
  split at e
  ·rename_i hd
   split at e
   ·rename_i fr' hp
    cases e;refine⟨⟨by simp[Act.put,F.size],fun t z hz=> ?_,F.calm⟩,rfl,rfl,rfl⟩;have hg:=T.get_put _ _ _ _ _ hp t;rw[hg] at hz
    split at hz
    ·rename_i e1
     cases hz;subst e1;refine⟨hd, ?_⟩;have:(a.put (some t) y).tmps.getD t undef=y:=by
      simp[Act.put,Array.getD,F.size,hd]
     rw[this];exact hv
    ·rename_i e1
     rw[hs] at hz;have h1:=F.at_ t z hz;refine⟨h1.1, ?_⟩;have:(a.put (some d) y).tmps.getD t undef=a.tmps.getD t undef:=by
      rw[Array.getD_eq_getD_getElem?,Array.getD_eq_getD_getElem?];show((a.tmps.setIfInBounds d y)[t]?).getD undef=_;rw[Array.getElem?_setIfInBounds_ne (Ne.symm e1)]
     rw[this];exact h1.2
   ·cases e
  ·cases e
theorem Gn(F:FR E n fr a m){t:Bool}(e:ME ops fr o=some t):Region.wanted o (yielded ops a.tmps)=t:=by
 unfold ME at e;unfold Region.wanted
 split at e
 ·rename_i hg;rw[hg];cases e;rfl
 ·rename_i j want hg
  rw[hg]
  split at e
  ·cases e
  ·rename_i d hd
   have hy:∀v,a.tmps.getD d undef=v→d < m→a.tmps[d]? =some v:=by
    rintro v rfl hlt;have:d < a.tmps.size:=by rw[F.size];exact hlt
    simp[Array.getD,this]
   split at e
   ·rename_i b hb
    cases e;obtain⟨h1,h2⟩:=F.at_ d _ hb;generalize hv:a.tmps.getD d undef=v at h2;cases h2;simp only[yielded,hd,Option.bind_some,hy _ hv h1];rfl
   ·rename_i b hb
    split at e
    ·cases e
     obtain⟨h1,h2⟩:=F.at_ d _ hb;generalize hv:a.tmps.getD d undef=v at h2;cases h2;simp only[yielded,hd,Option.bind_some,hy _ hv h1];rfl
    ·cases e
   ·cases e
theorem EE(us:List Nat):∀(ws:List Nat) (x:Nat),x∈addW ws us↔x∈ws∨x∈us:=by
 unfold addW
 induction us with
 |nil=>intro ws x;simp
 |cons u us ih=>
   intro ws x;rw[List.foldl_cons,ih];split
   ·rename_i hu
    have:u∈ws:=by simpa using hu
    constructor
    ·rintro(h|h)
     ·exact .inl h
     ·exact .inr (.tail _ h)
    ·rintro(h|h)
     ·exact .inl h
     ·rcases List.mem_cons.1 h with rfl|h
      ·exact .inl this
      ·exact .inr h
   ·simp only[List.mem_cons]
    constructor
    ·rintro((h|h)|h)
     ·exact .inr (.inl h)
     ·exact .inl h
     ·exact .inr (.inr h)
    ·rintro(h|h|h)
     ·exact .inl (.inr h)
     ·exact .inl (.inl h)
     ·exact .inr h
structure Sp (P:Program) (w0:World) (m:Nat) (E:En) (s:St) (E':En) (s':St) (a':Act) (w':World):Prop where
 le:Le E s.n E' s'.n
 wr:WR P w0 E' s'.n s'.h w'
 fr:FR E' s'.n s'.fr a' m
 kp:∃us,(∀x,x∈us→x∈s'.ws)∧(∀x,x∈s.ws→x∈s'.ws)∧Kp s.n us s.h s'.h
theorem Sp.trans{s s1 s2:St}{E1 E2:En}{a1 a2:Act}{w1 w2:World}(p:Sp P w0 m E s E1 s1 a1 w1)(q:Sp P w0 m E1 s1 E2 s2 a2 w2):Sp P w0 m E s E2 s2 a2 w2:=by
 obtain⟨us,h1,h2,h3⟩:=p.kp;obtain⟨vs,g1,g2,g3⟩:=q.kp;exact⟨p.le.trans q.le,q.wr,q.fr,us++vs,fun x hx=>by
  rcases List.mem_append.1 hx with h|h
  ·exact g2 _ (h1 _ h)
  ·exact g1 _ h,fun x hx=>g2 _ (h2 _ hx),h3.trans g3 p.le.n (fun x _ hx=>List.mem_append.2 (.inl hx)) (fun x _ hx=>List.mem_append.2 (.inr hx))⟩
theorem Sp.refl{s:St}(W:WR P w0 E s.n s.h w)(F:FR E s.n s.fr a m):Sp P w0 m E s E s a w:=⟨Le.refl _ _,W,F,[],fun _ h=>(by cases h),fun _ h=>h,Kp.refl _ _ _⟩
def Xk(P:Program)(ops:Array Oper)(o:Oper)(a:Act)(w:World)(K:Act→World→Prop)(Q:Exit→Act→World→Prop):Prop:=
 if Region.wanted o (yielded ops a.tmps)=true then o.wp P a w K Q else K (a.put o.dst undef) w
theorem ZF{call:Gl}(hC:Hw P w0 call){s s':St}(W:WR P w0 E s.n s.h w)(F:FR E s.n s.fr a m)(e:evX P call m o s=some s'){K:Act→World→Prop}{Q:Exit→Act→World→Prop}(hK:∀E' a' w',Sp P w0 m E s E' s' a' w'→K a' w'):o.wp P a w K Q:=by
 unfold evX at e
 split at e
 ·rename_i av h1 n1 ws1 hr
  have fin:∀E' y w',VR E' n1 av y→Le E s.n E' n1→WR P w0 E' n1 h1 w'→Kp s.n ws1 s.h h1→K (a.put o.dst y) w':=by
   intro E' y w' hy L W' K';obtain⟨F',q1,q2,q3⟩:=(F.mono L).put hy (s:=⟨s.fr,h1,n1,addW s.ws ws1⟩) rfl e;refine hK E' _ w' ⟨q2 ▸ L,by rw[q2,q1];exact W',by rw[q2];exact F',ws1,fun x hx=>by rw[q3];exact(EE _ _ _).2 (.inr hx),fun x hx=>by rw[q3];exact(EE _ _ _).2 (.inl hx),by rw[q1];exact K'⟩
  have hW:∀(hr:evW P s.h s.n s.fr o=some (av,h1,n1,ws1)),o.wp P a w K Q:=by
   intro hr;obtain⟨E',y,w',hrun,hy,L,W',K'⟩:=ZG (ρ:=a.eval) W F.held hr;unfold Oper.wp;rcases hrun with hrun|⟨rfl,hrun⟩
   ·simp only at hrun
    rw[hrun];exact fin E' y w' hy L W' K'
   ·simp only at hrun
    rw[hrun];exact fin E' undef w' hy L W' K'
  split at hr
  ·rename_i c hop
   split at hr
   ·rename_i f hcal
    have hgo:∀(g:FuncId) (cs:List AV) (l:List AV) (xs:List Value),a.eval f= .func (.func g) #[] xs.toArray→GX s.fr c.args.toList=some l→VRs E s.n cs xs→call g (l++cs) s.h s.n=some (av,h1,n1,ws1)→o.wp P a w K Q:=by
     intro g cs l xs hf hl hcs hcall;obtain⟨⟨fn,hfn,hb,hnm⟩,hCa⟩:=hC _ _ _ _ _ _ _ _ hcall;have hv:=F.held.all hl;have hrun:(execOp a.eval o).run P w= .ok (.enter g (c.args.toList.map a.eval++xs).toArray) w:=by
      unfold execOp;rw[hop];unfold resolve;simp only[hcal,hf,Deferred.ofValue,Sem.run_bind,Sem.run_pure,Result.andThen_ok,invoke,callFunc,run_program,hfn];rw[hnm];have hb2:fn.body.isNone=false:=by simpa using hb
      rw[hb2]
      simp[amap]
     unfold Oper.wp;rw[hrun];exact(hCa E w _ W (hv.append hcs)).mono fun e w' ⟨E',y,he,hy,L,W',K'⟩=>by
      subst he;exact fin E' y w' hy L W' K'
    unfold Yl at hr;rw[hcal] at hr;dsimp only at hr
    split at hr
    ·rename_i g p q l hf hl
     split at hr
     ·rename_i hemp
      rw[Bool.and_eq_true] at hemp;have hp:p= #[]:=by simpa using hemp.1
      have hq:q= #[]:=by simpa using hemp.2
      subst hp;subst hq;exact hgo g [] l [] (F.held.v hf) hl .nil (by simpa using hr)
     ·cases hr
    ·rename_i g cs l hf hl
     have h2:=F.held _ _ hf;generalize hv:a.eval f=v at h2;cases h2 with
     |fn h3=>exact hgo g cs l _ hv hl h3 hr
    ·cases hr
   ·exact hW hr
  ·exact hW hr
 ·cases e
theorem Pe{call:Gl}(hC:Hw P w0 call){s s':St}(W:WR P w0 E s.n s.h w)(F:FR E s.n s.fr a m)(e:evOp P call m ops o s=some s'){K:Act→World→Prop}{Q:Exit→Act→World→Prop}(hK:∀E' a' w',Sp P w0 m E s E' s' a' w'→K a' w'):Xk P ops o a w K Q:=by
 unfold evOp at e;unfold Xk
 split at e
 ·rename_i hw
  rw[if_pos (Gn F hw)]
  split at e
  ·split at e
   ·rename_i av hr
    obtain⟨y,hy,hrun⟩:=Sd (W.mem.l _) F.held hr;unfold Oper.wp;rw[hrun];obtain⟨F',q1,q2,q3⟩:=F.put hy rfl e;exact hK E _ w ⟨by rw[q2];exact Le.refl _ _,by rw[q1,q2];exact W,by rw[q2];exact F',[],fun _ h=>(by cases h),fun _ h=>q3 ▸ h,by rw[q1];exact Kp.refl _ _ _⟩
   ·cases e
  ·exact ZF hC W F e hK
 ·rename_i hw
  rw[if_neg (by rw[Gn F hw];exact Bool.false_ne_true)];obtain⟨F',q1,q2,q3⟩:=F.put (.v undef) rfl e;exact hK E _ w ⟨by rw[q2];exact Le.refl _ _,by rw[q1,q2];exact W,by rw[q2];exact F',[],fun _ h=>(by cases h),fun _ h=>q3 ▸ h,by rw[q1];exact Kp.refl _ _ _⟩
 ·cases e
end
theorem MR.uniq{E:En}{n:Nat}:∀{k:Nat} {es:List (Value×AV)} {fs gs:List MapEntry},MR E n k es fs→MR E n k es gs→fs=gs
 |_,_,_,_,.nil,.nil=>rfl
 |_,_,_,_,.cons h t,.cons h' t'=>by rw[VR.uniqs.1 h h',MR.uniq t t']
section
variable {P:Program} {w0:World} {E E0:En} {n n0 m:Nat} {h:T AB} {a:Act} {w:World} {ops:Array Oper} {call:Gl} {Q:Exit→Act→World→Prop}
theorem BR.back{o o0:Option Obj}{d:Nat}{ab:AB}(L:Le E0 n0 E n)(h:BR P E n o d ab)(g:BR P E0 n0 o0 d ab):BR P E0 n0 o d ab:=by
 cases ab with
 |cells l ty x=>
   obtain⟨xs,rest,e,hv,hr⟩:=h;obtain⟨xs0,rest0,e0,hv0,hr0⟩:=g;have:=VR.uniqs.2 hv (hv0.mono L);subst this;exact⟨_,rest,e,hv0,hr⟩
 |map es=>
   obtain⟨fs,e,hm⟩:=h;obtain⟨fs0,e0,hm0⟩:=g;have:=hm.uniq (hm0.mono L);subst this;exact⟨_,e,hm0⟩
theorem RG(hC:Hw P w0 call):∀(os:List Oper) (s:St) (E:En) (a:Act) (w:World) (s':St),WR P w0 E s.n s.h w→FR E s.n s.fr a m→RH P call m ops os s=some s'→(∀E' a' w',Sp P w0 m E s E' s' a' w'→Q .normal a' w')→wpList P ops Q os a w
 |[],s,E,a,w,s',W,F,e,hQ=>by
   unfold RH at e;cases e;exact hQ E a w (.refl W F)
 |o::os,s,E,a,w,s',W,F,e,hQ=>by
   unfold RH at e
   split at e
   ·rename_i s1 h1
    have:=Pe (Q:=Q) (K:=wpList P ops Q os) hC W F h1 fun E1 a1 w1 p=>RG hC os s1 E1 a1 w1 s' p.wr p.fr e fun E' a' w' q=>hQ E' a' w' (p.trans q);unfold Xk at this;unfold wpList;split
    ·rename_i hw
     rw[if_pos hw] at this;exact .inl this
    ·rename_i hw
     rw[if_neg hw] at this;exact this
   ·cases e
theorem Ed:∀{p:List (Nat×Bool)} {n n0:Nat} {rd ws:List Nat} {s s':St} {rd' ws':List Nat},Es P call m ops n n0 p rd ws s=some (s',rd',ws')→(∀x,x∈rd→x∈rd')∧∀x,x∈ws→x∈ws'
 |[],_,_,rd,ws,s,s',rd',ws',e=>by unfold Es at e;cases e;exact⟨fun _ h=>h,fun _ h=>h⟩
 |(i,true)::p,n,n0,rd,ws,s,s',rd',ws',e=>by
   unfold Es at e
   split at e
   ·cases e
   ·split at e
    ·split at e
     ·split at e
      ·split at e
       ·have:=Ed e
        exact⟨fun x hx=>this.1 x ((EE _ _ _).2 (.inl hx)),this.2⟩
       ·cases e
      ·cases e
     ·cases e
    ·split at e
     ·exact Ed e
     ·cases e
    ·cases e
 |(i,false)::p,n,n0,rd,ws,s,s',rd',ws',e=>by
   unfold Es at e
   split at e
   ·cases e
   ·split at e
    ·have:=Ed e
     refine⟨this.1,fun x hx=>this.2 x ?_⟩;split
     ·exact(EE _ _ _).2 (.inl hx)
     ·exact hx
    ·cases e
def Held(P:Program)(E0:En)(s0:St)(rd:List Nat)(w:World):Prop:=∀b ab,b∈rd→b < s0.n→s0.h.get b=some ab→BR P E0 s0.n w.heap[E0.r b]? (E0.d b) ab
theorem Held.of{s0 s:St}{rd:List Nat}(hM:Mem P E0 s0.n s0.h w){w':World}(L:Le E0 s0.n E s.n)(W:WR P w0 E s.n s.h w')(hk:∀b,b < s0.n→b∈rd→s.h.get b=s0.h.get b):Held P E0 s0 rd w':=fun b ab hb hlt h0=>by
 obtain⟨-,h2⟩:=W.mem b ab ((hk b hlt hb).trans h0);rw[L.r b hlt,L.d b hlt] at h2;exact h2.back L (hM b ab h0).2
theorem RU(hC:Hw P w0 call){s0:St}(hQp:∀c a w,¬Q (.panic c) a w){S0:World→Prop}{k0:Nat}{rdF wsF:List Nat}{s':St}:
 ∀(p:List (Nat×Bool)) (f:Nat) (listed:Array Bool) (rd ws:List Nat) (s:St) (E:En) (a:Act) (w:World),plan ops n f listed=some p→(∀j,j < n→listed.getD j false=true)→
   Es P call m ops n k0 p rd ws s=some (s',rdF,wsF)→Sp P w0 m E0 s0 E s a w→
   (∀E' a' w',Sp P w0 m E0 s0 E' s' a' w'→Q .normal a' w')→Bu P .any ops Q S0 n f listed a w
 |p,0,listed,rd,ws,s,E,a,w,hp,hI,e,S,hQ=>by
   unfold plan at hp
   split at hp
   ·rename_i hr
    cases hp;unfold Es at e;cases e;exact⟨hr,hQ E a w S⟩
   ·cases hp
 |p,f+1,listed,rd,ws,s,E,a,w,hp,hI,e,S,hQ=>by
   unfold plan at hp
   split at hp
   ·rename_i hr
    cases hp;unfold Es at e;cases e;exact⟨fun _=>hQ E a w S,fun i hi=>by rw[hr] at hi;cases hi⟩
   ·split at hp
    ·rename_i i hfind
     exfalso;have hmem:=List.mem_of_find?_eq_some hfind;have hprop:=List.find?_some hfind;simp only[Bool.and_eq_true,decide_eq_true_eq] at hprop;have:=hI i hprop.1.1;rw[getD_both (mem_ready.1 hmem).1] at this;cases this
    ·split at hp
     ·rename_i i hone
      cases hpl:plan ops n f (listed.setIfInBounds i true) with
      |none=>rw[hpl] at hp;cases hp
      |some p2=>
      rw[hpl] at hp;cases hp;have hmem:i∈Region.ready .any ops listed:=by rw[hone];exact List.mem_singleton.2 rfl
      have hin:¬i < n:=fun h=>by
       have:=hI i h;rw[getD_both (mem_ready.1 hmem).1] at this;cases this
      unfold Es at e
      split at e
      ·cases e
      ·rename_i o ho
       split at e
       ·rename_i s1 h1
        refine⟨fun h0=>(by rw[hone] at h0;cases h0),fun j hj=> ?_⟩;have:j=i:=by rw[hone] at hj;simpa using hj
        subst this;refine wpOp_step ho fun K' hK=> ?_;have:=Pe (ops:=ops) (Q:=Q) (K:=K') (s:={s with ws:=[]}) hC S.wr S.fr h1 fun E1 a1 w1 p1=>hK a1 w1 ?_
        ·exact this
        ·obtain⟨us,hu1,hu2,hu3⟩:=p1.kp
         have p2':Sp P w0 m E s E1 {s1 with ws:=addW s.ws s1.ws} a1 w1:=⟨p1.le,p1.wr,p1.fr,us,fun x hx=>(EE _ _ _).2 (.inr (hu1 x hx)),fun x hx=>(EE _ _ _).2 (.inl hx),hu3⟩;exact⟨fun h=>absurd h hin,RU hC hQp p2 f _ rd _ _ E1 a1 w1 hpl (fun q hq=>getD_set_true (hI q hq)) e (S.trans p2') hQ⟩
       ·cases e
     ·cases hp
theorem any_ok(hC:Hw P w0 call){s0:St}(hM0:Mem P E0 s0.n s0.h w)(hQp:∀c a w,¬Q (.panic c) a w)(hWt:Ym .any ops n)(hsel:Region.noSelect ops=true){rdF wsF:List Nat}(hdis:∀b,b∈rdF→b∉wsF){s':St}:
 ∀(p:List (Nat×Bool)) (f:Nat) (listed:Array Bool) (rd ws:List Nat) (s:St) (E:En) (a:Act) (w:World),plan ops n f listed=some p→(HeadInv .any ops n listed∨∀j,j < n→listed.getD j false=true)→
   Es P call m ops n s0.n p rd ws s=some (s',rdF,wsF)→Sp P w0 m E0 s0 E s a w→(∀b,b < s0.n→b∉ws→s.h.get b=s0.h.get b)→
   (∀E' a' w',Sp P w0 m E0 s0 E' s' a' w'→Q .normal a' w')→Bu P .any ops Q (Held P E0 s0 rdF) n f listed a w
 |p,0,listed,rd,ws,s,E,a,w,hp,hI,e,S,hk,hQ=>by
   unfold plan at hp
   split at hp
   ·rename_i hr
    cases hp;unfold Es at e;cases e;exact⟨hr,hQ E a w S⟩
   ·cases hp
 |p,f+1,listed,rd,ws,s,E,a,w,hp,hI,e,S,hk,hQ=>by
   have hmono:=Ed e;have hheld:Held P E0 s0 rdF w:=Held.of hM0 S.le S.wr fun b hb hr=>hk b hb fun hw=>hdis b hr (hmono.2 b hw);unfold plan at hp
   split at hp
   ·rename_i hr
    cases hp;unfold Es at e;cases e;exact⟨fun _=>hQ E a w S,fun i hi=>by rw[hr] at hi;cases hi⟩
   ·split at hp
    ·rename_i i hfind
     cases hpl:plan ops n f (listed.setIfInBounds i true) with
     |none=>rw[hpl] at hp;cases hp
     |some p2=>
     rw[hpl] at hp;cases hp;have hmem:=List.mem_of_find?_eq_some hfind;have hprop:=List.find?_some hfind;simp only[Bool.and_eq_true,decide_eq_true_eq] at hprop;obtain⟨⟨hin,hq⟩,hfree⟩:=hprop;have hun:=(mem_ready.1 hmem).1;have hI:HeadInv .any ops n listed:=by
      rcases hI with hI|hI
      ·exact hI
      ·have:=hI i hin
       rw[getD_both hun] at this;cases this
     unfold Es at e
     split at e
     ·cases e
     ·rename_i o ho
      have hpan:∀(v:Value) c (a:Act) w,Q (.panic c) (a.put o.dst v) w→Q (.panic c) a w:=fun v c a w h=>absurd h (hQp _ _ _)
      split at e
      ·rename_i hw
       split at e
       ·rename_i av hr
        split at e
        ·rename_i s1 hput
         split at e
         ·rename_i hlk
          have hlk:∀b,b∈looks s.fr o→b < s0.n:=fun b hb=>by simpa using List.all_eq_true.1 hlk b hb
          have hm2:=Ed e;have hrd:∀b,b∈looks s.fr o→b∈rdF:=fun b hb=>hm2.1 b ((EE _ _ _).2 (.inr hb));have hML:∀w',Held P E0 s0 rdF w'→MemL P E s.n s.h w' (looks s.fr o):=fun w' hh b ab hb hg=>by
           have hlt:=hlk b hb;have h0:s0.h.get b=some ab:=(hk b hlt fun hw=>hdis b (hrd b hb) (hm2.2 b hw)).symm.trans hg;have:=(hh b ab (hrd b hb) hlt h0).mono S.le;rw[←S.le.r b hlt,←S.le.d b hlt] at this;exact⟨Nat.lt_of_lt_of_le hlt S.le.n,this⟩
          obtain⟨y,hy,hrun⟩:=Sd (hML w hheld) S.fr.held hr;obtain⟨F',q1,q2,q3⟩:=S.fr.put hy rfl hput;refine Gm hWt hin ho (Region.noSelect_spec hsel) (hpan y) f listed a w hI (Region.free_spec ho hfree) hmem (.inl ⟨Gn S.fr hw,fun w' hh=> ?_⟩) hheld ?_
          ·obtain⟨y',hy',hrun'⟩:=Sd (hML w' hh) S.fr.held hr
           rw[VR.uniqs.1 hy hy'];exact hrun'
          ·exact any_ok hC hM0 hQp hWt hsel hdis p2 f _ _ ws s1 E _ w hpl (.inl (hI.set hmem hin)) e ⟨by rw[q2];exact S.le,by rw[q1,q2];exact S.wr,by rw[q2];exact F',by rw[q3,q1];exact S.kp⟩ (by rw[q1];exact hk) hQ
         ·cases e
        ·cases e
       ·cases e
      ·rename_i hw
       split at e
       ·rename_i s1 hput
        obtain⟨F',q1,q2,q3⟩:=S.fr.put (.v undef) rfl hput;refine Gm hWt hin ho (Region.noSelect_spec hsel) (hpan undef) f listed a w hI (Region.free_spec ho hfree) hmem (.inr ⟨Gn S.fr hw,rfl⟩) hheld ?_;exact any_ok hC hM0 hQp hWt hsel hdis p2 f _ rd ws s1 E _ w hpl (.inl (hI.set hmem hin)) e ⟨by rw[q2];exact S.le,by rw[q1,q2];exact S.wr,by rw[q2];exact F',by rw[q3,q1];exact S.kp⟩ (by rw[q1];exact hk) hQ
       ·cases e
      ·cases e
    ·split at hp
     ·rename_i i hone
      cases hpl:plan ops n f (listed.setIfInBounds i true) with
      |none=>rw[hpl] at hp;cases hp
      |some p2=>
      rw[hpl] at hp;cases hp;have hmem:i∈Region.ready .any ops listed:=by rw[hone];exact List.mem_singleton.2 rfl
      have hI3:¬i < n→∀j,j < n→(listed.setIfInBounds i true).getD j false=true:=by
       intro hin j hj;refine getD_set_true ?_;rcases hI with hI|hI
       ·cases hl:listed.getD j false with
        |true=>rfl
        |false=>
          have hjs:j < listed.size:=by rw[hI.size];have:=hWt.2.2;omega
          exact absurd hmem (tail_waits hWt.1 hWt.2.1 hWt.2.2 hI _ j rfl hj (getD_in hjs hl) i (Nat.le_of_not_lt hin))
       ·exact hI j hj
      have hI2:i < n→HeadInv .any ops n (listed.setIfInBounds i true)∨∀j,j < n→(listed.setIfInBounds i true).getD j false=true:=by
       intro hin;rcases hI with hI|hI
       ·exact .inl (hI.set hmem hin)
       ·exact .inr fun j hj=>getD_set_true (hI j hj)
      unfold Es at e
      split at e
      ·cases e
      ·rename_i o ho
       split at e
       ·rename_i s1 h1
        have hm2:=Ed e;refine⟨fun h0=>(by rw[hone] at h0;cases h0),fun j hj=> ?_⟩;have:j=i:=by rw[hone] at hj;simpa using hj
        subst this;refine wpOp_step ho fun K' hK=> ?_;have:=Pe (ops:=ops) (Q:=Q) (K:=K') (s:={s with ws:=[]}) hC S.wr S.fr h1 fun E1 a1 w1 p1=>hK a1 w1 ?_
        ·exact this
        ·obtain⟨us,hu1,hu2,hu3⟩:=p1.kp
         have p2':Sp P w0 m E s E1 {s1 with ws:=addW s.ws s1.ws} a1 w1:=⟨p1.le,p1.wr,p1.fr,us,fun x hx=>(EE _ _ _).2 (.inr (hu1 x hx)),fun x hx=>(EE _ _ _).2 (.inl hx),hu3⟩;have S1:=S.trans p2';have hk1:∀b,b < s0.n→b∉addW ws s1.ws→s1.h.get b=s0.h.get b:=fun b hb hn=>by
          rw[EE] at hn;exact(hu3 b (Nat.lt_of_lt_of_le hb S.le.n) fun hu=>hn (.inr (hu1 b hu))).trans (hk b hb fun hw=>hn (.inl hw))
         by_cases hin:j < n
         ·rw[if_pos hin] at e hm2
          refine⟨fun _=>Held.of hM0 S1.le S1.wr fun b hb hr=>hk1 b hb fun hw=>hdis b hr (hm2.2 b hw), ?_⟩;exact any_ok hC hM0 hQp hWt hsel hdis p2 f _ rd _ _ E1 a1 w1 hpl (hI2 hin) e S1 hk1 hQ
         ·rw[if_neg hin] at e
          refine⟨fun h=>absurd h hin,RU hC hQp p2 f _ rd ws _ E1 a1 w1 hpl (hI3 hin) e S1 hQ⟩
       ·cases e
     ·cases hp
end
abbrev SumF:=FuncId→Option (List AV→T AB→Nat→Option (AV×T AB×Nat×List Nat))
def Xh(P:Program)(w0:World)(sum:SumF):Prop:=∀g f,sum g=some f→Hw P w0 fun q l h n=>if q=g then f l h n else none
def Ps(P:Program):Bool:=P.funcs.all fun fn=> !(fn.name== "runtime.NumGoroutine")
def Ex.to:Ex→Exit
 | .normal=> .normal
 | .exit i=> .exit i
 | .ret=> .ret
section
variable {P:Program} {w0:World} {E:En} {n m:Nat} {h:T AB} {a:Act} {w:World} {ops:Array Oper} {call:Gl} {Q:Exit→Act→World→Prop}
theorem Mv:∀{k n:Nat} {p:List (Nat×Bool)},QW ops k=some (n,p)→Ja .any ops n=true∧plan ops n ops.size (Array.replicate ops.size false)=some p
 |k+1,n,p,e=>by
   unfold QW at e
   split at e
   ·rename_i hw
    split at e
    ·rename_i q hq
     cases e;exact⟨hw,hq⟩
    ·exact Mv e
   ·exact Mv e
theorem VM(hm:P.follows .mixedOrders=true)(hC:Hw P w0 call)(hQp:∀c a w,¬Q (.panic c) a w){s s':St}(W:WR P w0 E s.n s.h w)(F:FR E s.n s.fr a m)(e:Sg P call m ops s=some s'){id:Nat}(hQ:∀E' a' w',Sp P w0 m E s E' s' a' w'→Q .normal a' w'):(Code.region id ops true).wp P Q a w:=by
 unfold Sg at e
 split at e
 ·cases e
 ·rename_i n p hp
  split at e
  ·rename_i s1 rd ws he
   split at e
   ·rename_i hd
    cases e;obtain⟨hw,hpl⟩:=Mv hp;have hw2:=hw;unfold Ja at hw2;simp only[Bool.and_eq_true,decide_eq_true_eq] at hw2;have W':WR P w0 E s.n s.h w.drew:=W.heap rfl ⟨rfl,rfl,rfl⟩;refine Ay (Held P E s rd) n hm ?_;refine any_ok hC W'.mem hQp ⟨hw2.1.1.2,hw2.1.2,hw2.2⟩ hw2.1.1.1 (fun b hb hbw=> ?_) p _ _ [] [] s E a w.drew hpl (.inl ⟨by simp,fun j oj hj hl=> ?_,fun t ht htl=> ?_⟩) he (.refl W' F) (fun _ _ _=>rfl) hQ
    ·have:=List.all_eq_true.1 hd b hb
     simp[hbw] at this
    ·simp[Array.getD] at hl
    ·simp[Array.getD,htl]
   ·cases e
  ·cases e
theorem Ot{b:Code}{ev:St→Option (Ex×St)}(hQp:∀c a w,¬Q (.panic c) a w)(hb:∀(s:St) (E:En) (a:Act) (w:World) (e:Ex) (s':St) (Q:Exit→Act→World→Prop),(∀c a w,¬Q (.panic c) a w)→WR P w0 E s.n s.h w→FR E s.n s.fr a m→ev s=some (e,s')→(∀E' a' w',Sp P w0 m E s E' s' a' w'→Q e.to a' w')→b.wp P Q a w):
 ∀(k:Nat) (s:St) (E:En) (a:Act) (w:World) (e:Ex) (s':St),WR P w0 E s.n s.h w→FR E s.n s.fr a m→Pf ev k s=some (e,s')→(∀E' a' w',Sp P w0 m E s E' s' a' w'→Q e.to a' w')→
   ∀(fr:Frame) (k:List Item) (cs:List Frame),∃e a' w',Q e a' w'∧Arrives P (lone (fr.at a (.code b:: .inLoop b::k)) cs w) fr k cs e a' w'
 |0,s,E,a,w,e,s',W,F,he,hQ=>by cases he
 |j+1,s,E,a,w,e,s',W,F,he,hQ=>by
   intro fr k cs;unfold Pf at he
   split at he
   ·rename_i s1 h1
    obtain⟨x,a1,w1,⟨hx,E1,p1⟩,harr⟩:=hb s E a w .normal s1 (fun x a' w'=>x= .normal∧∃E',Sp P w0 m E s E' s1 a' w') (fun c a w h=>by cases h.1) W F h1 (fun E' a' w' p=>⟨rfl,E',p⟩) fr (.inLoop b::k) cs;subst hx;obtain⟨x,a2,w2,hq,harr2⟩:=Ot hQp hb j s1 E1 a1 w1 e s' p1.wr p1.fr he (fun E' a' w' q=>hQ E' a' w' (p1.trans q)) fr k cs;exact⟨x,a2,w2,hq,.of_steps (Steps.trans harr (.one step_inLoop)) harr2⟩
   ·rename_i hne
    obtain⟨x,a1,w1,⟨hx,E1,p1⟩,harr⟩:=hb s E a w e s' (fun x a' w'=>x=e.to∧∃E',Sp P w0 m E s E' s' a' w') (fun c a w h=>by cases e <;>cases h.1) W F he (fun E' a' w' p=>⟨rfl,E',p⟩) fr (.inLoop b::k) cs;subst hx;refine⟨_,a1,w1,hQ E1 a1 w1 p1, ?_⟩;cases e with
    |normal=>exact absurd he (hne s')
    |exit i=>exact .pass (x:= .inLoop b) rfl (fun _ _=> .inl (by simp[Ex.to])) harr
    |ret=>exact .pass (x:= .inLoop b) rfl (fun _ _=> .inl (by simp[Ex.to])) harr
theorem Q3:∀{l:List AV} {k:Nat} {t t':T AV},frame l k t=some t'→∀j x,t'.get j=some x→(k≤j∧j-k < l.length∧l[j-k]? =some x)∨t.get j=some x
 |[],k,t,t',e,j,x,hx=>by unfold frame at e;cases e;exact .inr hx
 |a::l,k,t,t',e,j,x,hx=>by
   unfold frame at e
   split at e
   ·rename_i t1 h1
    rcases Q3 e j x hx with⟨h2,h3,h4⟩|h2
    ·refine .inl ⟨by omega,by simp;omega, ?_⟩
     rw[show j-k=(j-(k+1))+1 by omega];simpa using h4
    ·rw[T.get_put _ _ _ _ _ h1] at h2
     split at h2
     ·rename_i hj
      subst hj;exact .inl ⟨Nat.le_refl _,by simp,by simpa using h2⟩
     ·exact .inr h2
   ·cases e
theorem Rv(hM:Mem P E n h w){fr:T AV}(F:FR E n fr a m):∀{l:List ResultVar} {r:List AV},resA P h fr l=some r→∃ys,VRs E n r ys∧(l.mapM (m:=Sem) fun
 | .tmp t=>pure (a.tmps.getD t undef)
 | .cell x t=>do loadVar t (←asAddr (a.tmps.getD x undef))).run P w= .ok ys w
 |[],_,e=>by unfold resA at e;cases e;exact⟨[],.nil,rfl⟩
 | .tmp t::l,r,e=>by
   unfold resA at e
   split at e
   ·rename_i x r1 hx hr
    cases e;obtain⟨ys,hv,hrun⟩:=Rv hM F hr;refine⟨_::ys,.cons (F.at_ t x hx).2 hv, ?_⟩;simp only[List.mapM_cons,Sem.run_bind,Sem.run_pure,Result.andThen_ok,hrun]
   ·cases e
 | .cell x t::l,r,e=>by
   unfold resA at e
   split at e
   ·rename_i av r1 hx hr
    cases e;obtain⟨ys,hv,hrun⟩:=Rv hM F hr;obtain⟨p,hp,hl⟩:=Option.bind_eq_some_iff.1 hx;obtain⟨ad,y,hpv,hy,hr2⟩:=Tt (fun b _ _=>hM.l [b]) (F.at_ x p hp).2 hl;refine⟨y::ys,.cons hy hv, ?_⟩;have ha:(asAddr (a.tmps.getD x undef)).run P w= .ok ad w:=by rw[hpv];rfl
    simp only[List.mapM_cons,Sem.run_bind,Sem.run_pure,Result.andThen_ok,ha,hr2,hrun]
   ·cases e
def EvOK(P:Program)(w0:World)(ev:Nat→Code→St→Option (Ex×St)):Prop:=∀m c s e s' E a w Q,(∀c a w,¬Q (.panic c) a w)→WR P w0 E s.n s.h w→FR E s.n s.fr a m→ev m c s=some (e,s')→(∀E' a' w',Sp P w0 m E s E' s' a' w'→Q e.to a' w')→c.wp P Q a w
theorem RO{sum:SumF}{ev:Nat→Code→St→Option (Ex×St)}(hN:Ps P=true)(hS:Xh P w0 sum)(hE:EvOK P w0 ev):Hw P w0 (UG P sum ev):=by
 intro g args h n a h' n' ws e;unfold UG at e
 split at e
 ·rename_i f hf
  exact hS g f hf g args h n a h' n' ws (by simpa using e)
 ·split at e
  ·cases e
  ·rename_i fn hfn
   split at e
   ·rename_i b fr hb hfr
    split at e
    ·rename_i hlen
     have hnm:(fn.name== "runtime.NumGoroutine")=false:=by
      have:=Array.all_eq_true_iff_forall_mem.1 hN fn (Array.mem_of_getElem? hfn);simpa using this
     refine⟨⟨fn,hfn,by rw[hb];rfl,hnm⟩,fun E w xs W hv=> ?_⟩;have hxl:=hv.length;have F:FR E n fr {tmps:=xs.toArray++Array.replicate (fn.ntmps-xs.toArray.size) undef,defers:=[]} fn.ntmps:=by
      refine⟨by simp;omega,fun t x hx=> ?_,rfl⟩;rcases Q3 hfr t x hx with⟨-,h2,h3⟩|h2
      ·rw[Nat.sub_zero] at h2 h3
       obtain⟨y,hy,hvy⟩:=hv.get h3;refine⟨by omega, ?_⟩;have:(xs.toArray++Array.replicate (fn.ntmps-xs.toArray.size) undef).getD t undef=y:=by
        rw[Array.getD_eq_getD_getElem?,Array.getElem?_append_left (by simp;omega)]
        simp[hy]
       rw[this];exact hvy
      ·cases h2
     refine calls_of_wp hfn hb ?_
     split at e
     ·cases e
     ·rename_i ex s1 hne hev
      split at e
      all_goals first|cases e|skip
      all_goals
       rename_i hr
       refine hE _ _ _ _ _ E _ w _ (fun c a w hh=>by
        obtain⟨_,_,_,he,_⟩:=hh;cases he) W F hev fun E' a' w' p=> ?_
       obtain⟨ys,hys,hrun⟩:=Rv p.wr.mem p.fr hr;have hyl:=hys.length;have hres:(fn.results.mapM (m:=Sem) fun
        | .tmp t=>pure (a'.tmps.getD t undef)
        | .cell x t=>do loadVar t (←asAddr (a'.tmps.getD x undef))).run P w'= .ok ys.toArray w':=by
        rw[Array.mapM_eq_mapM_toList,Sem.run_map,hrun];rfl
       have hr2:(results fn a'.tmps).run P w'= .ok (if h:ys.toArray.size=1 then ys.toArray[0] else .tuple ys.toArray) w':=by
        unfold results;rw[Sem.run_bind];exact(congrArg (fun r=>Result.andThen r _) hres).trans rfl
       obtain⟨us,hu1,hu2,hu3⟩:=p.kp;have hk:Kp n (s1.ws.filter (· < n)) h s1.h:=fun b hb hn=>hu3 b hb fun hu=>hn (List.mem_filter.2 ⟨hu1 b hu,by simpa using hb⟩);have hpost:∀(av:AV) (v:Value),(results fn a'.tmps).run P w'= .ok v w'→VR E' s1.n av v→bodyPost P fn (fun e w''=>∃E'' y,e= .returned y∧VR E'' s1.n av y∧Le E n E'' s1.n∧WR P w0 E'' s1.n s1.h w''∧Kp n (s1.ws.filter (· < n)) h s1.h) ex.to a' w':=by
        intro av v hv1 hv2;cases ex with
        |exit i=>exact(hne i rfl).elim
        |normal=>exact⟨p.fr.calm,v,hv1,E',v,rfl,hv2,p.le,p.wr,hk⟩
        |ret=>exact⟨p.fr.calm,v,hv1,E',v,rfl,hv2,p.le,p.wr,hk⟩
      ·cases hys with|cons h1 h2=>
       cases h2;exact hpost _ _ hr2 h1
      ·rename_i hne1
       refine hpost _ _ (hr2.trans (congrArg (fun v=>Result.ok v w') (dif_neg ?_))) (.tup hys);intro h1;simp only[List.size_toArray] at h1;rw[←hyl] at h1;obtain⟨a1,ha1⟩:=List.length_eq_one_iff.1 h1;exact hne1 a1 ha1
     ·cases e
    ·cases e
   ·cases e
theorem VL{ev:Nat→Code→St→Option (Ex×St)}(hm:P.follows .mixedOrders=true)(hC:Hw P w0 call)(hE:EvOK P w0 ev)(k:Nat):EvOK P w0 (Sc P call ev k):=by
 intro m c s e s' E a w Q hQp W F he hQ;unfold Sc at he
 split at he
 ·cases he;exact wp_skip (hQ E a w (.refl W F))
 ·cases he;exact wp_label (hQ E a w (.refl W F))
 ·split at he
  ·rename_i s1 h1
   cases he;exact wp_region_list (RG hC _ s E a w _ W F h1 hQ)
  ·cases he
 ·split at he
  ·rename_i s1 h1
   cases he;exact VM hm hC hQp W F h1 hQ
  ·cases he
 ·rename_i x y
  split at he
  ·rename_i s1 h1
   refine wp_seq (hE m x s .normal s1 E a w _ (fun c a w h=>hQp c a w h) W F h1 fun E1 a1 w1 p=> ?_);exact hE m y s1 e s' E1 a1 w1 Q hQp p.wr p.fr he fun E' a' w' q=>hQ E' a' w' (p.trans q)
  ·rename_i hne
   refine wp_seq (hE m x s e s' E a w _ (fun c a w h=>hQp c a w h) W F he fun E1 a1 w1 p=> ?_);cases e with
   |normal=>exact absurd he (hne s')
   |exit i=>exact hQ E1 a1 w1 p
   |ret=>exact hQ E1 a1 w1 p
 ·rename_i x y z
  split at he
  ·rename_i t hx
   exact wp_cond (F.held.v hx) (by
    cases t
    ·exact hE m z s e s' E a w Q hQp W F he hQ
    ·exact hE m y s e s' E a w Q hQp W F he hQ)
  ·cases he
 ·rename_i id b
  split at he
  ·rename_i j s1 h1
   refine wp_block (hE m b s (.exit j) s1 E a w _ (fun c a w h=>hQp c a w h) W F h1 fun E1 a1 w1 p=> ?_);show if j=id then Q .normal a1 w1 else Q (.exit j) a1 w1
   split at he
   ·rename_i hj
    rw[if_pos hj];cases he;exact hQ E1 a1 w1 p
   ·rename_i hj
    rw[if_neg hj];cases he;exact hQ E1 a1 w1 p
  ·rename_i hne
   refine wp_block (hE m b s e s' E a w _ (fun c a w h=>hQp c a w h) W F he fun E1 a1 w1 p=> ?_);cases e with
   |normal=>exact hQ E1 a1 w1 p
   |exit i=>exact absurd he (hne i s')
   |ret=>exact hQ E1 a1 w1 p
 ·rename_i b
  intro fr q cs;obtain⟨x,a1,w1,hq,harr⟩:=Ot hQp (fun s E a w e s' Q hQp W F h hQ=>hE m b s e s' E a w Q hQp W F h hQ) k s E a w e s' W F he hQ fr q cs;exact⟨x,a1,w1,hq,.of_steps (.one step_loop) harr⟩
 ·cases he;exact wp_exit (hQ E a w (.refl W F))
 ·cases he;exact wp_ret (hQ E a w (.refl W F))
 ·cases he
theorem Si{sum:SumF}(hm:P.follows .mixedOrders=true)(hN:Ps P=true)(hS:Xh P w0 sum):∀k,EvOK P w0 (evC P sum k)
 |0=>fun m c s e s' E a w Q hQp W F he hQ=>by cases he
 |k+1=>VL hm (RO hN hS (Si hm hN hS k)) (Si hm hN hS k) k
end
end Go.Proofs.YtijhlanclfajiaaGreatDoor.Ev
