/-
  A part of the proof.
-/
import Derived.Test.YtfgnfpdfohjopaaGreatDoorKgBI
import Derived.Test.YtfgnfpdfohjopaaGreatDoorKgAW
set_option linter.all false
set_option maxHeartbeats 0
set_option maxRecDepth 100000
namespace Hg
section
variable {l:List Row} (h:Rt l)
include h
theorem Rt.okN{x:Nat}{a:Node}(ha:rowM l x=some a):(a.kind=19→(Bj (rowM l) (abvR l) x a).length=a.kids.length)∧∀i t,(Bj (rowM l) (abvR l) x a)[i]? =some t→Bt (rowM l) (a.kids.getD i 0)=t:=by
 have:=h.okT ha;rw[Oh] at this;exact this
theorem Rt.some{x:Nat}(hx:1≤x∧x≤l.length):∃a,rowM l x=Option.some a∧ndAt (rowM l) x=a:=by
 obtain⟨a,ha⟩:=Option.isSome_iff_exists.1 ((h.trM.dom x).2 hx);exact⟨a,ha,BG ha⟩
theorem Rt.Tc{p k:Nat}{a b:Node}(hp:rowM l p=Option.some a)(hb:rowM l k=Option.some b)(hk:k∈a.kids)(h3:b.kind≠3)(ha3:3≤a.kind):abvR l k=abvR l p:=by
 have hlt:=(h.trM.kid p a hp k hk).1;obtain⟨_,_,fn,_,_,_,_,_,h1⟩:=h.inFn p a hp ha3;unfold abvR;rw[h1 (p+1) (by omega)];show abvL l (k+1) k=fn;unfold abvL;rw[if_neg (by omega),hb];dsimp only;rw[if_neg h3,(ML h.tr h.len h.pos hp hk).1];exact h1 k hlt
theorem Rt.wt:WT (ndAt (rowM l)) (Bt (rowM l)) (fun id=>l.length-id) (fun id=>1≤id∧id≤l.length):=by
 have hT:=h.trM;have K:∀{x:Nat} {a:Node},rowM l x=Option.some a→CF (rowM l) a:=fun ha=>h.kids ha;have kkE:∀(n:Node) (i:Nat),kk (rowM l) n i=(ndAt (rowM l) (n.k i)).kind:=fun n i=>rfl;have hW:∀{x:Nat} {a:Node},rowM l x=Option.some a→∀i t,(Bj (rowM l) (abvR l) x a)[i]? =Option.some t→Bt (rowM l) (a.k i)=t:=fun ha i t ht=>(h.okN ha).2 i t ht;have ex:∀{n:Node},exP n.kind→isE n:=fun e=>e;refine⟨fun id hid k hk=> ?_,fun id hid h14=> ?_,fun id hid h15=> ?_,fun id hid h16=> ?_,fun id hid h17=> ?_,fun id hid h18=> ?_,fun id hid h19=> ?_,fun id hid h1=> ?_,fun id hid h3=> ?_,fun id hid h5 k hk=> ?_,fun id hid h6 h12=> ?_,fun id hid h6=> ?_,fun id hid h7=> ?_,fun id hid h8=> ?_,fun id hid h9=> ?_,fun id hid h89 k hk i hi=> ?_⟩
 ·obtain⟨a,ha,e⟩:=h.some hid
  rw[e] at hk;have:=hT.kid id a ha k hk;exact⟨by omega,by show l.length-k < l.length-id;omega⟩
 ·obtain⟨a,ha,e⟩:=h.some hid
  rw[e] at h14⊢;obtain⟨r,_,_,rfl,ho⟩:=h.row ha;have:=ho.num14 h14;unfold isB;omega
 ·show Bt (rowM l) id=_
  unfold Bt;rw[if_neg (by omega),if_neg (by omega),if_neg (by omega),if_pos (.inl h15)]
 ·obtain⟨a,ha,e⟩:=h.some hid
  rw[e] at h16⊢;have hk:=K ha;unfold CF at hk;simp only[kkE] at hk;have hw:=hW ha 0 2 (by unfold Bj;rw[if_neg (by omega),if_neg (by omega),if_pos (by omega)];rfl);obtain⟨l1,l2⟩:a.kids.length=1∧exP (ndAt (rowM l) (a.k 0)).kind:=by
   rcases hk with⟨a1,_⟩|⟨a1,_⟩|⟨a1,_⟩|⟨a1,_⟩|⟨a1,_⟩|⟨a1,_⟩|⟨a1,_⟩|⟨a1,_⟩|⟨_,a2,a3⟩|⟨a1,_⟩|⟨a1,_⟩|⟨a1,_⟩ <;>first|exact⟨a2,a3⟩|(exfalso;omega)
  exact⟨l1,ex l2,hw⟩
 ·obtain⟨a,ha,e⟩:=h.some hid
  have ht:Bt (rowM l) id=1:=by unfold Bt;rw[if_pos (by omega)]
  rw[e] at h17⊢;have hk:=K ha;unfold CF at hk;simp only[kkE] at hk;obtain⟨l1,l2⟩:a.kids.length=1∧exP (ndAt (rowM l) (a.k 0)).kind:=by
   rcases hk with⟨a1,_⟩|⟨a1,_⟩|⟨a1,_⟩|⟨a1,_⟩|⟨a1,_⟩|⟨a1,_⟩|⟨a1,_⟩|⟨a1,_⟩|⟨_,a2,a3⟩|⟨a1,_⟩|⟨a1,_⟩|⟨a1,_⟩ <;>first|exact⟨a2,a3⟩|(exfalso;omega)
  exact⟨l1,ex l2,ht⟩
 ·obtain⟨a,ha,e⟩:=h.some hid
  have ht:a.num≤5→Bt (rowM l) id=1:=fun h5=>by unfold Bt;rw[e] at h18⊢;rw[if_neg (by omega),if_neg (by omega),if_pos h18,if_pos h5]
  rw[e] at h18⊢;have hk:=K ha;unfold CF at hk;simp only[kkE] at hk;obtain⟨l1,l2,l3⟩:a.kids.length=2∧exP (ndAt (rowM l) (a.k 0)).kind∧exP (ndAt (rowM l) (a.k 1)).kind:=by
   rcases hk with⟨a1,_⟩|⟨a1,_⟩|⟨a1,_⟩|⟨a1,_⟩|⟨a1,_⟩|⟨a1,_⟩|⟨a1,_⟩|⟨a1,_⟩|⟨a1,_⟩|⟨_,a2,a3,a4⟩|⟨a1,_⟩|⟨a1,_⟩ <;>first|exact⟨a2,a3,a4⟩|(exfalso;omega)
  obtain⟨r,_,_,rfl,ho⟩:=h.row ha;have hn:=ho.num18 h18;refine⟨l1,ex l2,ex l3,hn.1,hn.2,ht,fun h12=> ?_⟩;have w:Bj (rowM l) (abvR l) id r.node=[2,2]:=by
   unfold Bj JF;rw[if_neg (by omega),if_neg (by omega),if_neg (by omega),if_neg (by omega),if_neg (by omega),if_pos h18,if_neg (by omega),if_neg (by omega)]
  exact⟨hW ha 0 2 (by rw[w];rfl),hW ha 1 2 (by rw[w];rfl)⟩
 ·obtain⟨a,ha,e⟩:=h.some hid
  have ht:Bt (rowM l) id=(ndAt (rowM l) a.ref).type:=by unfold Bt;rw[e] at h19⊢;rw[if_neg (by omega),if_neg (by omega),if_neg (by omega),if_pos (by omega)]
  rw[e] at h19⊢;have hk:=K ha;unfold CF at hk;simp only[kkE] at hk;have hex:∀i,i < a.kids.length→exP (ndAt (rowM l) (a.k i)).kind:=by
   rcases hk with⟨a1,_⟩|⟨a1,_⟩|⟨a1,_⟩|⟨a1,_⟩|⟨a1,_⟩|⟨a1,_⟩|⟨a1,_⟩|⟨a1,_⟩|⟨a1,_⟩|⟨a1,_⟩|⟨_,a2⟩|⟨a1,_⟩ <;>first|exact a2|(exfalso;omega)
  have hpt:=h.parts ha;have h3:(ndAt (rowM l) a.ref).kind=3∧a.ref≠0:=by
   obtain⟨_,_,hp⟩:=hpt;rcases hp with⟨a1,_⟩|⟨a1,_⟩|⟨a1,_⟩|⟨_,_,_,_,a5,a6⟩|⟨a1,_⟩|⟨a1,_⟩|⟨a1,_⟩|⟨a1,_⟩ <;>first|exact⟨a6,a5⟩|(exfalso;omega)
  have hrf:=h.ref ha;obtain⟨f,hf,ef⟩:=h.some (x:=a.ref) (by omega);have hkf:=K hf;rw[ef] at h3⊢;unfold CF at hkf;simp only[kkE] at hkf;obtain⟨p0,pa,pl⟩:0 < f.kids.length∧(∀i,i < f.kids.length-1→(ndAt (rowM l) (f.k i)).kind=4)∧(ndAt (rowM l) (f.k (f.kids.length-1))).kind=5:=by
   rcases hkf with⟨a1,_⟩|⟨a1,_⟩|⟨_,a2,a3,a4⟩|⟨a1,_⟩|⟨a1,_⟩|⟨a1,_⟩|⟨a1,_⟩|⟨a1,_⟩|⟨a1,_⟩|⟨a1,_⟩|⟨a1,_⟩|⟨a1,_⟩ <;>first|exact⟨a2,a3,a4⟩|(exfalso;omega)
  have hw:Bj (rowM l) (abvR l) id a=(CO (rowM l) a.ref 4).map fun p=>(ndAt (rowM l) p).type:=by
   unfold Bj;rw[if_neg (by omega),if_neg (by omega),if_neg (by omega),if_neg (by omega),if_neg (by omega),if_neg (by omega),if_pos h19]
  have hkk:CO (rowM l) a.ref 4=f.kids.take (f.kids.length-1):=by
   rw[FI l a.ref 4 (by decide),←Ae,ef];have hsp:f.kids=f.kids.take (f.kids.length-1)++f.kids.drop (f.kids.length-1):=(List.take_append_drop _ _).symm;have hd:f.kids.drop (f.kids.length-1)=[f.k (f.kids.length-1)]:=by
    rw[Aw (by omega),List.drop_eq_nil_of_le (by omega)];unfold Node.k
    simp[List.getD,AY (show f.kids.length-1 < f.kids.length by omega)]
   rw[hsp,List.filter_append,hd];have e1:(f.kids.take (f.kids.length-1)).filter (fun k=>kindOf l k==4)=f.kids.take (f.kids.length-1):=by
    rw[List.filter_eq_self];intro k hk;obtain⟨i,hi,rfl⟩:=List.mem_take_iff_getElem.1 hk;have:=pa i (by omega);unfold kindOf;rw[←Ae];unfold Node.k at this;rw[List.getD_eq_getElem?_getD,AY (by omega)] at this;simpa using this
   have e2:([f.k (f.kids.length-1)]:List Nat).filter (fun k=>kindOf l k==4)=[]:=by
    unfold kindOf;simp only[List.filter_cons,←Ae,pl];rfl
   rw[e1,e2,List.append_nil];rw[←hd,←hsp]
  have hlen:=(h.okN ha).1 h19;rw[hw,List.length_map,hkk,List.length_take] at hlen;refine⟨by omega,h3.1,by omega,by rw[ht,ef],fun k hk=> ?_,fun i hi=> ?_⟩
  ·obtain⟨i,hi,rfl⟩:=List.getElem_of_mem hk
   have:=hex i hi;unfold Node.k at this;rw[List.getD_eq_getElem?_getD,AY hi] at this;exact ex (by simpa using this)
  ·refine hW ha i _ ?_
   rw[hw,hkk,List.getElem?_map,List.getElem?_take,if_pos (by omega),AY (by omega)];unfold Node.k
   simp[List.getD,AY (show i < f.kids.length by omega)]
 ·show Bt (rowM l) id=1
  unfold Bt;rw[if_pos (by omega)]
 ·obtain⟨a,ha,e⟩:=h.some hid
  rw[e] at h3⊢;have hk:=K ha;unfold CF at hk;simp only[kkE] at hk;obtain⟨p0,pl⟩:0 < a.kids.length∧(ndAt (rowM l) (a.k (a.kids.length-1))).kind=5:=by
   rcases hk with⟨a1,_⟩|⟨a1,_⟩|⟨_,a2,a3,a4⟩|⟨a1,_⟩|⟨a1,_⟩|⟨a1,_⟩|⟨a1,_⟩|⟨a1,_⟩|⟨a1,_⟩|⟨a1,_⟩|⟨a1,_⟩|⟨a1,_⟩ <;>first|exact⟨a2,a4⟩|(exfalso;omega)
  refine⟨p0,pl,fun i hi h10=> ?_⟩;have hbm:a.k (a.kids.length-1)∈a.kids:=Node.Dy (by omega);generalize a.k (a.kids.length-1)=bk at pl hi hbm;have hb1:=hT.kid id a ha bk hbm;obtain⟨b,hb,eb⟩:=h.some (x:=bk) (by omega);rw[eb] at hi pl;have hi1:=hT.kid bk b hb i hi;obtain⟨c,hc,ec⟩:=h.some (x:=i) (by omega);rw[ec] at h10⊢;have a1:=h.Tc ha hb hbm (by omega) (by omega);have a2:=h.Tc hb hc hi (by omega) (by omega);have a3:abvR l id=id:=by unfold abvR abvL;rw[if_neg (by omega),ha];dsimp only;rw[if_pos h3]
  have hw:=hW hc 0 (ndAt (rowM l) (abvR l i)).type (by unfold Bj;rw[if_neg (by omega),if_neg (by omega),if_neg (by omega),if_neg (by omega),if_pos h10];rfl);rw[hw,a2,a1,a3,e]
 ·obtain⟨a,ha,e⟩:=h.some hid
  rw[e] at h5 hk;obtain⟨j,hj⟩:=List.getElem?_of_mem hk;obtain⟨hlt,hje⟩:=Ai.1 hj;have hK:=K ha;have hkj:(ndAt (rowM l) k).kind=kk (rowM l) a j:=by unfold kk;simp[List.getD,hj]
  rw[hkj];unfold CF at hK;rcases hK with⟨a1,_⟩|⟨a1,_⟩|⟨a1,_⟩|⟨_,a2⟩|⟨_,a2,a3,a4⟩|⟨a1,_⟩|⟨a1,_⟩|⟨a1,_⟩|⟨a1,_⟩|⟨a1,_⟩|⟨a1,_⟩|⟨a1,_⟩
  all_goals first
   |(exfalso;omega)
   |skip
  by_cases ej:j=a.kids.length-1
  ·rw[ej];unfold stP at a4;omega
  ·have:=a3 j (by omega);unfold stP at this;omega
 ·obtain⟨a,ha,e⟩:=h.some hid
  rw[e] at h6 h12⊢;have hk:=K ha;unfold CF at hk;simp only[kkE] at hk;rcases hk with⟨a1,_⟩|⟨a1,_⟩|⟨a1,_⟩|⟨a1,_⟩|⟨a1,_⟩|⟨_,a2,a3,_⟩|⟨_,a2,a3,_⟩|⟨_,a2,a3⟩|⟨_,a2,a3⟩|⟨a1,_⟩|⟨a1,_⟩|⟨a1,_⟩
  all_goals first
   |(exfalso;omega)
   |exact⟨by omega,ex a3⟩
   |exact⟨by omega,by unfold isE;omega⟩
 ·obtain⟨a,ha,e⟩:=h.some hid
  rw[e] at h6⊢;exact hW ha 0 _ (by unfold Bj;rw[if_pos h6];rfl)
 ·obtain⟨a,ha,e⟩:=h.some hid
  rw[e] at h7⊢;exact hW ha 0 _ (by unfold Bj;rw[if_neg (by omega),if_pos h7];rfl)
 ·obtain⟨a,ha,e⟩:=h.some hid
  rw[e] at h8⊢;have hk:=K ha;unfold CF at hk;simp only[kkE] at hk;have hw:=hW ha 0 2 (by unfold Bj;rw[if_neg (by omega),if_neg (by omega),if_pos (by omega)];rfl);rcases hk with⟨a1,_⟩|⟨a1,_⟩|⟨a1,_⟩|⟨a1,_⟩|⟨a1,_⟩|⟨_,a2,a3,a4,a5⟩|⟨a1,_⟩|⟨a1,_⟩|⟨a1,_⟩|⟨a1,_⟩|⟨a1,_⟩|⟨a1,_⟩
  all_goals first
   |(exfalso;omega)
   |exact⟨a2,hw,a4,a5⟩
 ·obtain⟨a,ha,e⟩:=h.some hid
  rw[e] at h9⊢;have hk:=K ha;unfold CF at hk;simp only[kkE] at hk;rcases hk with⟨a1,_⟩|⟨a1,_⟩|⟨a1,_⟩|⟨a1,_⟩|⟨a1,_⟩|⟨a1,_⟩|⟨_,a2,a3,a4⟩|⟨a1,_⟩|⟨a1,_⟩|⟨a1,_⟩|⟨a1,_⟩|⟨a1,_⟩
  all_goals first
   |(exfalso;omega)
   |exact⟨a2,a4⟩
 ·obtain⟨a,ha,e⟩:=h.some hid
  rw[e] at h89 hk;have hk1:=hT.kid id a ha k hk;obtain⟨b,hb,eb⟩:=h.some (x:=k) (by omega);rw[eb] at hi⊢;by_cases h5:b.kind=5
  ·left
   intro h10;have hrt:=SI h.tr h.len h.pos (r:=⟨k,b⟩) (by
    obtain⟨r,hr,e1,e2,_⟩:=h.row hb;have:r=⟨k,b⟩:=by cases r;simp at e1 e2;subst e1;subst e2;rfl
    rw[←this];exact hr) (by
    obtain⟨r,hr,e1,e2,ho⟩:=h.row hb;have:r=⟨k,b⟩:=by cases r;simp at e1 e2;subst e1;subst e2;rfl
    rw[←this];exact ho) h5
   unfold JC at hrt;rw[(ML h.tr h.len h.pos ha hk).1,e,beq_iff_eq] at hrt;have h3:(a.kind==3)=false:=by rw[beq_eq_false_iff_ne];omega
   rw[h3] at hrt;obtain⟨j,hj⟩:=List.getElem?_of_mem hi;obtain⟨hlt,hje⟩:=Ai.1 hj;have hkj:(ndAt (rowM l) i).kind=kk (rowM l) b j:=by unfold kk;simp[List.getD,hj]
   rw[hkj] at h10;have hK:=K hb;unfold CF at hK;rcases hK with⟨a1,_⟩|⟨a1,_⟩|⟨a1,_⟩|⟨_,a2⟩|⟨_,a2,a3,a4⟩|⟨a1,_⟩|⟨a1,_⟩|⟨a1,_⟩|⟨a1,_⟩|⟨a1,_⟩|⟨a1,_⟩|⟨a1,_⟩
   all_goals first
    |(exfalso;omega)
    |skip
   by_cases ej:j=b.kids.length-1
   ·rcases List.eq_nil_or_concat b.kids with hn|⟨ks,q,hn⟩
    ·rw[hn] at hi;simp at hi
    ·rw[List.concat_eq_append] at hn
     dsimp only at hrt;rw[hn,Md] at hrt;have hq:kk (rowM l) b j=(ndAt (rowM l) q).kind:=by unfold kk;rw[ej,hn];simp
     rw[hq] at h10;rw[h10] at hrt;cases hrt
   ·have:=a3 j (by omega);unfold stP at this;omega
  ·exact .inr h5
theorem Rt.call:∃b,rowM l (DL (rowM l))=Option.some b∧b.kind=3∧b.kids.length=1∧1≤DL (rowM l)∧DL (rowM l)≤l.length:=by
 obtain⟨f,b,e,_,hb,h3,_,hp⟩:=h.main;rw[e];have hd:=(h.trM.dom f).1 (by rw[hb];rfl);refine⟨b,hb,h3, ?_,hd⟩;have hk:=h.kids hb;unfold CF at hk;have hk:0 < b.kids.length∧(∀i,i < b.kids.length-1→kk (rowM l) b i=4):=by
  rcases hk with⟨a1,_⟩|⟨a1,_⟩|⟨_,a2,a3,a4⟩|⟨a1,_⟩|⟨a1,_⟩|⟨a1,_⟩|⟨a1,_⟩|⟨a1,_⟩|⟨a1,_⟩|⟨a1,_⟩|⟨a1,_⟩|⟨a1,_⟩ <;>first|exact⟨a2,a3⟩|(exfalso;omega)
 rcases Nat.lt_or_ge 1 b.kids.length with h1|h1
 ·exfalso
  have h0:=hk.2 0 (by omega);rw[←Kn] at h0;have hm:b.kids.getD 0 0∈(AO l f).kids.filter fun k=>kindOf l k==4:=by
   rw[←Ae,BG hb];refine List.mem_filter.2 ⟨?_,by simpa using h0⟩;rw[List.getD_eq_getElem?_getD,AY (by omega)];exact List.getElem_mem _
  have:(BF l f)≠[]:=by
   unfold BF;intro e;rw[List.map_eq_nil_iff] at e;rw[e] at hm;simp at hm
  exact this hp
 ·omega
end
def Pot{α:Type}(a b c k:Nat)(t:IT α):Prop:=∀F inp s r,t.run F inp s=some r→a*r.2.trace.length+b*r.2.rd+c*s.used≤a*s.trace.length+b*s.rd+c*r.2.used+k
section
variable {a b c:Nat}
theorem Pot.mono{α:Type}{j k:Nat}{t:IT α}(h:Pot a b c j t)(hk:j≤k):Pot a b c k t:=fun F inp s r hr=>by
 have:=h F inp s r hr;omega
theorem Pot.ret{α:Type}{k:Nat}{x:α}:Pot a b c k (.ret x):=fun F inp s r h=>by
 injection h with h;subst h;exact Nat.le_add_right _ _
theorem Pot.bot{α:Type}{k:Nat}:Pot a b c k (.bot:IT α):=fun F inp s r h=>by cases h
theorem Pot.trap{α:Type}{k:Nat}:Pot a b c k (.trap:IT α):=fun F inp s r h=>by
 injection h with h;subst h;exact Nat.le_add_right _ _
theorem Pot.burn{α:Type}{k:Nat}{t:IT α}(h:Pot a b c (k+c) t):Pot a b c k (.burn t):=fun F inp s r hr=>by
 unfold IT.run at hr;by_cases hf:F≤s.used
 ·rw[if_pos hf] at hr;injection hr with hr;subst hr;exact Nat.le_add_right _ _
 ·rw[if_neg hf] at hr
  have:a*r.2.trace.length+b*r.2.rd+c*(s.used+1)≤a*s.trace.length+b*s.rd+c*r.2.used+(k+c):=h F inp _ r hr;rw[Nat.mul_succ] at this;omega
theorem Pot.tell{α:Type}{k:Nat}{x:Int}{t:IT α}(h:Pot a b c k t):Pot a b c (k+a) (.tell x t):=fun F inp s r hr=>by
 have:a*r.2.trace.length+b*r.2.rd+c*s.used≤a*(s.trace++[x]).length+b*s.rd+c*r.2.used+k:=h F inp _ r hr;rw[List.length_append,List.length_singleton,Nat.mul_succ] at this;omega
theorem Pot.read{α:Type}{k:Nat}{f:Int→IT α}(h:∀x,Pot a b c k (f x)):Pot a b c (k+b) (.read f):=fun F inp s r hr=>by
 have:a*r.2.trace.length+b*r.2.rd+c*s.used≤a*s.trace.length+b*(s.rd+1)+c*r.2.used+k:=h (inp.getD s.rd 0) F inp {s with rd:=s.rd+1} r hr;rw[Nat.mul_succ] at this;omega
theorem Pot.bind{α β:Type}{j k:Nat}{t:IT α}{f:α→IT β}(h:Pot a b c j t)(hf:∀x,Pot a b c k (f x)):Pot a b c (j+k) (t.bind f):=fun F inp s r hr=>by
 rw[IT.run_bind] at hr;cases ht:t.run F inp s with
 |none=>rw[ht] at hr;cases hr
 |some p=>
   obtain⟨o,s1⟩:=p;rw[ht] at hr;have h1:=h F inp s _ ht;cases o with
   |none=>injection hr with hr;subst hr;omega
   |some x=>
     have h2:=hf x F inp s1 r hr;dsimp only at h1;omega
theorem Pot.thn{k:Nat}{t:IT FO}{f:FO→IT FO}(h:Pot a b c k t)(hf:∀x,Pot a b c 0 (f x)):Pot a b c k (t.bind f):=Pot.bind (k:=0) h hf
theorem Pot.seqT{f:Nat→IT FO}{z:Nat→Nat}:∀l:List Nat,(∀k∈l,Pot a b c (z k) (f k))→Pot a b c ((l.map z).sum) (seqT f l)
 |[],_=>Pot.ret
 |k::l,h=>Pot.bind (h k (by simp)) fun _=>Pot.bind (k:=0) (Pot.seqT l fun j hj=>h j (by simp[hj])) fun _=>Pot.ret
theorem Pot.seqU{f:Nat→FV→IT FO}:∀(l:List Nat) o V,(∀k∈l,∀V,Pot a b c 0 (f k V))→Pot a b c 0 (seqU f l o V)
 |[],_,_,_=>Pot.ret
 |i::l,_,V,h=>Pot.thn (h i (by simp) V) fun _=>Pot.seqU l _ _ fun j hj=>h j (by simp[hj])
def TOk(P:Nat→Prop):FT→Prop
 | .expr _ id=>P id
 | .call f _=>P f
 | .block id _=>P id
 | .stmt id _=>P id
 | .loop c b _=>P c∧P b
def twt(z:Nat→Nat):FT→Nat
 | .expr _ id=>z id
 |_=>0
theorem VO{l:List Nat}(h:l.length=2):∃x y,l=[x,y]:=by
 match l,h with
 |[x,y],_=>exact⟨x,y,rfl⟩
theorem NV{nd:Nat→Node}{P:Nat→Prop}{z:Nat→Nat}(hk:∀id,P id→∀k∈(nd id).kids,P k)(hr:∀id,P id→(nd id).kind=19→P (nd id).ref)(hz:∀id,P id→((nd id).kids.map z).sum+b≤z id)(hc:∀id,P id→z id+a≤c):
 ∀d t,TOk P t→Pot a b c (twt z t) (Ak nd d t)
 |0,_,_=>Pot.bot
 |d+1,t,ht=>by
   have ih:=NV hk hr hz hc d;show Pot a b c (twt z t) (BM nd (Ak nd d) t);cases t with
   |expr V id=>
     have hP:P id:=ht;have hzi:=hz id hP;have hm:∀i,i < (nd id).kids.length→P ((nd id).k i):=fun i hi=>hk id hP _ (Node.Dy hi);have E:∀i,i < (nd id).kids.length→Pot a b c (z ((nd id).k i)) (Ak nd d (.expr V ((nd id).k i))):=fun i hi=>ih (.expr V _) (hm i hi);simp only[BM,twt]
     split;· exact Pot.ret
     split;· exact Pot.ret
     split;· exact(Pot.read (k:=0) fun _=>Pot.ret).mono (by omega)
     have one:(nd id).kids.length=1→∀g:FO→FO,Pot a b c (z id) ((Ak nd d (.expr V ((nd id).k 0))).bind fun p=> .ret (g p)):=fun h1 g=>by
      obtain⟨k,e⟩:=List.length_eq_one_iff.1 h1;have:=E 0 (by omega);unfold Node.k at this⊢;rw[e] at this hzi⊢;simp at hzi;exact(this.thn fun _=>Pot.ret).mono (by show z k≤_;omega)
     split;· split;(· rename_i h1;exact one h1 fun p=>⟨Hq (1-p.x),V⟩);exact Pot.bot
     split;· split;(· rename_i h1;exact one h1 fun p=>⟨Hq (-p.x),V⟩);exact Pot.bot
     split
     ·rename_i h19
      exact(Pot.bind (k:=0) (Pot.seqT (z:=z) _ fun k hkk=>ih (.expr V k) (hk id hP k hkk)) fun l=>(ih (.call _ l) (hr id hP h19)).thn fun _=>Pot.ret).mono (by omega)
     split
     ·rename_i h18
      have e0:=E 0 (by omega);have e1:=E 1 (by omega);have hs:z ((nd id).k 0)+z ((nd id).k 1)≤z id:=by
       obtain⟨k1,k2,e⟩:=VO h18.2;unfold Node.k;rw[e] at hzi⊢;simp at hzi⊢;omega
      refine(Pot.bind e0 fun p=> ?_).mono hs
      split;· exact Pot.ret
      refine e1.thn fun q=> ?_;unfold pairT
      split;· exact Pot.bot
      split;· exact Pot.ret
      exact Pot.trap
     ·exact Pot.bot
   |call f args=>
     simp only[BM,twt];refine Pot.burn ?_;split
     ·rename_i hl
      exact((ih (.block _ _) (hk f ht _ (Node.Dy (by omega)))).thn fun _=>Pot.ret).mono (Nat.zero_le _)
     ·exact Pot.bot
   |block id V=>exact Pot.seqU _ _ _ fun k hkk V=>ih (.stmt k V) (hk id ht k hkk)
   |stmt id V=>
     have hP:P id:=ht;simp only[BM,twt];split
     ·split
      ·rename_i hl
       exact ih (.loop _ _ V) ⟨hk id hP _ (Node.Dy (by omega)),hk id hP _ (Node.Dy (by omega))⟩
      ·exact Pot.bot
     ·refine Pot.burn ?_
      split;· exact Pot.bot
      rename_i hn
      have h0:P ((nd id).k 0):=hk id hP _ (Node.Dy (List.length_pos_iff.2 hn));have hz0:=hc _ h0;refine(Pot.bind (k:=a) (ih (.expr V _) h0) fun p=> ?_).mono (by show z _+a≤_;omega);unfold Mx
      split;· exact Pot.ret
      split;· exact Pot.ret
      split;· exact(Pot.tell (k:=0) Pot.ret).mono (by omega)
      split
      ·split
       ·rename_i h3
        refine((ih (.block _ _) ?_).thn fun _=>Pot.ret).mono (Nat.zero_le _);show P (if p.x=1 then(nd id).k 1 else(nd id).k 2)
        split <;>exact hk id hP _ (Node.Dy (by omega))
       ·exact Pot.bot
      split;· exact Pot.ret
      exact Pot.ret
   |loop c' b' V=>
     obtain⟨h1,h2⟩:=ht;have hz0:=hc _ h1;simp only[BM,twt];refine Pot.burn ((Pot.thn (ih (.expr V c') h1) fun p=> ?_).mono (by show z _≤_;omega))
     split;· exact Pot.ret
     exact(ih (.block b' V) h2).thn fun q=>ih (.loop c' b' q.V) ⟨h1,h2⟩
end
def szF(nd:Nat→Node):Nat→Nat→Nat
 |0,_=>0
 |f+1,id=>((nd id).kids.map (szF nd f)).sum+1
theorem PP{nd:Nat→Node}{n:Nat}(hk:∀i,∀k∈(nd i).kids,i < k∧k≤n):∀(f g id:Nat),n+1≤f+id→f≤g→id≤n→szF nd g id=szF nd f id
 |0,_,id,h,_,hn=>by omega
 |f+1,0,_,_,h,_=>by omega
 |f+1,g+1,id,h,hg,hn=>by
   show((nd id).kids.map (szF nd g)).sum+1=((nd id).kids.map (szF nd f)).sum+1
   congr 2
   refine List.map_congr_left fun k hkk=> ?_;have:=hk id k hkk;exact PP hk f g k (by omega) (by omega) this.2
theorem zsum(l:List Nat):(l.map fun _=>0).sum=0:=by
 induction l with
 |nil=>rfl
 |cons x l ih=>rw[List.map_cons,List.sum_cons,ih]
theorem V7:∀{l:List Nat} {x:Nat},x∈l→x≤l.sum
 |y::l,x,h=>by
   rw[List.sum_cons];rcases List.mem_cons.1 h with h|h
   ·omega
   ·have:=V7 h;omega
theorem PQ(z:Nat→Nat):∀l:List Row,(l.map fun r=>(r.node.kids.map z).sum+1).sum=((l.flatMap fun r=>r.node.kids).map z).sum+l.length
 |[]=>rfl
 |r::l=>by
   rw[List.map_cons,List.sum_cons,PQ z l,List.flatMap_cons,List.map_append,List.sum_append,List.length_cons];omega
theorem Tr.size{l:List Row}(h:Tr l)(hl:l.length≤20000)(h0:0 < l.length):∃z:Nat→Nat,(∀id,((ndAt (rowM l) id).kids.map z).sum+1=z id)∧∀id,1≤id∧id≤l.length→z id≤l.length:=by
 have hT:=h.trM hl h0;have hk:∀i,∀k∈(ndAt (rowM l) i).kids,i < k∧k≤l.length:=fun i k hk=>by
  obtain⟨a,ha,hka⟩:=GD.2 hk;exact hT.kid i a ha k hka
 have hz:∀id,((ndAt (rowM l) id).kids.map (szF (ndAt (rowM l)) (l.length+1))).sum+1=szF (ndAt (rowM l)) (l.length+1) id:=fun id=>by
  show _=((ndAt (rowM l) id).kids.map (szF (ndAt (rowM l)) l.length)).sum+1
  congr 2
  refine List.map_congr_left fun k hkk=> ?_;have:=hk id k hkk;exact PP hk _ _ k (by omega) (by omega) this.2
 refine⟨szF (ndAt (rowM l)) (l.length+1),hz, ?_⟩;generalize szF (ndAt (rowM l)) (l.length+1)=z at hz;have h1:z 1=l.length:=by
  have e1:(l.map fun r=>(r.node.kids.map z).sum+1)=(l.map Row.id).map z:=by
   rw[List.map_map];refine List.map_congr_left fun r hr=> ?_;obtain⟨k,hk,rfl⟩:=List.getElem_of_mem hr;have hi:=h.rid k l[k] (AY hk);have hM:rowM l (k+1)=some l[k].node:=(h.get hl).2 ⟨_,AY (by omega),by omega,rfl⟩;have:=hz (k+1);rw[BG hM] at this;show _=z l[k].id;rw[hi];exact this
  have e2:=PQ z l;rw[e1,h.ids,(h.perm.map z).sum_nat] at e2;obtain⟨n,hn⟩:∃n,l.length=n+1:=⟨l.length-1,by omega⟩;rw[hn,List.range'_succ,List.map_cons,List.sum_cons] at e2;simp at e2;omega
 intro id
 induction id using Nat.strongRecOn with
 |_ id ih=>
 rintro⟨g1,g2⟩;rcases Nat.lt_or_ge 1 id with g|g
 ·obtain⟨i,a,ha,hka⟩:=hT.has id (by omega) g2
  have hi:=(hT.dom i).1 (by rw[ha];rfl);have:=ih i (hT.kid i a ha id hka).1 hi;have h2:=hz i;rw[BG ha] at h2;have:=V7 (List.mem_map_of_mem (f:=z) hka);omega
 ·obtain rfl:id=1:=by omega
  omega
section
variable {l:List Row} (h:Rt l)
include h
theorem Rt.runs:∃R:Nat→List Int→Option FO×Fz,(∀F inp,∃d,∀e,d≤e→(Ak (ndAt (rowM l)) e (.call (DL (rowM l)) [])).run F inp fs0=Option.some (R F inp))∧
 ∀F inp,(R F inp).2.used≤F∧((R F inp).2.e=0↔(R F inp).1.isSome=true)∧(R F inp).2.e≤2∧(R F inp).2.trace.length≤(R F inp).2.used∧(R F inp).2.rd≤20000*F:=by
 have hE:∀(F:Nat) (inp:List Int),∃d r,∀e,d≤e→(Ak (ndAt (rowM l)) e (.call (DL (rowM l)) [])).run F inp fs0=Option.some r:=fun F inp=>by
  obtain⟨b,hb,h3,hlen,h1,hn⟩:=h.call;have hnd:=BG hb;obtain⟨d,r,hr,_⟩:=(term h.wt F inp F fs0 rfl (Nat.zero_le _) (by simp[fs0])).2.1 (DL (rowM l)) [] ⟨h1,hn⟩ (by rw[hnd];exact h3) (by rw[hnd,hlen];rfl) (fun i x hx=>by simp at hx);exact⟨d,r,hr⟩
 refine⟨fun F inp=>Classical.choose (Classical.choose_spec (hE F inp)),fun F inp=>⟨_,Classical.choose_spec (Classical.choose_spec (hE F inp))⟩,fun F inp=> ?_⟩;dsimp only;have hr:=Classical.choose_spec (Classical.choose_spec (hE F inp));generalize Classical.choose (Classical.choose_spec (hE F inp))=r at hr;generalize Classical.choose (hE F inp)=d at hr;have hr:=hr d AA;have hg:=IT.grow F inp _ _ _ rfl hr;obtain⟨b,hb,h3,hlen,h1,hn⟩:=h.call;obtain⟨z,hz1,hz2⟩:=h.tr.size h.len h.pos;have hW:=h.wt;have P:∀(a b c:Nat) (z:Nat→Nat),(∀id,(1≤id∧id≤l.length)→(((ndAt (rowM l)) id).kids.map z).sum+b≤z id)→(∀id,(1≤id∧id≤l.length)→z id+a≤c)→Pot a b c 0 (Ak (ndAt (rowM l)) d (.call (DL (rowM l)) [])):=fun a b c z hz hc=>
  NV (P:=fun id=>1≤id∧id≤l.length) (fun id hid k hk=>(hW.kid id hid k hk).1) (fun id hid h19=>(hW.e19 id hid h19).1) hz hc d (.call _ _) ⟨h1,hn⟩
 have p1:=P 1 0 1 (fun _=>0) (fun id hid=>by rw[zsum];exact AA) (fun id hid=>by simp) F inp fs0 r hr;have p2:=P 0 1 20000 z (fun id hid=>by rw[hz1];exact AA) (fun id hid=>by have:=hz2 id hid;have:=h.len;omega) F inp fs0 r hr;have hu:=hg.2.1 (Nat.zero_le _)
 simp[fs0] at p1 p2
 refine⟨hu,hg.2.2.2.2.1,hg.2.2.2.2.2,p1,by omega⟩
end
def valO(o:Option FO):Int:=match o with
 |some a=>a.x
 |none=>0
structure Runs (nd:Nat→Node) (mn:Nat) (R:Nat→List Int→Option FO×Fz):Prop where
 run:∀F inp,∃d,(Ak nd d (.call mn [])).run F inp fs0=some (R F inp)
 end0:∀F inp,(R F inp).2.e=0↔(R F inp).1.isSome=true
 end2:∀F inp,(R F inp).2.e≤2
 used:∀F inp,(R F inp).2.used≤F
 told:∀F inp,(R F inp).2.trace.length≤(R F inp).2.used
 rd:∀F inp,(R F inp).2.rd≤20000*F
 more:∀F G inp,F≤G→(R F inp).2.trace <+:(R G inp).2.trace∧(R F inp).2.used≤(R G inp).2.used
 spent:∀F inp,(R F inp).2.e=2→(R F inp).2.used=F∧(R F inp).1=none
 same:∀F G inp,F≤G→(R F inp).2.e≠2→R G inp=R F inp
 just:∀F inp,(R F inp).2.e≠2→R (R F inp).2.used inp=R F inp
 less:∀F inp,(R F inp).2.e≠2→(R F inp).2.used≠0→(R ((R F inp).2.used-1) inp).2.e=2
 quiet:∀F inp more,(R F inp).2.rd≤inp.length→R F (inp.take (R F inp).2.rd++more)=R F inp
theorem Rt.laws{l:List Row}(h:Rt l):∃R,Runs (ndAt (rowM l)) (DL (rowM l)) R:=by
 obtain⟨R,hR,hb⟩:=h.runs;have two:∀F G inp inq,∃d,(Ak (ndAt (rowM l)) d (.call (DL (rowM l)) [])).run F inp fs0=Option.some (R F inp)∧(Ak (ndAt (rowM l)) d (.call (DL (rowM l)) [])).run G inq fs0=Option.some (R G inq):=fun F G inp inq=>by
  obtain⟨d,h1⟩:=hR F inp;obtain⟨e,h2⟩:=hR G inq;exact⟨max d e,h1 _ (Nat.le_max_left _ _),h2 _ (Nat.le_max_right _ _)⟩
 have M:∀F G inp,F≤G→((R F inp).2.e≠2→R G inp=R F inp)∧((R F inp).2.e=2→(R F inp).2.used=F∧(R F inp).1=none∧(R F inp).2.trace <+:(R G inp).2.trace∧(R F inp).2.used≤(R G inp).2.used∧(F < G→F < (R G inp).2.used)):=fun F G inp hF=>by
  obtain⟨d,h1,h2⟩:=two F G inp inp;exact Vg hF h1 h2
 have J:∀F inp,(R F inp).2.e≠2→R (R F inp).2.used inp=R F inp:=fun F inp h0=>by
  have hu:=(hb F inp).1;by_cases h2:(R (R F inp).2.used inp).2.e=2
  ·rcases Nat.lt_or_ge (R F inp).2.used F with hl|hl
   ·have:=((M _ F inp hu).2 h2).2.2.2.2 hl
    omega
   ·have e:(R F inp).2.used=F:=by omega
    rw[e] at h2;exact absurd h2 h0
  ·exact((M _ F inp hu).1 h2).symm
 refine⟨R,fun F inp=>(hR F inp).imp fun d hd=>hd d AA,fun F inp=>(hb F inp).2.1,fun F inp=>(hb F inp).2.2.1,fun F inp=>(hb F inp).1,fun F inp=>(hb F inp).2.2.2.1,fun F inp=>(hb F inp).2.2.2.2,fun F G inp hF=> ?_,fun F inp h2=> ?_,fun F G inp hF h0=>(M F G inp hF).1 h0,J,fun F inp h0 hu=> ?_,fun F inp more hrd=> ?_⟩
 ·by_cases h2:(R F inp).2.e=2
  ·obtain⟨_,_,h3,h4,_⟩:=(M F G inp hF).2 h2
   exact⟨h3,h4⟩
  ·rw[(M F G inp hF).1 h2]
   exact⟨List.prefix_refl _,AA⟩
 ·obtain⟨h3,h4,_⟩:=(M F F inp AA).2 h2
  exact⟨h3,h4⟩
 ·refine Classical.byContradiction fun h2=> ?_
  have hF:=(hb F inp).1;have e:=(M ((R F inp).2.used-1) F inp (by omega)).1 h2;have:=(hb ((R F inp).2.used-1) inp).1;rw[←e] at this;omega
 ·obtain⟨d,h1,h2⟩:=two F F inp (inp.take (R F inp).2.rd++more)
  have:=IT.other F (inq:=inp.take (R F inp).2.rd++more) _ _ _ rfl h1 fun i hi=>by
   rw[List.getD_eq_getElem?_getD,List.getD_eq_getElem?_getD,List.getElem?_append_left (by rw[List.length_take];omega),List.getElem?_take_of_lt hi]
  rw[h2] at this;exact Option.some.inj this
theorem Runs.fuel{nd:Nat→Node}{mn:Nat}{R:Nat→List Int→Option FO×Fz}(h:Runs nd mn R){F G:Nat}{inp:List Int}{o1 o2:Option FO}{e1 u1 d1 e2 u2 d2:Nat}{tr1 tr2:List Int}(h1:R F inp=(o1,⟨e1,u1,tr1,d1⟩))(h2:R G inp=(o2,⟨e2,u2,tr2,d2⟩))(hF:F≤G):
 u1≤F∧tr1.length≤u1∧tr1.length≤tr2.length∧tr2.take tr1.length=tr1∧u1≤u2∧u2≤G∧tr2.length≤u2∧(e1=2→u1=F∧valO o1=0)∧
  (e1≠2→(o2=o1∧e2=e1∧u2=u1∧tr2=tr1∧d2=d1)∧R u1 inp=(o1,⟨e1,u1,tr1,d1⟩)∧(u1≠0→(R (u1-1) inp).2.e=2)):=by
 have a1:=h.used F inp;have a2:=h.told F inp;have a3:=h.more F G inp hF;have a4:=h.spent F inp;have a5:=h.same F G inp hF;have a6:=h.just F inp;have a7:=h.less F inp;have a8:=h.used G inp;have a9:=h.told G inp;rw[h1] at a1 a2 a3 a4 a5 a6 a7;rw[h2] at a3 a5 a8 a9;dsimp only at a1 a2 a3 a4 a5 a6 a7 a8 a9;refine⟨a1,a2,a3.1.length_le,(List.prefix_iff_eq_take.1 a3.1).symm,a3.2,a8,a9,fun e=>⟨(a4 e).1,by rw[(a4 e).2];rfl⟩,fun e=>⟨?_,a6 e,a7 e⟩⟩;have:=a5 e;simp only[Prod.mk.injEq,Fz.mk.injEq] at this;exact this
end Hg
namespace Go.Proofs.YtfgnfpdfohjopaaGreatDoor.Rn
open Go.RowKit
open Hg (Fz FV FO FT IT KB Ak BM isB Out valO fs0)
section
variable {C:QC} {ab mb nb n:Nat} {w0 w w':World} {s s':Fz} {tv tv':Value}
theorem Mach.start(hA:ArOk w ab C.M)(hF:C.fuel≤50000)(hI:C.ids.length≤1000000)(hin:Sl w w.heap.size C.iv C.input.length (C.input.map i64V)∧C.input.length≤1000000):
 Mach C (fun _=>False) ab (w.heap.size+1) w.heap.size w ((w.alloc (.map #[] 0)).alloc (.cells (Ir C.iv ab w.heap.size C.fuel fs0 (.slice none 0 0)) 62)) fs0 (.slice none 0 0):=by
 have h1:Below w.heap.size w (w.alloc (.map #[] 0)):=(AL).alloc AA _;have hz:(w.alloc (.map #[] 0)).heap.size=w.heap.size+1:=by simp
 have h2:∀o,Below (w.alloc (.map #[] 0)).heap.size (w.alloc (.map #[] 0)) ((w.alloc (.map #[] 0)).alloc o):=fun o=>(AL).alloc AA _;refine⟨?_,hA,h1.trans ((h2 _).mono h1.size),World.ownsRow_nil _ _ _ _,⟨0,fun _=>none,(Bc.made _ w).below (h2 _) AA,⟨[],List.nodup_nil,rfl,fun k=>by simp,fun k hk=>by cases hk⟩,fun id n h=>(by cases h)⟩,⟨by omega,AA⟩,fun e=>(by cases e),hF,Nat.zero_le _,AA,hI,fun q e=>e.elim,hin⟩;have h3:=AX (w.alloc (.map #[] 0)) (.cells (Ir C.iv ab w.heap.size C.fuel fs0 (.slice none 0 0)) 62);rw[hz] at h3;exact h3
@[reducible] def resV(e:Nat)(x:Int)(v:Value)(u rd:Nat):Value:= .agg #[.int .u8 (e:Int),i64V x,v,.int .i64 (u:Int),.int .i64 (rd:Int)]
def Wz(r:Option FO×Fz)(w:World)(e:Ending)(w':World):Prop:=
 ∃v,e= .returned (resV r.2.e (valO r.1) v r.2.used r.2.rd)∧w'.ownsRow w.heap.size 2 1 v r.2.trace.length (r.2.trace.map i64V)∧Below w.heap.size w w'
theorem Re{w:World}{b:Nat}{a0 a1 a2 a3 a4 a5 a6 a7 a8:Value}(h:w.heap[b]? =some (.cells #[a0,a1,a2,a3,a4,a5,a6,a7,a8] 62 (0,0))):
 w.cell? ⟨b,4,none⟩=some a4∧w.cell? ⟨b,5,none⟩=some a5∧w.cell? ⟨b,6,none⟩=some a6∧w.cell? ⟨b,7,none⟩=some a7∧w.cell? ⟨b,8,none⟩=some a8∧∀i,w.frozen? ⟨b,i,none⟩=false:=by
 have z:=fun i=>AJ w b i _ _ (0,0) h;have z4:=z 4;have z5:=z 5;have z6:=z 6;have z7:=z 7;have z8:=z 8;simp at z4 z5 z6 z7 z8;exact⟨z4,z5,z6,z7,z8,fun i=>by simp[World.frozen?,h]⟩
theorem MC{B g:Nat}{w w1:World}(h:Below B w w1)(hg:B≤g)(u0 u1 u2 u3 u4:Value):
 Below B w (((((w1.setCell ⟨g,0,none⟩ u0).setCell ⟨g,1,none⟩ u1).setCell ⟨g,2,none⟩ u2).setCell ⟨g,3,none⟩ u3).setCell ⟨g,4,none⟩ u4):=
 ((((h.setCell (p:=⟨g,0,none⟩) hg _).setCell (p:=⟨g,1,none⟩) hg _).setCell (p:=⟨g,2,none⟩) hg _).setCell (p:=⟨g,3,none⟩) hg _).setCell (p:=⟨g,4,none⟩) hg _
theorem PX{w1:World}{base g:Nat}{e:TypeId}{v:Value}{n:Nat}{xs:List Value}(h:w1.ownsRow base e 1 v n xs)(hg:g < base)(u0 u1 u2 u3 u4:Value):
 (((((w1.setCell ⟨g,0,none⟩ u0).setCell ⟨g,1,none⟩ u1).setCell ⟨g,2,none⟩ u2).setCell ⟨g,3,none⟩ u3).setCell ⟨g,4,none⟩ u4).ownsRow base e 1 v n xs:=
 BN (BN (BN (BN (BN h hg _) hg _) hg _) hg _) hg _
theorem X5(hQ:QOk C)(d f:Nat)(o:Option FO)(hrun:(Ak C.nd d (.call f [])).run C.fuel C.input fs0=some (o,s'))(hrd:s'.rd≤RB)(hA:ArOk w ab C.M)(hF:C.fuel≤50000)(hI:C.ids.length≤1000000)(hf:f∈C.ids)
 (hin:Sl w w.heap.size C.iv C.input.length (C.input.map i64V)∧C.input.length≤1000000) (hM:Hg.DL C.M=f) (hT:Cv w)
 (hR:∀W,ArOk W ab C.M→Cv W→Calls Tryz.prog 20 #[.pointer (some ⟨ab,0,none⟩)] W fun e w'=>e= .returned (.int .i64 0)∧Below W.heap.size W w'):
 Calls Tryz.prog 9 #[.pointer (some ⟨ab,0,none⟩),C.iv,.int .i64 (C.fuel:Int)] w (Wz (o,s') w):=by
 have hb1:Below w.heap.size w (w.alloc (.cells #[.int .u8 0,.int .i64 0,.slice none 0 0,.int .i64 0,.int .i64 0] 32)):=(AL).alloc AA _;have hn1:=AX w (.cells #[.int .u8 0,.int .i64 0,.slice none 0 0,.int .i64 0,.int .i64 0] 32);have hz1:(w.alloc (.cells #[.int .u8 0,.int .i64 0,.slice none 0 0,.int .i64 0,.int .i64 0] 32)).heap.size=w.heap.size+1:=by simp
 have HR:=zz (fun W (hb:Below w.heap.size w W)=>hR W (hA.below hb) (hT.block (hb.block _ hT.lt)));have HS:=zz (fun W (hb:Below w.heap.size w W)=>Mach.start (C:=C) (hA.below hb) hF hI ⟨(hin.1.below hb AA).more hb.size,hin.2⟩);have HA:=zz hA;have HMN:=zz hM;have HC:=zz (fun mb nb w0 w (hm:Mach C (fun _=>False) ab mb nb w0 w fs0 (.slice none 0 0))=>(Yp hQ d).2.1 (fun _=>False) f [] (.slice none 0 0) fs0 s' o (.slice none 0 0) w hf (.inl ⟨rfl,hrun⟩) hrd hm (Sl.nil _ _) (fun q e=>by cases e));have HO:=zz (show s'.e=0↔o.isSome=true from(Out.e (.inl ⟨rfl,hrun⟩):s'.e=0↔o.isSome=true));have hmx:max (C.fuel:Int) 0=(C.fuel:Int):=by omega
 have hmn:min (C.fuel:Int) 50000=(C.fuel:Int):=by omega
 have hmm:= @run_makeMap Tryz.prog;obtain⟨ia,ic,hiv⟩:=hin.1.form;have HIV:=zz hiv;rw[hiv];generalize hfu:C.fuel=fu at*;have HFU:=zz hfu;clear hA hT hR hM hF hI hf hin hrd hQ hrun hiv hfu;go_enter Tryz.func9,Tryz.ntmps9;go_upto_region 1 with fail;generalize World.alloc w _=w1 at hb1 hn1 hz1⊢;have TR:=zz (HR.out w1 hb1);go_wp2_with fail;refine TR.out.mono ?_;rintro e w2 ⟨rfl,hb2⟩;have HB2:=zz (hb1.trans (hb2.mono hb1.size));have hn2:=(hb2.block w.heap.size (by omega)).trans hn1;have HZ2:=zz (show w.heap.size < w2.heap.size from by have:=hb2.size;omega);have HN2:=zz hn2;clear hb2 hb1 hn1 hz1 TR hn2;go_upto_region 4 with fail;generalize hW:World.alloc (World.alloc w2 _) _=w4;have hM4:Mach C (fun _=>False) ab (w2.heap.size+1) w2.heap.size w2 w4 fs0 (.slice none 0 0):=by
  have:=HS.out w2 HB2.out;rw[HIV.out] at this;rw[←hW];exact this
 have hb4:Below w.heap.size w w4:=by rw[←hW];exact(HB2.out.alloc HB2.out.size _).alloc (by have:=HB2.out.size;simp;omega) _
 have HM4:=zz hM4;have HB4:=zz hb4;have TM:=QG ab C.M w4 (HA.out.below hb4);rw[HMN.out] at TM;have TM:=zz TM;generalize hnb:w2.heap.size=nb at*;clear hM4 hb4 hW;go_wp2_with fail;refine TM.out.mono ?_;rintro e w5 ⟨rfl,hb5⟩;have TC:=zz (HC.out _ _ _ _ (HM4.out.below hb5));have HB5:=zz (HB4.out.trans (hb5.mono HB4.out.size));clear TM hb5 HS;go_wp2_with fail;refine TC.out.mono ?_;rintro e w6 ⟨x,tv5,rfl,hx,hM6,-⟩;obtain⟨ta,tc,rfl,-⟩:=Sl.Aj hM6.tr;have hB6:=HB2.out.trans (hM6.bel.mono HB2.out.size);have hn6:=(hM6.bel.block w.heap.size (by have:=HZ2.out;omega)).trans HN2.out;have HM6:=zz hM6;have HB6:=zz hB6;have HX:=zz hx;have hlo:=hM6.lo.1;obtain⟨c4,c5,c6,c7,c8,cf⟩:=Re hM6.cell;have ff:∀i,w6.frozen? ⟨w.heap.size,i,none⟩=false:=fun i=>by simp[World.frozen?,hn6]
 have zv:=fun i=>AJ w6 w.heap.size i _ _ (0,0) hn6;have z0:=zv 0;have z1:=zv 1;have z2:=zv 2;have z3:=zv 3;have z4:=zv 4;simp at z0 z1 z2 z3 z4;have hne:nb+1≠w.heap.size:=by have:=HZ2.out;omega
 have hgm:w.heap.size < nb+1:=by have:=HZ2.out;omega
 have hne2:w.heap.size≠nb+1:=fun e=>hne e.symm;have HG:=zz (show w.heap.size < w2.heap.size from by have:=HZ2.out;omega);have HTR:=zz hM6.tr;have HTM:=zz hM6.tm;clear hM6 hB6 hn6 zv hlo TC HN2 hnb hx;generalize nb+1=mb at*;by_cases he:s'.e=0
 ·have q:((s'.e:Int)==0)=true:=by simp[he]
  have HE:=zz (show x=valO o from by
   obtain⟨a,ha⟩:=Option.isSome_iff_exists.1 (HO.out.1 he);rw[ha];exact HX.out a ha)
  have HBB:=zz (HB6.out.setCell (p:=⟨mb,5,none⟩) (Nat.le_of_lt hgm) (i64V x));have HOW:=zz (Am HTR.out ((Fr.refl (fun q=>q=mb) w6).set (p:=⟨mb,5,none⟩) (.inl rfl) (i64V x)) (fun q e e'=>HTM.out (e' ▸ e)));clear he;go_wp2;have hbF:=MC HBB.out AA (.int .u8 (s'.e:Int)) (i64V x) (.slice ta s'.trace.length tc) (.int .i64 (s'.used:Int)) (.int .i64 (s'.rd:Int));have hoF:=PX (g:=w.heap.size) HOW.out HG.out (.int .u8 (s'.e:Int)) (i64V x) (.slice ta s'.trace.length tc) (.int .i64 (s'.used:Int)) (.int .i64 (s'.rd:Int));exact bodyPost_ret (v:=resV s'.e x (.slice ta s'.trace.length tc) s'.used s'.rd) (by simp[results,Tryz.results9,go_sem,z0,z1,z2,z3,z4,ff,hne,hne2]) rfl ⟨_,by rw[HE.out],CQ hoF (Nat.le_of_lt HG.out),hbF⟩
 ·have q:((s'.e:Int)==0)=false:=by simp;omega
  have HE:=zz (show 0=valO o from by
   cases o with
   |none=>rfl
   |some a=>exact absurd (HO.out.2 rfl) he)
  have HBB:=zz HB6.out;have HOW:=zz HTR.out;clear he;go_wp2;have hbF:=MC HBB.out AA (.int .u8 (s'.e:Int)) (i64V 0) (.slice ta s'.trace.length tc) (.int .i64 (s'.used:Int)) (.int .i64 (s'.rd:Int));have hoF:=PX (g:=w.heap.size) HOW.out HG.out (.int .u8 (s'.e:Int)) (i64V 0) (.slice ta s'.trace.length tc) (.int .i64 (s'.used:Int)) (.int .i64 (s'.rd:Int));exact bodyPost_ret (v:=resV s'.e 0 (.slice ta s'.trace.length tc) s'.used s'.rd) (by simp[results,Tryz.results9,go_sem,z0,z1,z2,z3,z4,ff,hne,hne2]) rfl ⟨_,by rw[←HE.out],CQ hoF (Nat.le_of_lt HG.out),hbF⟩
end
theorem UI(en:Nat)(x:Int)(v v':Value)(u u' rd rd':Nat)(xs:List Int)(w:World)(hl:xs.length≤1000000)(hp:Ints w v xs)(hq:Ints w v' xs):
 Calls Tryz.prog 11 #[resV en x v u rd,resV en x v' u' rd'] w fun e w'=>e= .returned (.bool true)∧Below w.heap.size w w':=by
 obtain⟨a1,c1,rfl,-⟩:=hp.2;obtain⟨a2,c2,rfl,-⟩:=hq.2;have HP:=zz hp;have HQ:=zz hq;clear hp hq;go_enter Tryz.func11,Tryz.ntmps11;go_upto_region 1 with fail;generalize hW:World.alloc (World.alloc w _) _=w1;have hb:Below w.heap.size w w1:=by rw[←hW];exact((Below.refl w.heap.size w).alloc AA _).alloc (by simp) _
 have h1:w1.heap[w.heap.size]? =some (.cells #[.int .u8 (en:Int),i64V x,.slice a1 xs.length c1,.int .i64 (u:Int),.int .i64 (rd:Int)] 32 (0,0)):=by rw[←hW];exact(OJ w _ _).1
 have h2:w1.heap[w.heap.size+1]? =some (.cells #[.int .u8 (en:Int),i64V x,.slice a2 xs.length c2,.int .i64 (u':Int),.int .i64 (rd':Int)] 32 (0,0)):=by rw[←hW];exact(OJ w _ _).2.1
 have TS:=zz (PZ _ (.inl rfl) _ _ xs w1 hl (HP.out.below hb) (HQ.out.below hb));have c:=fun i=>AJ w1 w.heap.size i _ _ (0,0) h1;have k0:=c 0;have k1:=c 1;have k2:=c 2;have d:=fun i=>AJ w1 (w.heap.size+1) i _ _ (0,0) h2;have d0:=d 0;have d1:=d 1;have d2:=d 2;simp at k0 k1 k2 d0 d1 d2;have HB:=zz hb;clear c d h1 h2 hb hW;go_wp2_with fail;refine TS.out.mono ?_;rintro e w2 ⟨rfl,n,rfl⟩;go_wp2;go_ret;exact⟨rfl,below_drewN HB.out n⟩
end Go.Proofs.YtfgnfpdfohjopaaGreatDoor.Rn
namespace Go.Proofs.YtfgnfpdfohjopaaGreatDoor
open Hg (Row rowM EZ Be ER parR abvR gl wk El tRun OL CF Iz Cm Br DK CE Bj JC De okT DL RB stP exP kk)
instance (M:Nat→Option Hg.Node) (n:Hg.Node):Decidable (CF M n):=by
 unfold CF
 repeat' (first|infer_instance|refine @instDecidableAnd _ _ ?_ ?_|refine @instDecidableOr _ _ ?_ ?_)
instance (M:Nat→Option Hg.Node) (n:Hg.Node):Decidable (FM M n):=by
 unfold FM
 repeat' (first|infer_instance|refine @instDecidableAnd _ _ ?_ ?_|refine @instDecidableOr _ _ ?_ ?_)
theorem Mo{β:Type}:∀(R:List (Nat×β)) (i:Nat),(gl R i).isSome=true→∃p∈R,p.1=i
 |[],i,h=>by cases h
 |(k,v)::R,i,h=>by
   rw[Hg.Eg] at h;by_cases e:k=i
   ·exact⟨(k,v),by simp,e⟩
   ·rw[if_neg (by simpa using e)] at h
    obtain⟨p,hp,e⟩:=Mo R i h;exact⟨p,List.mem_cons_of_mem _ hp,e⟩
def Sz(M:Nat→Option Hg.Node)(par:Nat→Nat×Int)(x:Nat×Hg.Node):Bool:=match El M par 1000 x.1 [] [] with
 |none=>false
 |some R=>decide (0≤idxI R x.2.ref) && decide (R.length≤1000000)
def Qg(M:Nat→Option Hg.Node)(f:Nat):Bool:=match wk M 1000 [f] [] with
 |none=>false
 |some xs=>decide (CE xs).Nodup
def TH(rows:List Row)(x:Nat×Hg.Node):Bool:=
 decide (x.1≤1000000) && decide (1≤x.2.kind∧x.2.kind≤20) && decide (CF (rowM rows) x.2) && decide (FM (rowM rows) x.2) && decide (x.2.kind=1↔x.1=1) &&
 (!(x.2.kind==5)||JC (rowM rows) (parR rows) x.1 x.2) && (!(x.2.kind==3)||decide (De (rowM rows) 201 x.1≤90)) &&
 (!(x.2.kind==15||x.2.kind==7)||Sz (rowM rows) (parR rows) x) && (!(x.2.kind==18)||decide (0 < x.2.kids.length)) &&
 (x.2.kind==19||decide ((Bj (rowM rows) (abvR rows) x.1 x.2).length≤x.2.kids.length))
def Sy(rows:List Row):Bool:=match tRun (rowM rows) 1000 [1] [(1,1)] with
 |none=>false
 |some R=>(R.all fun p=>((rowM rows) p.1).isSome) && rows.all fun r=>(gl R r.id).isSome
def S9(rows:List Row):Bool:=
 decide (rows.map Row.id).Nodup && (rows.all fun r=>decide (r.id≠0) && decide (r.id < 18446744073709551616) && decide (r.node.kind≤255) && decide (r.node.ref < 18446744073709551616) && (r.node.ref==0||((rowM rows) r.node.ref).isSome) && (decide ((parR rows r.id).1 < r.id)||(parR rows r.id).1==0)) &&
 (match rowM rows 1 with|none=>false|some nd=>nd.kind==1) && Sy rows &&
 decide ((Cm (rowM rows)).map (DK (rowM rows))).Nodup && ((Cm (rowM rows)).all fun m=>decide ((Br (rowM rows) m).map (DK (rowM rows))).Nodup && (Br (rowM rows) m).all fun f=>Qg (rowM rows) f)
def Rv(rows:List Row)(right:Nat):Bool:=S9 rows && match wk (rowM rows) 1000 [1] [] with
 |none=>false
 |some xs=>xs.all (TH rows) && IA (rowM rows) (abvR rows) xs==right
theorem U0{rows:List Row}{right:Nat}(h:Rv rows right=true):∃xs,KV (rowM rows) (parR rows) (abvR rows) 1000 1000 xs∧IA (rowM rows) (abvR rows) xs=right:=by
 unfold Rv at h;rw[Bool.and_eq_true] at h;obtain⟨hr,h⟩:=h;cases hw:wk (rowM rows) 1000 [1] [] with
 |none=>rw[hw] at h;cases h
 |some xs=>
 rw[hw] at h;dsimp only at h;rw[Bool.and_eq_true,List.all_eq_true,beq_iff_eq] at h;obtain⟨hx,hri⟩:=h;unfold S9 at hr;simp only[Bool.and_eq_true,List.all_eq_true,decide_eq_true_eq,Bool.or_eq_true,beq_iff_eq] at hr;obtain⟨⟨⟨⟨⟨hnd,hall⟩,hroot⟩,htree⟩,hmod⟩,hfun⟩:=hr;have hRO:EZ rows:=⟨hnd,fun r hr=>(hall r hr).1.1.1.1.1,fun r hr=>(hall r hr).1.1.1.1.2⟩;have hD:Hg.EZ rows∧DecR rows:=⟨hRO,fun r hr=>(hall r hr).2⟩;have hN:∀x∈xs,_:=fun x hxm=>hx x hxm;simp only[TH,Bool.and_eq_true,decide_eq_true_eq,Bool.or_eq_true,beq_iff_eq,Bool.not_eq_true',Bool.or_eq_false_iff,beq_eq_false_iff_ne] at hN;refine⟨xs,⟨Gr hRO,⟨?_,hw,by omega,fun x hm=> ?_,fun x hm=>(hN x hm).1.1.1.1.1.1.1.1.2,fun x hm=>(hN x hm).1.1.1.1.1.1.1.2,fun x hm=>(hN x hm).1.1.1.1.1.1.2,fun x hm=>(hN x hm).1.1.1.1.1.2,fun x hm hk=> ?_,fun x hm hk=> ?_⟩,⟨hmod,fun m hm=>(hfun m hm).1,fun m hm f hf=> ?_⟩,by omega,fun x hm hk=> ?_,He hRO hD.2 (fun r hr=>(hall r hr).1.1.1.2),fun i nd hm=> ?_,fun x hm=>(hN x hm).1.1.1.1.1.1.1.1.1,fun x hm hk=> ?_,fun x hm hk=> ?_⟩,hri⟩
 ·unfold Sy at htree
  cases hT:tRun (rowM rows) 1000 [1] [(1,1)] with
  |none=>rw[hT] at htree;cases htree
  |some R=>
    rw[hT] at htree;simp only[Bool.and_eq_true,List.all_eq_true] at htree;refine⟨1000,R,⟨?_,hT,fun i=> ?_,fun i nd hm=> ?_⟩⟩
    ·cases hm:rowM rows 1 with
     |none=>rw[hm] at hroot;cases hroot
     |some nd=>rw[hm] at hroot;exact⟨nd,rfl,by simpa using hroot⟩
    ·cases hm:rowM rows i with
     |none=>
       cases hg:(gl R i).isSome with
       |false=>rfl
       |true=>
         obtain⟨p,hp,e⟩:=Mo R i hg;have:=htree.1 p hp;rw[e,hm] at this;cases this
     |some n=>
       obtain⟨r,hr,e,_⟩:=(Be hRO).1 hm;have:=htree.2 r hr;rw[e] at this;rw[this];rfl
    ·obtain⟨r,hr,_,rfl⟩:=(Be hRO).1 hm
     exact⟨(hall r hr).1.1.2,(hall r hr).1.2⟩
 ·have:=(hN x hm).1.1.1.1.1.1.1.1.1
  unfold Ah;omega
 ·rcases(hN x hm).1.1.1.1.2 with e|e
  ·exact absurd hk e
  ·exact e
 ·rcases(hN x hm).1.1.1.2 with e|e
  ·exact absurd hk e
  ·exact e
 ·have h2:=(hfun m hm).2 f hf
  unfold Qg at h2;cases hw2:wk (rowM rows) 1000 [f] [] with
  |none=>rw[hw2] at h2;cases h2
  |some ys=>rw[hw2] at h2;exact⟨1000,ys,hw2,by omega,by simpa using h2⟩
 ·rcases(hN x hm).1.1.2 with e|e
  ·omega
  ·unfold Sz at e
   cases hs:El (rowM rows) (parR rows) 1000 x.1 [] [] with
   |none=>rw[hs] at e;cases e
   |some R=>
     rw[hs] at e;simp only[Bool.and_eq_true,decide_eq_true_eq] at e;exact⟨R,rfl,e.1,e.2⟩
 ·obtain⟨r,hr,_,rfl⟩:=(Be hRO).1 hm
  exact(hall r hr).1.1.2
 ·rcases(hN x hm).1.2 with e|e
  ·exact absurd hk e
  ·exact e
 ·rcases(hN x hm).2 with e|e
  ·exact absurd e hk
  ·exact e
open Go.RowKit
open Hg (KB)
def Wm(rows:List Row):Bool:=rows.all fun r=>r.node.kids.all fun k=>decide (k < 18446744073709551616)
theorem Xj{rows:List Row}(h:Wm rows=true):KB (rowM rows):=by
 intro i nd hm k hk;unfold rowM at hm;cases hf:rows.find? (fun r=>r.id==i) with
 |none=>rw[hf] at hm;cases hm
 |some r=>
   rw[hf] at hm;injection hm with hm;have hr:=List.mem_of_find?_eq_some hf;unfold Wm at h;rw[List.all_eq_true] at h;have h2:=h r hr;rw[List.all_eq_true] at h2;subst hm;simpa using h2 k hk
def WO(rows:List Hg.Row)(right mn:Nat):Bool:=Wm rows && (Rv rows right && Hg.DL (rowM rows)==mn)
def XA(rows:List Hg.Row)(right mn:Nat)(w:World)(e:Ending)(w':World):Prop:=
 ∃ab,e= .returned (.tuple #[.pointer (some ⟨ab,0,none⟩),.int .i64 0])∧ArOk w' ab (rowM rows)∧Hg.DL (rowM rows)=mn∧Below w.heap.size w w'∧
   ∀W,ArOk W ab (rowM rows)→Cv W→Calls Tryz.prog 20 #[.pointer (some ⟨ab,0,none⟩)] W fun e w'=>e= .returned (.int .i64 (right:Int))∧Below W.heap.size W w'
theorem Uj{s:List UInt8}{rows:List Hg.Row}{right mn:Nat}(hp:Ev.Oe s rows=true)(h:WO rows right mn=true)(w:World)(hT:Cv w):
 Calls Tryz.prog 12 #[.string ⟨s.toArray⟩] w (XA rows right mn w):=by
 unfold WO at h;simp only[Bool.and_eq_true,beq_iff_eq] at h;obtain⟨hkb,hch,hmn⟩:=h;obtain⟨xs,hR,hri⟩:=U0 hch;refine(Ev.UO hp w hT).mono ?_;rintro e w' ⟨hb,ab,mb,c,rfl,hAr⟩;exact⟨ab,rfl,⟨⟨mb,c,hAr⟩,Xj hkb⟩,hmn,hb,fun W hA hT=>by
  have:=NY ab (rowM rows) _ _ _ _ xs W hA hT hR;rw[hri] at this;exact this⟩
end Go.Proofs.YtfgnfpdfohjopaaGreatDoor
namespace Hg
@[reducible] def awT:Str:=[109,111,100,117,108,101,32,109,97,105,110,32,123,32,102,117,110,99,32,109,97,105,110,40,41,32,105,110,116,32,123,32,112,114,105,110,116,32,49,59,32,114,101,116,117,114,110,32,50,59,32,125,32,125]
def O1:List Row:=[⟨1,⟨1,[],0,0,0,[2]⟩⟩,⟨2,⟨2,[109,97,105,110],0,0,0,[3]⟩⟩,⟨3,⟨3,[109,97,105,110],0,1,0,[4]⟩⟩,⟨4,⟨5,[],0,0,0,[5,7]⟩⟩,⟨5,⟨11,[],0,0,0,[6]⟩⟩,⟨6,⟨13,[],1,0,0,[]⟩⟩,⟨7,⟨10,[],0,0,0,[8]⟩⟩,⟨8,⟨13,[],2,0,0,[]⟩⟩]
end Hg
namespace Go.Proofs.YtfgnfpdfohjopaaGreatDoor.Rn
open Go.RowKit
open Hg (Fz FV FO fs0 fv0 valO awT O1 rowM Ak ndAt Rt Runs DL KB)
theorem awP:Ev.Oe awT O1=true:=by decide+kernel
theorem awR:WO O1 0 3=true:=by decide+kernel
def awC:QC:=⟨rowM O1,9,[],[1,2,3,4,5,6,7,8],.slice none 0 0⟩
theorem awQ:QOk awC:=⟨by decide+kernel,by decide+kernel,by decide+kernel,by decide+kernel,by decide+kernel,by decide+kernel⟩
theorem Yo:(Ak awC.nd 10 (.call 3 [])).run 9 [] fs0=some (some ⟨2,fv0⟩,⟨0,3,[1],0⟩):=by kernel_rfl
theorem VA(w:World)(hT:Cv w)(_:TabP w):Calls Tryz.prog 5 #[] w fun e w'=>e= .returned (.bool true)∧Below w.heap.size w w':=by
 have T1:=zz (Uj awP awR w hT);have HT:=zz hT;clear hT;go_enter Tryz.func5,Tryz.ntmps5;go_wp2_with fail;refine T1.out.mono ?_;rintro e w1 ⟨ab,rfl,hA1,hm1,hb1,hR1⟩;have HB1:=zz hb1;have T2:=zz (show Calls Tryz.prog 9 #[.pointer (some ⟨ab,0,none⟩),.slice none 0 0,.int .i64 9] w1 (fun e w'=>∃v,e= .returned (resV 0 2 v 3 0)∧w'.ownsRow w1.heap.size 2 1 v 1 [i64V 1]∧Below w1.heap.size w1 w') from
  X5 (C:=awC) awQ 10 3 _ Yo (by decide) hA1 (by decide) (by decide) (by decide) ⟨Sl.nil _ _,by decide⟩ hm1 (HT.out.block (hb1.block _ HT.out.lt)) hR1)
 clear T1 hA1 hb1 hR1 hm1;go_wp2_with fail;refine T2.out.mono ?_;rintro e w2 ⟨v,rfl,ho2,hb2⟩;obtain⟨y3,z3,rfl⟩:=ownsRow_succ ho2;have HB2:=zz (HB1.out.trans (hb2.mono HB1.out.size));obtain⟨b,o,hbo,-,e1⟩:=(Sl.Aj ho2).mapAt (f:=i64V) (l:=[1]) (k:=0) (by decide);injection hbo with hbo;injection hbo with hb1 hb3;subst hb1;subst hb3;have e1:w2.cell? ⟨y3,0,none⟩=some (i64V 1):=e1;clear T2 ho2 hb2;go_upto_region 3 with fail;have hb4:=HB2.out.alloc HB2.out.size (.cells #[.int .u8 0,i64V 2,.slice (some ⟨y3,0,none⟩) 1 z3,.int .i64 3,.int .i64 0] 32);have e2:=EB e1 (.cells #[.int .u8 0,i64V 2,.slice (some ⟨y3,0,none⟩) 1 z3,.int .i64 3,.int .i64 0] 32);have hn4:=AX w2 (.cells #[.int .u8 0,i64V 2,.slice (some ⟨y3,0,none⟩) 1 z3,.int .i64 3,.int .i64 0] 32);generalize hW:World.alloc w2 _=w4 at hb4 e2 hn4⊢;have zv:=fun i=>AJ w4 w2.heap.size i _ _ (0,0) hn4;have z0:=zv 0;have z1:=zv 1;have z2:=zv 2;have z3':=zv 3;simp at z0 z1 z2 z3';have HB4:=zz hb4;clear hW hb4 zv e1 hn4;go_wp2;go_ret;exact⟨rfl,HB4.out⟩
theorem UH{x:List Hg.Row}(h:Rt x){R:Nat→List Int→Option FO×Fz}(hR:Runs (ndAt (rowM x)) (DL (rowM x)) R)(F:Nat)(inp:List Int)(iv:Value)(ab:Nat)(w:World)(hA:ArOk w ab (rowM x))(hT:Cv w)(hin:Ints w iv inp)(hl:inp.length≤1000000)(hF:F≤50000):
 Calls Tryz.prog 9 #[.pointer (some ⟨ab,0,none⟩),iv,.int .i64 (F:Int)] w (Wz (R F inp) w):=by
 obtain⟨d,hd⟩:=hR.run F inp;have hrd:=hR.rd F inp;obtain⟨G,xs,hOk,hK,_⟩:=h.rightOk;have hW:=h.wt;have hln:=h.len;obtain⟨b,hb,h3,hlen,h1,hn⟩:=h.call;have hm:∀id,id∈List.range' 1 x.length↔1≤id∧id≤x.length:=fun id=>by rw[List.mem_range'_1];omega
 have hQ:QOk ⟨rowM x,F,inp,List.range' 1 x.length,iv⟩:=by
  refine⟨fun id hid=> ?_,fun id hid k hk=> ?_,fun id hid h19=> ?_,fun id hid=> ?_,fun id hid=> ?_,fun id hid h18=> ?_⟩
  all_goals have hid:=(hm id).1 hid
  ·have:id < 18446744073709551616:=by omega
   exact this
  ·exact(hm k).2 (hW.kid id hid k hk).1
  ·exact(hm _).2 (hW.e19 id hid h19).1
  ·obtain⟨a,ha,e⟩:=h.some hid
   show(ndAt (rowM x) id).ref < 18446744073709551616;rw[e];have:=h.ref ha;omega
  ·obtain⟨a,ha,e⟩:=h.some hid
   show(ndAt (rowM x) id).kids.length≤_;rw[e];obtain⟨r,hr,_,rfl,_⟩:=h.row ha;have:=h.tr.kids r hr;omega
  ·have:=hW.e18 id hid h18
   exact⟨this.2.2.2.1,this.2.2.2.2.1⟩
 have:=X5 (C:=⟨rowM x,F,inp,List.range' 1 x.length,iv⟩) (ab:=ab) (w:=w) (s':=(R F inp).2) hQ d (DL (rowM x)) (R F inp).1 hd (by unfold RB;omega) hA hF (by simp;omega) ((hm _).2 ⟨h1,hn⟩) ⟨hin.1,hl⟩ rfl hT fun W hA hT=>by
  have:=NY ab (rowM x) _ _ _ _ xs W hA hT hOk;rw[hK] at this;exact this
 exact this
end Go.Proofs.YtfgnfpdfohjopaaGreatDoor.Rn
namespace Hg
theorem Tg.rt{l:List Row}(h:Tg l)(hr:Ec l=some 0):Rt l:=⟨h.tr,h.len,fun r hm=>by have:=(h.nk r hm).2.2;omega,fun r hm=>(h.nk r hm).2.1,hr⟩
end Hg
namespace Go.Proofs.YtfgnfpdfohjopaaGreatDoor.Rn
open Go.RowKit
open Hg (Fz FV FO fs0 valO rowM Rt Tg)
theorem Tg.ar{x:List Hg.Row}(h:Tg x)(hr:Hg.Ec x=some 0){w:World}{ab mb c:Nat}(hA:ArAt w ab mb c (EX x x.length)):ArOk w ab (rowM x):=by
 have hrt:=h.rt hr;have h0:x≠[]:=fun e=>by have:=hrt.pos;rw[e] at this;cases this
 rw[R3 (Tg.ids h) h0] at hA;refine⟨⟨mb,c,hA⟩,fun i nd hm k hk=> ?_⟩;have:=(hrt.trM.kid i nd hm k hk).2;have:=h.len;omega
structure Ia (w:World) (g:Nat) (e:Nat) (x:Int) (v:Value) (u rd:Nat):Prop where
 hp:w.heap[g]? =some (.cells #[.int .u8 (e:Int),i64V x,v,.int .i64 (u:Int),.int .i64 (rd:Int)] 32 (0,0))
theorem Ia.cells{w:World}{g e u rd:Nat}{x:Int}{v:Value}(h:Ia w g e x v u rd):w.cell? ⟨g,0,none⟩=some (.int .u8 (e:Int))∧w.cell? ⟨g,1,none⟩=some (i64V x)∧w.cell? ⟨g,2,none⟩=some v∧w.cell? ⟨g,3,none⟩=some (.int .i64 (u:Int))∧w.cell? ⟨g,4,none⟩=some (.int .i64 (rd:Int)):=by
 have z:=fun i=>AJ w g i _ _ (0,0) h.hp;have z0:=z 0;have z1:=z 1;have z2:=z 2;have z3:=z 3;have z4:=z 4;simp at z0 z1 z2 z3 z4;exact⟨z0,z1,z2,z3,z4⟩
theorem Ia.lt{w:World}{g e u rd:Nat}{x:Int}{v:Value}(h:Ia w g e x v u rd):g < w.heap.size:=(Ab.1 h.hp).1
theorem Ia.below{w w':World}{g e u rd:Nat}{x:Int}{v:Value}(h:Ia w g e x v u rd)(hb:Below w.heap.size w w'):Ia w' g e x v u rd:=⟨(hb.block g h.lt).trans h.hp⟩
theorem Ia.new(w:World)(e:Nat)(x:Int)(v:Value)(u rd:Nat):Ia (w.alloc (.cells #[.int .u8 (e:Int),i64V x,v,.int .i64 (u:Int),.int .i64 (rd:Int)] 32)) w.heap.size e x v u rd:=⟨AX w _⟩
theorem Pd(s:List UInt8)(v vm:Value)(l lm:List Int)(fl:Nat)(w:World)(hs:s.length≤1000000000000000)(hT:Cv w)(hTP:TabP w)(hin:Ints w v l)(hl:l.length≤1000000000000000)(hmn:Ints w vm lm)(hlm:lm.length≤1000000000000000)(hf:fl≤65535):
 Calls Tryz.prog 4 #[.string ⟨s.toArray⟩,v,vm,.int .u16 (fl:Int)] w fun e w'=>e= .returned (.bool true)∧Below w.heap.size w w':=by
 have TA:=zz (VA w hT hTP);have HT:=zz hT;have HIN:=zz (And.intro hin hmn);have HL:=zz (And.intro hl hlm);have TP:=zz (fun W=>NF s W hs);have TG:=zz (Hg.Mq s);generalize Hg.Gv s=x at TP TG;obtain⟨av,cv,rfl,-⟩:=hin.2;obtain⟨avm,cvm,rfl,-⟩:=hmn.2;have hf0:(0:Int)≤(fl:Int):=by omega
 have hf1:(fl:Int)≤65535:=by omega
 clear hs hT hTP hin hl hf hmn hlm;go_enter Tryz.func4,Tryz.ntmps4;go_wp2_with fail;refine TA.out.mono ?_;rintro e w1 ⟨rfl,hb1⟩;have HB1:=zz hb1;clear TA hb1;go_wp2_with fail;refine(TP.out w1).mono ?_;rintro e w2 ⟨ab,mb,c,vx,rfl,hA2,hx2,hb2⟩;obtain⟨ax,cx,rfl⟩:=hx2.form;have HA2:=zz hA2;have HB2:=zz (HB1.out.trans (hb2.mono HB1.out.size));obtain⟨r,hr,TR⟩:=Pe TG.out w2.heap.size _ w2 AA hx2;have TR:=zz TR;have HR:=zz hr;clear TP hA2 hx2 hb2 hr;go_wp2_with fail;refine TR.out.mono ?_;rintro e w3 ⟨rfl,hb3⟩;have HB3:=zz (HB2.out.trans (hb3.mono HB2.out.size));have HA3:=zz (HA2.out.below hb3 AA);clear TR hb3;by_cases h0:r=0
 ·subst h0
  have HA:=zz (Tg.ar TG.out HR.out HA3.out);have HRT:=TG.out.rt HR.out;obtain⟨R,hR⟩:=HRT.laws;have TI:=zz (Uh _ l w3 (HIN.out.1.below HB3.out) HL.out.1);go_wp2_with fail;refine TI.out.mono ?_;rintro e wi ⟨v4,rfl,hi4,hb4⟩;obtain⟨a4,c4,rfl,-⟩:=hi4.2;have HL1:=zz (show(l.take 20).length≤20 from by rw[List.length_take];omega);generalize l.take 20=inp at hi4 HL1⊢;have HBi:=zz (HB3.out.trans (hb4.mono HB3.out.size));have HAi:=zz (HA.out.below hb4);have TI2:=zz (Uh _ lm wi (HIN.out.2.below HBi.out) HL.out.2);have HI4:=zz hi4;clear TI hb4 HA HA3 hi4;go_wp2_with fail;refine TI2.out.mono ?_;rintro e w4 ⟨vm4,rfl,hm4,hb4⟩;obtain⟨am,cm,rfl,-⟩:=hm4.2;have HLI:=zz (show inp.length≤20∧(lm.take 20).length≤20 from⟨HL1.out,by rw[List.length_take];omega⟩);have HI:=zz (And.intro (HI4.out.below hb4) hm4);generalize lm.take 20=mor at HI HLI⊢;have HB4:=zz (HBi.out.trans (hb4.mono HBi.out.size));have HA4:=zz (HAi.out.below hb4);have TRUN:=zz (fun F inp iv W (hb:Below w4.heap.size w4 W) (hi:Ints W iv inp) (hl:inp.length≤1000000) (hF:F≤50000)=>UH HRT hR F inp iv ab W (HA4.out.below hb) (HT.out.block ((HB4.out.trans (hb.mono HB4.out.size)).block _ HT.out.lt)) hi hl hF);have LW:=zz hR;clear hR HRT HR TI2 hm4 hb4 HI4;go_upto_region 8 with fail;rw[show(fl:Int) % 800=((fl % 800:Nat):Int) by omega];have hfb:fl % 800 < 800:=Nat.mod_lt _ (by decide);generalize fl % 800=f at hfb⊢;have T5:=zz (TRUN.out f inp _ w4 (AL) HI.out.1 (by have:=HLI.out;omega) (by omega));have HQ:=zz (show(R f inp).2.used≤f∧(R f inp).2.trace.length≤(R f inp).2.used∧(R f inp).2.rd≤20000*f∧((R f inp).2.rd≤inp.length→R f (inp.take (R f inp).2.rd++mor)=R f inp) from⟨LW.out.used f inp,LW.out.told f inp,LW.out.rd f inp,LW.out.quiet f inp mor⟩);have T13:=zz (fun W (hb:Below w4.heap.size w4 W)=>TRUN.out f inp _ W hb (HI.out.1.below hb) (by have:=HLI.out;omega) (by omega));generalize R f inp=r1 at T5 HQ T13;obtain⟨o1,e1,u1,tr1,d1⟩:=r1;clear hf0 hf1 LW;go_wp2_with fail;refine T5.out.mono ?_;rintro e w5 ⟨v5,rfl,ho5,hb5⟩;have HI5:=zz (Ints.Aj ho5);obtain⟨a5,c5,rfl,-⟩:=HI5.out.2;have HB5:=zz hb5;clear T5 ho5 hb5
  try dsimp only
  generalize hx1:valO o1=x1;have HX1:=zz hx1;clear hx1;go_upto_region 9 with fail;have hb6:Below w5.heap.size w5 (w5.alloc (.cells #[.int .u8 (e1:Int),i64V x1,.slice a5 tr1.length c5,.int .i64 (u1:Int),.int .i64 (d1:Int)] 32)):=(AL).alloc AA _;have HR6:=zz (Ia.new w5 e1 x1 (.slice a5 tr1.length c5) u1 d1);have HB6:=zz (HB5.out.trans (hb6.mono HB5.out.size));have HI6:=zz (HI5.out.below hb6);clear hb6 HI5 HB5;generalize World.alloc w5 _=w6 at HR6 HB6 HI6⊢;generalize w5.heap.size=g1 at HR6⊢;obtain⟨k1,k2,k3,k4⟩:=HQ.out
  try dsimp only at k1 k2 k3 k4
  have HT1:=zz (show tr1.length≤1000000 from by omega);have hu0:(u1:Int)≤1000000:=by omega
  have hd0:(d1:Int)≤100000000:=by omega
  have hq0:tr1.length≤u1:=k2;obtain⟨z0,z1,z2,z3,z4⟩:=HR6.out.cells;by_cases hd:d1≤inp.length
  case' pos=>
   have q1:decide (d1≤inp.length)=true:=decide_eq_true hd;have q1':decide ((d1:Int)≤(inp.length:Int))=true:=decide_eq_true (by omega);obtain⟨j0,hj,hj0,hj1,hj2⟩:=info_parts Xl;obtain⟨a4',c4',hv4,hc4⟩:=HI.out.1.2;injection hv4 with e7 e8 e9;subst e7;subst e9;have hsl:=fun W=>MG W a4 inp.length c4 d1 (by omega);have HIT:=zz ((HI.out.1.below HB6.out).take hd);have hdl:(inp.take d1).length=d1:=by rw[List.length_take];omega
   have HDL:=zz hdl;have HM6:=zz (HI.out.2.below HB6.out);clear hdl hc4 e8;have z4':=EB z4 (.cells #[] 2)
   go_wp2_with (at_builtin;refine Bd _ rfl (.tmp 42) (.tmp 46) _ rfl w6.heap.size 2 j0 _ 8 Tryz.underlying22 hj hj0 hj1 hj2 rfl _ _ _ rfl (Da _ _ _ ?_) w6.heap.size _ _ _ rfl (HIT.out.1.alloc ?_ _) ?_ (WH _) ?_ ?_ ?_ ?_)
   all_goals try(first|(simp;done)|(have:=HDL.out;have:=HLI.out;first|omega|(unfold maxLen;omega)))
   intro v7 W7 own7 g7 at7;have own7':W7.ownsRow w6.heap.size 2 1 v7 (inp.take d1).length ((inp.take d1).map i64V):=by rw[HDL.out];simpa using own7
   have hb7:Below w6.heap.size w6 W7:=((Below.refl w6.heap.size w6).alloc AA _).grown g7 (by simp) (fun k hk=>by simp[Value.ownBlock] at hk;omega);obtain⟨a7,c7,hv7,-⟩:=(Ints.Aj own7').2;rw[HDL.out] at hv7;subst hv7;have HM7:=zz (HM6.out.below hb7);have HB7:=zz hb7;have hm20:mor.length≤20:=HLI.out.2;have hd20:d1≤20:=by have:=HLI.out.1;omega
   rw[HDL.out] at own7';clear own7 g7 at7 hb7 hsl
   go_wp2_with (at_builtin;refine Bd _ rfl (.tmp 47) (.tmp 48) _ rfl w6.heap.size 2 j0 _ 8 Tryz.underlying22 hj hj0 hj1 hj2 rfl _ _ _ rfl own7' W7.heap.size _ _ _ rfl HM7.out.1 ?_ (WH _) ?_ ?_ ?_ ?_)
   all_goals try(first|(simp;done)|(have:=HB7.out.size;first|omega|(unfold maxLen;omega)))
   intro v8 W8 own8 g8 at8;have hql:(inp.take d1++mor).length=d1+mor.length:=by rw[List.length_append,HDL.out]
   have own8':W8.ownsRow w6.heap.size 2 1 v8 (inp.take d1++mor).length ((inp.take d1++mor).map i64V):=by rw[hql,List.map_append,List.map_take];exact own8
   have hb8:Below w6.heap.size w6 W8:=HB7.out.grown g8 HB7.out.size (fun k hk=>(own7'.lt k hk).1);have HI8:=zz (Ints.Aj own8');obtain⟨a8,c8,hv8,-⟩:=HI8.out.2;rw[hql] at hv8;subst hv8;have T9:=zz (TRUN.out f _ _ W8 (HB6.out.trans (hb8.mono HB6.out.size)) HI8.out (by rw[hql];omega) (by omega));rw[k4 hd] at T9;have HB8:=zz hb8;clear own8 own8' own7' g8 at8 hb8 hql z4';go_wp2_with fail;refine T9.out.mono ?_;rintro e w9 ⟨v9,rfl,ho9,hb9⟩;have HI9:=zz (Ints.Aj ho9);obtain⟨a9,c9,rfl,-⟩:=HI9.out.2
   try dsimp only
   rw[HX1.out];have HBa:=zz (HB8.out.trans (hb9.mono HB8.out.size));clear T9 ho9 hb9;go_upto_region 11 with fail;have hb10:Below w9.heap.size w9 (w9.alloc (.cells #[.int .u8 (e1:Int),i64V x1,.slice a9 tr1.length c9,.int .i64 (u1:Int),.int .i64 (d1:Int)] 32)):=(AL).alloc AA _;have HS10:=zz (Ia.new w9 e1 x1 (.slice a9 tr1.length c9) u1 d1);have HBb:=zz (HBa.out.trans (hb10.mono HBa.out.size));have HIb:=zz (And.intro (HI6.out.below HBb.out) (HI9.out.below hb10));clear hb10 HI9 HBa;generalize World.alloc w9 _=w10 at HS10 HBb HIb⊢;generalize w9.heap.size=g2 at HS10⊢;clear z0 z1 z2 z3 z4;obtain⟨⟨z0,z1,z2,z3,z4⟩,y0,y1,y2,y3,y4⟩:=And.intro (HR6.out.below HBb.out).cells HS10.out.cells;have TS:=zz (UI e1 x1 _ _ u1 u1 d1 d1 tr1 w10 HT1.out HIb.out.1 HIb.out.2);go_wp2_with fail;refine TS.out.mono ?_;rintro e w11 ⟨rfl,hb11⟩;clear z0 z1 z2 z3 z4 y0 y1 y2 y3 y4 TS;obtain⟨⟨z0,z1,z2,z3,z4⟩,y0,y1,y2,y3,y4⟩:=And.intro ((HR6.out.below HBb.out).below hb11).cells (HS10.out.below hb11).cells;have HBc:=zz (HBb.out.trans (hb11.mono HBb.out.size));clear hb11;go_upto_region 13 with fail;clear z0 z1 z2 z3 z4 y0 y1 y2 y3 y4;have HB9:=zz (HB6.out.trans (HBc.out.mono HB6.out.size));have HR9:=zz (HR6.out.below HBc.out);have HI9:=zz (HI6.out.below HBc.out);clear HBc HBb HIb HS10 HB8 HI8 HIT HM6 HM7 HB7;generalize w11=w9 at HB9 HR9 HI9⊢
  case' neg=>
   have q1:decide (d1≤inp.length)=false:=decide_eq_false hd;have q1':decide ((d1:Int)≤(inp.length:Int))=false:=decide_eq_false (by omega);go_upto_region 13 with fail;clear z0 z1 z2 z3 z4;have HB9:=zz HB6.out;have HR9:=zz HR6.out;have HI9:=zz HI6.out;generalize w6=w9 at HB9 HR9 HI9⊢
  all_goals
   have T9:=zz (T13.out _ HB9.out);have q2:decide (tr1.length≤u1)=true:=decide_eq_true k2;have q2':decide ((tr1.length:Int)≤(u1:Int))=true:=decide_eq_true (by omega);clear hd q1 q1' HR6 HI6;go_wp2_with fail;refine T9.out.mono ?_;rintro e wa ⟨v9,rfl,ho9,hb9⟩;have HIa:=zz (Ints.Aj ho9);obtain⟨a9,c9,rfl,-⟩:=HIa.out.2
   try dsimp only
   rw[HX1.out];have HBa:=zz (HB9.out.trans (hb9.mono HB9.out.size));have HRa:=zz (And.intro (HR9.out.below hb9) (HI9.out.below hb9));clear T9 ho9 hb9;go_upto_region 14 with fail;have hb10:Below wa.heap.size wa (wa.alloc (.cells #[.int .u8 (e1:Int),i64V x1,.slice a9 tr1.length c9,.int .i64 (u1:Int),.int .i64 (d1:Int)] 32)):=(AL).alloc AA _;have HS10:=zz (Ia.new wa e1 x1 (.slice a9 tr1.length c9) u1 d1);have HBb:=zz (HBa.out.trans (hb10.mono HBa.out.size));have HIb:=zz (And.intro (HRa.out.2.below hb10) (HIa.out.below hb10));have HRb:=zz (HRa.out.1.below hb10);clear hb10 HIa HBa HRa;generalize World.alloc wa _=w10 at HS10 HBb HIb HRb⊢;generalize wa.heap.size=g2 at HS10⊢;obtain⟨⟨z0,z1,z2,z3,z4⟩,y0,y1,y2,y3,y4⟩:=And.intro HRb.out.cells HS10.out.cells;have TS:=zz (UI e1 x1 _ _ u1 u1 d1 d1 tr1 w10 HT1.out HIb.out.1 HIb.out.2);go_wp2_with fail;refine TS.out.mono ?_;rintro e w11 ⟨rfl,hb11⟩;clear z0 z1 z2 z3 z4 y0 y1 y2 y3 y4 TS;obtain⟨⟨z0,z1,z2,z3,z4⟩,y0,y1,y2,y3,y4⟩:=And.intro (HRb.out.below hb11).cells (HS10.out.below hb11).cells;have HBc:=zz (HBb.out.trans (hb11.mono HBb.out.size));clear hb11;go_wp2;go_ret;exact⟨rfl,HB4.out.trans (HBc.out.mono HB4.out.size)⟩
 ·have q:((r:Int) !=0)=true:=by simp[h0]
  clear h0;go_wp2;go_ret;exact⟨rfl,HB3.out⟩
end Go.Proofs.YtfgnfpdfohjopaaGreatDoor.Rn
