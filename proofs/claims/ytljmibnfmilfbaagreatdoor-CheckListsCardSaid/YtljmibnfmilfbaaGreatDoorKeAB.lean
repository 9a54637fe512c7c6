/-
  Part of the proof of CheckLists.
-/
import Derived.Test.YtljmibnfmilfbaaGreatDoorKeAA
set_option linter.all false
namespace Hg
namespace Rd
theorem Ht(f:Nat):∀(g:Nat) (s:Rd) (m:Nat) (t:Str) (s':Rd),BF f g s m t=some s'→EY s s':=by
 intro g
 induction g with
 |zero=>intro s m t s' h;simp[BF] at h
 |succ g ih=>
   intro s m t s' h;rw[BF] at h;by_cases hb:s.bad=true
   ·rw[if_pos hb] at h;injection h with h;subst h;exact EY.refl _
   rw[if_neg hb] at h;by_cases hn:s.next [125]=true
   ·rw[if_pos hn] at h;injection h with h;subst h;exact(Am _).s.f
   rw[if_neg hn] at h;cases he:func f s m t with
   |none=>rw[he] at h;simp at h
   |some a=>
     rw[he] at h;exact(Su _ _ _ _ _ he).trans (ih _ _ _ _ h)
structure MInv (s:Rd):Prop where
 inv:Inv s
 lt:s.mods.length < s.rows.length
theorem Lf{s a:Rd}(h:MInv s)(e:Ad s a):MInv a:=⟨e.inv h.inv,by rw[e.mods];exact Nat.lt_of_lt_of_le h.lt e.grow.len⟩
theorem Nt{s:Rd}(h:MInv s)(t:Str):Inv {s with mods:=s.mods++[t]}:=
 ⟨by simp;exact h.lt,h.inv.funcs,h.inv.ids,h.inv.calls,h.inv.wants,h.inv.used,h.inv.seen,h.inv.kids,h.inv.rid,h.inv.callr⟩
theorem Km{s:Rd}(h:Inv s)(u:Nat)(n:Node)(hn:n.kids=[]):MInv (s.node u n):=⟨QU h u n hn,by rw[Av];have:=h.mods;show s.mods.length < _;omega⟩
theorem Si{s a:Rd}(h:MInv s)(e:EY s a):MInv a:=⟨e.inv h.inv,by rw[e.mods];exact Nat.lt_of_lt_of_le h.lt e.grow.len⟩
theorem Ia(f:Nat):∀(g:Nat) (s:Rd) (root:Nat) (s':Rd),Ba f g s root=some s'→Grow s s'∧s'.deep=s.deep∧(MInv s→MInv s'):=by
 intro g
 induction g with
 |zero=>intro s r s' h;simp[Ba] at h
 |succ g ih=>
   intro s root s' h;rw[Ba] at h;by_cases hb:s.bad=true∨s.L.length≤s.at_
   ·rw[if_pos hb] at h;injection h with h;subst h;exact⟨Grow.refl _,rfl,id⟩
   rw[if_neg hb] at h;dsimp only at h;have A1:Ad s (s.need Bn).name:=(AZ _ _).trans (Cw _);generalize(s.need Bn).text 1=t at h;generalize(s.need Bn).name=a at h A1;have A2:Ad s (if inL a.mods t=true then a.fault 10 else a):=A1.trans (KM _ _);generalize(if inL a.mods t=true then a.fault 10 else a)=b at h A2;generalize hc:({b with mods:=b.mods++[t]}:Rd)=c at h;have gc:Grow b c:=by rw[←hc];exact Be rfl (Nat.le_refl _) id rfl
   have dc:c.deep=b.deep:=by rw[←hc]
   cases he:BF f f ((c.node root (AO 2 t)).need [123]) b.rows.length t with
   |none=>rw[he] at h;simp at h
   |some d=>
     rw[he] at h;obtain⟨g1,d1,m1⟩:=ih _ _ _ h;have F:=Ht _ _ _ _ _ _ he;have N:=Ah c root (AO 2 t) (EP _ _);have D:=AZ (c.node root (AO 2 t)) [123];refine⟨A2.grow.trans (gc.trans (N.grow.trans (D.grow.trans (F.grow.trans g1)))), ?_,fun hm=>m1 (Si (Lf (Km ?_ _ _ (EP _ _)) D) F)⟩
     ·rw[d1,F.deep,D.deep,N.deep,dc,A2.deep]
     ·rw[←hc];exact Nt (Lf hm A2) t
theorem Sk:∀(is:List Nat) (ws:List Str) (s:Rd),Ad s (link is ws s):=by
 intro is
 induction is with
 |nil=>intro ws s;cases ws <;>exact Ad.refl _
 |cons i is ih=>
   intro ws s;cases ws with
   |nil=>exact Ad.refl _
   |cons t ws=>
     rw[link];refine Ad.trans ?_ (ih ws _);refine Ad.trans ?_ (Ff _ _ _)
     split <;>first|exact Ih _ _|exact Ad.refl _
end Rd
end Hg
namespace Hg
namespace Rd
def mu(s:Rd):Nat:=if s.bad=true then 0 else s.L.length-s.at_+1
theorem YR{s:Rd}(h:s.bad=true):s.mu=0:=by unfold mu;rw[if_pos h]
theorem Le{s:Rd}(h:¬s.bad=true):s.mu=s.L.length-s.at_+1:=by unfold mu;rw[if_neg h]
theorem GZ{s:Rd}(h:¬s.bad=true):1≤s.mu:=by rw[Le h];omega
def Q(d e:Nat)(s s':Rd):Prop:=s'.mu≤s.mu-d∧s'.rows.length≤s.rows.length+e∧s'.at_+2*s'.mu≤s.at_+2*s.mu
def W(d e:Nat)(s s':Rd):Prop:=s'.mu≤s.mu-d∧s'.rows.length+3*s'.mu≤s.rows.length+3*s.mu+e∧s'.at_+2*s'.mu≤s.at_+2*s.mu
theorem Ea{s s':Rd}(hL:s'.L=s.L)(ha:s'.at_=s.at_)(hb:s.bad=true→s'.bad=true)(hr:s'.rows.length=s.rows.length):Q 0 0 s s':=by
 have h:s'.mu≤s.mu:=by
  unfold mu;rw[hL,ha];by_cases h1:s.bad=true
  ·rw[if_pos h1,if_pos (hb h1)];omega
  ·rw[if_neg h1];split <;>omega
 refine⟨by omega,by omega,by rw[ha];omega⟩
theorem UB{s:Rd}{k:Nat}(h:s.text k≠[]):¬s.bad=true∧s.at_ < s.L.length:=by
 unfold text at h;by_cases hb:s.bad=true
 ·rw[if_pos hb] at h;exact absurd rfl h
 ·rw[if_neg hb] at h
  refine⟨hb, ?_⟩;cases hg:s.L[s.at_]? with
  |none=>rw[hg] at h;exact absurd rfl h
  |some t=>exact(List.getElem?_eq_some_iff.1 hg).1
theorem Gh{s:Rd}{k:Nat}(h:s.text k≠[]):s.step.mu+1=s.mu∧s.step.at_=s.at_+1∧s.step.rows.length=s.rows.length:=by
 obtain⟨hb,ha⟩:=UB h;refine⟨?_,rfl,rfl⟩;rw[Le hb,Le (s:=s.step) hb];show s.L.length-(s.at_+1)+1+1=s.L.length-s.at_+1;omega
theorem Ve(s:Rd):s.step.mu≤s.mu∧s.step.at_=s.at_+1∧s.step.rows.length=s.rows.length:=by
 refine⟨?_,rfl,rfl⟩;unfold mu;show(if s.bad=true then 0 else s.L.length-(s.at_+1)+1)≤_
 split <;>omega
theorem Uc{s:Rd}{t:Str}(ht:t≠[])(h:s.next t=true):∃k,s.text k≠[]:=by
 unfold next at h;rw[Bool.or_eq_true] at h;rcases h with h|h
 ·exact⟨3,by rw[beq_iff_eq.1 h];exact ht⟩
 ·exact⟨4,by rw[beq_iff_eq.1 h];exact ht⟩
theorem BX{s:Rd}{t:Str}(ht:t≠[])(h:s.next t=true):s.step.mu+1=s.mu∧s.step.at_=s.at_+1∧s.step.rows.length=s.rows.length:=by
 obtain⟨k,hk⟩:=Uc ht h;exact Gh hk
theorem Jq(s:Rd):s.setBad.mu=0∧s.setBad.rows.length=s.rows.length∧s.setBad.at_=s.at_:=⟨YR rfl,rfl,rfl⟩
theorem Ci(s:Rd){t:Str}(ht:t≠[]):Q 1 0 s (s.need t):=by
 unfold need;split
 ·rename_i h
  obtain⟨h1,h2,h3⟩:=BX ht h;exact⟨by omega,by omega,by omega⟩
 ·obtain⟨h1,h2,h3⟩:=Jq s
  exact⟨by omega,by omega,by omega⟩
theorem Jb(s:Rd):Q 1 0 s s.name:=by
 unfold name;split
 ·obtain⟨h1,h2,h3⟩:=Jq s
  exact⟨by omega,by omega,by omega⟩
 ·rename_i h
  obtain⟨h1,h2,h3⟩:=Gh h;exact⟨by omega,by omega,by omega⟩
theorem OZ(s:Rd):Q 1 0 s s.typed.2:=by
 unfold typed;split
 ·rename_i h
  obtain⟨h1,h2,h3⟩:=BX (by decide) h;show Q 1 0 s s.step;exact⟨by omega,by omega,by omega⟩
 ·exact Ci s (by decide)
theorem Cs(s:Rd)(u:Nat)(n:Node):(s.node u n).mu=s.mu∧(s.node u n).rows.length=s.rows.length+1∧(s.node u n).at_=s.at_:=⟨rfl,Av s u n,rfl⟩
theorem KG(s:Rd)(e:Nat):Q 0 0 s (s.fault e):=by
 unfold fault;split
 ·exact Ea rfl rfl id rfl
 ·exact Ea rfl rfl id rfl
theorem Wo(s:Rd)(t:Str):Q 0 0 s (s.find t).2:=by
 unfold find;split
 ·exact Ea rfl rfl id rfl
 ·exact KG s _
theorem Ka(s:Rd)(k t:Nat):Q 0 0 s (s.Al k t):=Ea rfl rfl id (by simp[Al])
theorem MB(s:Rd)(k t:Nat):Q 0 0 s (s.setRef k t):=Ea rfl rfl id (by simp[setRef])
theorem Vg(s:Rd)(k:Nat)(t:Int):Q 0 0 s (s.BL k t):=Ea rfl rfl id (by simp[BL])
theorem OJ(s:Rd)(t:Str)(k:Nat):Q 0 0 s (s.declare t k):=by
 unfold declare;dsimp only;split
 ·have h:=KG s 10
  exact⟨h.1,h.2.1,h.2.2⟩
 ·exact Ea rfl rfl id rfl
theorem Lj(s:Rd):Q 0 0 s s.enter:=by
 unfold enter;dsimp only;split
 ·exact Ea rfl rfl (fun _=>rfl) rfl
 ·exact Ea rfl rfl id rfl
theorem GM(s:Rd):s.leave.mu=s.mu∧s.leave.rows=s.rows∧s.leave.at_=s.at_:=⟨rfl,rfl,rfl⟩
theorem Vv:opOf []=0:=by decide
theorem OD(f:Nat):(∀s u,3*s.mu+1≤f→∃s',expr f s u=some s'∧W 1 0 s s')∧(∀s u m,3*s.mu+3≤f→∃s',call f s u m=some s'∧W 1 1 s s')∧
 (∀b s n,3*s.mu+2≤f→∃s',args f b s n=some s'∧W 0 0 s s'):=by
 induction f with
 |zero=>exact⟨fun s _ h=>by omega,fun s _ _ h=>by omega,fun _ s _ h=>by omega⟩
 |succ f ih=>
   obtain⟨ihe,ihc,iha⟩:=ih;refine⟨fun s u hf=> ?_,fun s u m hf=> ?_,fun b s n hf=> ?_⟩
   ·rw[expr]
    by_cases h2:s.text 2≠[]
    ·rw[if_pos h2]
     obtain⟨a1,a2,a3⟩:=Gh h2;obtain⟨b1,b2,b3⟩:=Cs s.step u (IX 13 (BZ (s.text 2)));exact⟨_,rfl,by omega,by omega,by omega⟩
    rw[if_neg h2];by_cases h1:s.text 1≠[]
    ·rw[if_pos h1]
     try dsimp only
     obtain⟨a1,a2,a3⟩:=Gh h1;by_cases hd:s.step.next [46]=true
     ·rw[if_pos hd]
      obtain⟨s',e,c1,c2,c3⟩:=ihc s.step u (s.text 1) (by omega);exact⟨s',e,by omega,by omega,by omega⟩
     ·rw[if_neg hd]
      obtain⟨b1,b2,b3⟩:=Cs s.step u (nd 15);obtain⟨c1,c2,c3⟩:=Wo (s.step.node u (nd 15)) (s.text 1);obtain⟨d1,d2,d3⟩:=MB ((s.step.node u (nd 15)).find (s.text 1)).2 s.step.rows.length ((s.step.node u (nd 15)).find (s.text 1)).1;exact⟨_,rfl,by omega,by omega,by omega⟩
    rw[if_neg h1];by_cases ht:s.next Eo=true
    ·rw[if_pos ht]
     obtain⟨a1,a2,a3⟩:=BX (by decide) ht;obtain⟨b1,b2,b3⟩:=Cs s.step u (IX 14 1);exact⟨_,rfl,by omega,by omega,by omega⟩
    rw[if_neg ht];by_cases hfa:s.next EI=true
    ·rw[if_pos hfa]
     obtain⟨a1,a2,a3⟩:=BX (by decide) hfa;obtain⟨b1,b2,b3⟩:=Cs s.step u (nd 14);exact⟨_,rfl,by omega,by omega,by omega⟩
    rw[if_neg hfa];by_cases hr:s.next GJ=true
    ·rw[if_pos hr]
     obtain⟨a1,a2,a3⟩:=BX (by decide) hr;obtain⟨b1,b2,b3⟩:=Cs s.step u (nd 20);exact⟨_,rfl,by omega,by omega,by omega⟩
    rw[if_neg hr];by_cases hn:s.next [33]=true∨s.next [45]=true
    ·rw[if_pos hn]
     have hst:s.step.mu+1=s.mu∧s.step.at_=s.at_+1∧s.step.rows.length=s.rows.length:=by
      rcases hn with h|h
      ·exact BX (by decide) h
      ·exact BX (by decide) h
     obtain⟨a1,a2,a3⟩:=hst
     try dsimp only
     generalize(if s.next [33]=true then 16 else 17)=kind;obtain⟨b1,b2,b3⟩:=Cs s.step u (nd kind);obtain⟨c1,c2,c3⟩:=Lj (s.step.node u (nd kind));by_cases hb:(s.step.node u (nd kind)).enter.bad=true
     ·rw[if_pos hb]
      obtain⟨d1,d2,d3⟩:=GM (s.step.node u (nd kind)).enter;exact⟨_,rfl,by omega,by rw[d2];omega,by omega⟩
     ·rw[if_neg hb]
      obtain⟨s',e,e1,e2,e3⟩:=ihe (s.step.node u (nd kind)).enter s.rows.length (by omega);rw[e];obtain⟨d1,d2,d3⟩:=GM s';exact⟨_,rfl,by omega,by rw[d2];omega,by omega⟩
    rw[if_neg hn];by_cases hp:s.next [40]=true
    ·rw[if_pos hp]
     obtain⟨a1,a2,a3⟩:=BX (by decide) hp
     try dsimp only
     obtain⟨b1,b2,b3⟩:=Cs s.step u (nd 18);obtain⟨c1,c2,c3⟩:=Lj (s.step.node u (nd 18));by_cases hb:(s.step.node u (nd 18)).enter.bad=true
     ·rw[if_pos hb]
      obtain⟨d1,d2,d3⟩:=GM (s.step.node u (nd 18)).enter;exact⟨_,rfl,by omega,by rw[d2];omega,by omega⟩
     ·rw[if_neg hb]
      obtain⟨s1,e,e1,e2,e3⟩:=ihe (s.step.node u (nd 18)).enter s.rows.length (by omega);rw[e]
      try dsimp only
      obtain⟨g1,g2,g3⟩:=Vg s1 s.rows.length (opOf (s1.text 4):Nat);have hmid:∀m,m=(if opOf (s1.text 4)=0 then(s1.BL s.rows.length (opOf (s1.text 4):Nat)).setBad else s1.BL s.rows.length (opOf (s1.text 4):Nat)).step→
       m.mu≤s1.mu∧m.rows.length≤s1.rows.length∧m.at_+2*m.mu≤s1.at_+2*s1.mu+1:=by
       intro m hm;subst hm;by_cases h0:opOf (s1.text 4)=0
       ·rw[if_pos h0]
        obtain⟨k1,k2,k3⟩:=Jq (s1.BL s.rows.length (opOf (s1.text 4):Nat));obtain⟨l1,l2,l3⟩:=Ve (s1.BL s.rows.length (opOf (s1.text 4):Nat)).setBad;exact⟨by omega,by omega,by omega⟩
       ·rw[if_neg h0]
        have h4:s1.text 4≠[]:=fun hh=>by rw[hh] at h0;exact h0 Vv
        obtain⟨l1,l2,l3⟩:=Gh (s:=s1.BL s.rows.length (opOf (s1.text 4):Nat)) (k:=4) h4;exact⟨by omega,by omega,by omega⟩
      obtain⟨m1,m2,m3⟩:=hmid _ rfl;generalize(if opOf (s1.text 4)=0 then(s1.BL s.rows.length (opOf (s1.text 4):Nat)).setBad else s1.BL s.rows.length (opOf (s1.text 4):Nat)).step=m at m1 m2 m3⊢;obtain⟨s2,n,n1,n2,n3⟩:=ihe m s.rows.length (by omega);rw[n];obtain⟨o1,o2,o3⟩:=Ci s2 (t:=[41]) (by decide);obtain⟨d1,d2,d3⟩:=GM (s2.need [41]);exact⟨_,rfl,by omega,by rw[d2];omega,by omega⟩
    rw[if_neg hp];obtain⟨k1,k2,k3⟩:=Jq s;exact⟨_,rfl,by omega,by omega,by omega⟩
   ·rw[call]
    try dsimp only
    obtain⟨a1,a2,a3⟩:=Cs s u (nd 19);obtain⟨b1,b2,b3⟩:=Ci (s.node u (nd 19)) (t:=[46]) (by decide);obtain⟨c1,c2,c3⟩:=Jb ((s.node u (nd 19)).need [46]);have hq:∀(cl:List Nat) (wl:List Str),Q 0 0 ((s.node u (nd 19)).need [46]).name {((s.node u (nd 19)).need [46]).name with calls:=cl,wants:=wl}:=fun _ _=>Ea rfl rfl id rfl;obtain⟨d1,d2,d3⟩:=hq (((s.node u (nd 19)).need [46]).name.calls++[((s.node u (nd 19)).need [46]).name.idAt s.rows.length]) (((s.node u (nd 19)).need [46]).name.wants++[m++[32]++((s.node u (nd 19)).need [46]).text 1]);generalize({((s.node u (nd 19)).need [46]).name with calls:=((s.node u (nd 19)).need [46]).name.calls++[((s.node u (nd 19)).need [46]).name.idAt s.rows.length],wants:=((s.node u (nd 19)).need [46]).name.wants++[m++[32]++((s.node u (nd 19)).need [46]).text 1]}:Rd)=b at d1 d2 d3⊢;obtain⟨e1,e2,e3⟩:=Lj b;by_cases hb:b.enter.bad=true
    ·rw[if_pos hb]
     obtain⟨g1,g2,g3⟩:=GM b.enter;exact⟨_,rfl,by omega,by rw[g2];omega,by omega⟩
    ·rw[if_neg hb]
     obtain⟨k1,k2,k3⟩:=Ci b.enter (t:=[40]) (by decide);have:=GZ hb;obtain⟨s1,e,l1,l2,l3⟩:=iha true (b.enter.need [40]) s.rows.length (by omega);rw[e];obtain⟨g1,g2,g3⟩:=GM s1;exact⟨_,rfl,by omega,by rw[g2];omega,by omega⟩
   ·rw[args]
    by_cases hb:s.bad=true
    ·rw[if_pos hb]
     exact⟨_,rfl,by omega,by omega,by omega⟩
    rw[if_neg hb];by_cases hn:s.next [41]=true
    ·rw[if_pos hn]
     obtain⟨a1,a2,a3⟩:=BX (by decide) hn;exact⟨_,rfl,by omega,by omega,by omega⟩
    rw[if_neg hn];have hq:Q 0 0 s (if b=true then s else s.need [44]):=by
     split
     ·exact⟨by omega,by omega,by omega⟩
     ·obtain⟨k1,k2,k3⟩:=Ci s (t:=[44]) (by decide)
      exact⟨by omega,by omega,by omega⟩
    obtain⟨a1,a2,a3⟩:=hq;have:=GZ hb;obtain⟨s1,e,b1,b2,b3⟩:=ihe (if b=true then s else s.need [44]) n (by omega);rw[e]
    try dsimp only
    obtain⟨s2,e2,c1,c2,c3⟩:=iha false s1 n (by omega);exact⟨s2,e2,by omega,by omega,by omega⟩
theorem UG(f:Nat):(∀s u,3*s.mu+3≤f→∃s',stmt f s u=some s'∧W 1 (if s.bad=true then 1 else 0) s s')∧(∀s u,3*s.mu+3≤f→∃s',block f s u=some s'∧W 0 1 s s')∧
 (∀s n,3*s.mu+4≤f→∃s',stmts f s n=some s'∧W 0 0 s s'):=by
 induction f with
 |zero=>exact⟨fun s _ h=>by omega,fun s _ h=>by omega,fun s _ h=>by omega⟩
 |succ f ih=>
   obtain⟨ihs,ihb,ihl⟩:=ih;obtain⟨ihe,ihc,_⟩:=OD f;refine⟨fun s u hf=> ?_,fun s u hf=> ?_,fun s n hf=> ?_⟩
   ·rw[stmt]
    try dsimp only
    have hw:(0:Nat)≤(if s.bad=true then 1 else 0):=Nat.zero_le _;generalize hwe:(if s.bad=true then 1 else 0)=wx at hw⊢;by_cases h1:s.next wLet=true
    ·rw[if_pos h1]
     obtain⟨a1,a2,a3⟩:=BX (by decide) h1;obtain⟨b1,b2,b3⟩:=Jb s.step;obtain⟨c1,c2,c3⟩:=Cs s.step.name u (AO 6 (s.step.text 1));obtain⟨d1,d2,d3⟩:=OZ (s.step.name.node u (AO 6 (s.step.text 1)));obtain⟨e1,e2,e3⟩:=Ka (s.step.name.node u (AO 6 (s.step.text 1))).typed.2 s.rows.length (s.step.name.node u (AO 6 (s.step.text 1))).typed.1;obtain⟨g1,g2,g3⟩:=Ci ((s.step.name.node u (AO 6 (s.step.text 1))).typed.2.Al s.rows.length (s.step.name.node u (AO 6 (s.step.text 1))).typed.1) (t:=[61]) (by decide);generalize(((s.step.name.node u (AO 6 (s.step.text 1))).typed.2.Al s.rows.length (s.step.name.node u (AO 6 (s.step.text 1))).typed.1).need [61])=a at g1 g2 g3⊢;obtain⟨b,e,k1,k2,k3⟩:=ihe a s.rows.length (by omega);rw[e];obtain⟨l1,l2,l3⟩:=OJ b (s.step.text 1) s.rows.length;obtain⟨m1,m2,m3⟩:=Ci (b.declare (s.step.text 1) s.rows.length) (t:=[59]) (by decide);exact⟨_,rfl,by omega,by omega,by omega⟩
    rw[if_neg h1];by_cases h2:s.next wIf=true
    ·rw[if_pos h2]
     obtain⟨a1,a2,a3⟩:=BX (by decide) h2;obtain⟨c1,c2,c3⟩:=Cs s.step u (nd 8);obtain⟨a,e,k1,k2,k3⟩:=ihe (s.step.node u (nd 8)) s.rows.length (by omega);rw[e]
     try dsimp only
     obtain⟨b,e2,l1,l2,l3⟩:=ihb a s.rows.length (by omega);rw[e2]
     try dsimp only
     obtain⟨m1,m2,m3⟩:=Ci b (t:=Ls) (by decide);obtain⟨c,e4,n1,n2,n3⟩:=ihb (b.need Ls) s.rows.length (by omega);exact⟨c,e4,by omega,by omega,by omega⟩
    rw[if_neg h2];by_cases h3:s.next Gv=true
    ·rw[if_pos h3]
     obtain⟨a1,a2,a3⟩:=BX (by decide) h3;obtain⟨c1,c2,c3⟩:=Cs s.step u (nd 9);obtain⟨a,e,k1,k2,k3⟩:=ihe (s.step.node u (nd 9)) s.rows.length (by omega);rw[e]
     try dsimp only
     obtain⟨b,e2,l1,l2,l3⟩:=ihb a s.rows.length (by omega);exact⟨b,e2,by omega,by omega,by omega⟩
    rw[if_neg h3];by_cases h4:s.next Gw=true
    ·rw[if_pos h4]
     obtain⟨a1,a2,a3⟩:=BX (by decide) h4;obtain⟨c1,c2,c3⟩:=Cs s.step u (nd 11);obtain⟨a,e,k1,k2,k3⟩:=ihe (s.step.node u (nd 11)) s.rows.length (by omega);rw[e];obtain⟨m1,m2,m3⟩:=Ci a (t:=[59]) (by decide);exact⟨a.need [59],rfl,by omega,by omega,by omega⟩
    rw[if_neg h4];by_cases h5:s.next wDo=true
    ·rw[if_pos h5]
     obtain⟨a1,a2,a3⟩:=BX (by decide) h5;obtain⟨c1,c2,c3⟩:=Cs s.step u (nd 12);obtain⟨d1,d2,d3⟩:=Jb (s.step.node u (nd 12));obtain⟨a,e,k1,k2,k3⟩:=ihc (s.step.node u (nd 12)).name s.rows.length ((s.step.node u (nd 12)).text 1) (by omega);rw[e];obtain⟨m1,m2,m3⟩:=Ci a (t:=[59]) (by decide);exact⟨a.need [59],rfl,by omega,by omega,by omega⟩
    rw[if_neg h5];have hx:s.mu=0→wx=1:=fun h0=>by
     rw[←hwe];by_cases hb:s.bad=true
     ·rw[if_pos hb]
     ·have:=GZ hb;omega
    obtain⟨a1,a2,a3⟩:=Jb s;obtain⟨c1,c2,c3⟩:=Cs s.name u (nd 7);obtain⟨d1,d2,d3⟩:=Wo (s.name.node u (nd 7)) (s.text 1);obtain⟨e1,e2,e3⟩:=MB ((s.name.node u (nd 7)).find (s.text 1)).2 s.rows.length ((s.name.node u (nd 7)).find (s.text 1)).1;obtain⟨g1,g2,g3⟩:=Ci (((s.name.node u (nd 7)).find (s.text 1)).2.setRef s.rows.length ((s.name.node u (nd 7)).find (s.text 1)).1) (t:=[61]) (by decide);generalize((((s.name.node u (nd 7)).find (s.text 1)).2.setRef s.rows.length ((s.name.node u (nd 7)).find (s.text 1)).1).need [61])=a at g1 g2 g3⊢;obtain⟨b,e,k1,k2,k3⟩:=ihe a s.rows.length (by omega);rw[e];obtain⟨m1,m2,m3⟩:=Ci b (t:=[59]) (by decide);refine⟨b.need [59],rfl,by omega, ?_,by omega⟩;by_cases h0:s.mu=0
    ·have:=hx h0;omega
    ·omega
   ·rw[block]
    try dsimp only
    obtain⟨a1,a2,a3⟩:=Cs s u (nd 5);have hq:Q 0 0 (s.node u (nd 5)) ({(s.node u (nd 5)) with level:=(s.node u (nd 5)).level+1}:Rd):=Ea rfl rfl id rfl;obtain⟨b1,b2,b3⟩:=hq;generalize({(s.node u (nd 5)) with level:=(s.node u (nd 5)).level+1}:Rd)=b at b1 b2 b3⊢;obtain⟨c1,c2,c3⟩:=Lj b;by_cases hb:b.enter.bad=true
    ·rw[if_pos hb]
     obtain⟨d1,d2,d3⟩:=GM b.enter;exact⟨_,rfl,by show b.enter.leave.mu≤_;omega,by show b.enter.leave.rows.length+3*b.enter.leave.mu≤_;rw[d2];omega,by show b.enter.leave.at_+2*b.enter.leave.mu≤_;omega⟩
    ·rw[if_neg hb]
     have:=GZ hb;obtain⟨k1,k2,k3⟩:=Ci b.enter (t:=[123]) (by decide);obtain⟨a,e,l1,l2,l3⟩:=ihl (b.enter.need [123]) s.rows.length (by omega);rw[e];obtain⟨d1,d2,d3⟩:=GM a;exact⟨_,rfl,by show a.leave.mu≤_;omega,by show a.leave.rows.length+3*a.leave.mu≤_;rw[d2];omega,by show a.leave.at_+2*a.leave.mu≤_;omega⟩
   ·rw[stmts]
    by_cases hb:s.bad=true
    ·rw[if_pos hb]
     exact⟨_,rfl,by omega,by omega,by omega⟩
    rw[if_neg hb];by_cases hn:s.next [125]=true
    ·rw[if_pos hn]
     obtain⟨a1,a2,a3⟩:=BX (by decide) hn;exact⟨_,rfl,by omega,by omega,by omega⟩
    rw[if_neg hn];have:=GZ hb;obtain⟨a,e,k1,k2,k3⟩:=ihs s n (by omega);rw[if_neg hb] at k2;rw[e]
    try dsimp only
    obtain⟨b,e2,l1,l2,l3⟩:=ihl a n (by omega);exact⟨b,e2,by omega,by omega,by omega⟩
theorem Pt:∀(f:Nat) (b:Bool) (s:Rd) (k:Nat),s.mu+1≤f→∃s',params f b s k=some s'∧W 0 0 s s':=by
 intro f
 induction f with
 |zero=>intro b s k h;omega
 |succ f ih=>
   intro b s k hf;rw[params];by_cases hb:s.bad=true
   ·rw[if_pos hb]
    exact⟨_,rfl,by omega,by omega,by omega⟩
   rw[if_neg hb];by_cases hn:s.next [41]=true
   ·rw[if_pos hn]
    obtain⟨a1,a2,a3⟩:=BX (by decide) hn;exact⟨_,rfl,by omega,by omega,by omega⟩
   rw[if_neg hn]
   try dsimp only
   have hm:=GZ hb;have hq:Q 0 0 s (if b=true then s else s.need [44]):=by
    split
    ·exact⟨by omega,by omega,by omega⟩
    ·obtain⟨k1,k2,k3⟩:=Ci s (t:=[44]) (by decide)
     exact⟨by omega,by omega,by omega⟩
   have hx:(if b=true then s else s.need [44]).mu=0→(if b=true then s else s.need [44]).mu < s.mu:=fun h=>by omega
   obtain⟨z1,z2,z3⟩:=hq;generalize(if b=true then s else s.need [44])=r at z1 z2 z3 hx⊢;obtain⟨b1,b2,b3⟩:=Jb r;obtain⟨c1,c2,c3⟩:=Cs r.name k (AO 4 (r.text 1));obtain⟨d1,d2,d3⟩:=OZ (r.name.node k (AO 4 (r.text 1)));obtain⟨e1,e2,e3⟩:=Ka (r.name.node k (AO 4 (r.text 1))).typed.2 r.rows.length (r.name.node k (AO 4 (r.text 1))).typed.1;obtain⟨l1,l2,l3⟩:=OJ ((r.name.node k (AO 4 (r.text 1))).typed.2.Al r.rows.length (r.name.node k (AO 4 (r.text 1))).typed.1) (r.text 1) r.rows.length;obtain⟨s',e,m1,m2,m3⟩:=ih false (((r.name.node k (AO 4 (r.text 1))).typed.2.Al r.rows.length (r.name.node k (AO 4 (r.text 1))).typed.1).declare (r.text 1) r.rows.length) k (by omega);exact⟨s',e,by omega,by omega,by omega⟩
theorem VI:∀(f:Nat) (s:Rd) (n:Nat),3*s.mu+4≤f→∃s',body f s n=some s'∧W 0 0 s s':=by
 intro f
 induction f with
 |zero=>intro s n h;omega
 |succ f ih=>
   intro s n hf;rw[body];by_cases hb:s.bad=true∨s.next Aw=true
   ·rw[if_pos hb]
    exact⟨_,rfl,by omega,by omega,by omega⟩
   rw[if_neg hb];have hbb:¬s.bad=true:=fun h=>hb (.inl h);have:=GZ hbb;obtain⟨a,e,k1,k2,k3⟩:=(UG f).1 s n (by omega);rw[if_neg hbb] at k2;rw[e]
   try dsimp only
   obtain⟨b,e2,l1,l2,l3⟩:=ih a n (by omega);exact⟨b,e2,by omega,by omega,by omega⟩
theorem Uv(f:Nat)(s:Rd)(u:Nat)(m:Str)(hb:¬s.bad=true)(hf:3*s.mu+4≤f):∃s',func f s u m=some s'∧W 1 0 s s':=by
 unfold func
 try dsimp only
 have hm:=GZ hb;obtain⟨a1,a2,a3⟩:=Ci s (t:=CX) (by decide);obtain⟨b1,b2,b3⟩:=Jb (s.need CX);generalize(s.need CX).text 1=t;generalize(s.need CX).name=a at b1 b2 b3⊢;have hq:Q 0 0 a (if inL a.funcs (m++[32]++t)=true then a.fault 10 else a):=by
  split
  ·exact KG a 10
  ·exact⟨by omega,by omega,by omega⟩
 obtain⟨c1,c2,c3⟩:=hq;generalize(if inL a.funcs (m++[32]++t)=true then a.fault 10 else a)=b at c1 c2 c3⊢;change∃s',(match params f true (((b.node u (AO 3 t)).Fv (m++[32]++t) b.rows.length).need [40]) b.rows.length with
  |none=>none
  |some r=>_)=some s'∧_
 obtain⟨d1,d2,d3⟩:=Cs b u (AO 3 t);have hq2:Q 0 0 (b.node u (AO 3 t)) ((b.node u (AO 3 t)).Fv (m++[32]++t) b.rows.length):=Ea rfl rfl id rfl;obtain⟨e1,e2,e3⟩:=hq2;generalize(b.node u (AO 3 t)).Fv (m++[32]++t) b.rows.length=c at e1 e2 e3⊢;obtain⟨g1,g2,g3⟩:=Ci c (t:=[40]) (by decide);obtain⟨p,hp,k1,k2,k3⟩:=Pt f true (c.need [40]) b.rows.length (by omega);rw[hp]
 try dsimp only
 obtain⟨l1,l2,l3⟩:=OZ p;obtain⟨m1,m2,m3⟩:=Ka p.typed.2 b.rows.length p.typed.1;obtain⟨n1,n2,n3⟩:=Cs (p.typed.2.Al b.rows.length p.typed.1) b.rows.length (nd 5);obtain⟨o1,o2,o3⟩:=Ci ((p.typed.2.Al b.rows.length p.typed.1).node b.rows.length (nd 5)) (t:=[123]) (by decide);generalize((p.typed.2.Al b.rows.length p.typed.1).node b.rows.length (nd 5)).need [123]=q at o1 o2 o3⊢;obtain⟨v,hv,p1,p2,p3⟩:=VI f q (p.typed.2.Al b.rows.length p.typed.1).rows.length (by omega);rw[hv]
 try dsimp only
 obtain⟨q1,q2,q3⟩:=Ci v (t:=Aw) (by decide);obtain⟨r1,r2,r3⟩:=Cs (v.need Aw) (p.typed.2.Al b.rows.length p.typed.1).rows.length (nd 10);obtain⟨x,hx,s1,s2,s3⟩:=(OD f).1 ((v.need Aw).node (p.typed.2.Al b.rows.length p.typed.1).rows.length (nd 10)) (v.need Aw).rows.length (by omega);rw[hx];obtain⟨t1,t2,t3⟩:=Ci x (t:=[59]) (by decide);obtain⟨u1,u2,u3⟩:=Ci (x.need [59]) (t:=[125]) (by decide);exact⟨_,rfl,by omega,by omega,by omega⟩
theorem Mo(f:Nat):∀(g:Nat) (s:Rd) (m:Nat) (t:Str),3*s.mu+4≤f→s.mu+1≤g→∃s',BF f g s m t=some s'∧W 0 0 s s':=by
 intro g
 induction g with
 |zero=>intro s m t h h2;omega
 |succ g ih=>
   intro s m t hf hg;rw[BF];by_cases hb:s.bad=true
   ·rw[if_pos hb]
    exact⟨_,rfl,by omega,by omega,by omega⟩
   rw[if_neg hb];by_cases hn:s.next [125]=true
   ·rw[if_pos hn]
    obtain⟨a1,a2,a3⟩:=BX (by decide) hn;exact⟨_,rfl,by omega,by omega,by omega⟩
   rw[if_neg hn];have:=GZ hb;obtain⟨a,e,k1,k2,k3⟩:=Uv f s m t hb hf;rw[e]
   try dsimp only
   obtain⟨b,e2,l1,l2,l3⟩:=ih a m t (by omega) (by omega);exact⟨b,e2,by omega,by omega,by omega⟩
theorem NM(f:Nat):∀(g:Nat) (s:Rd) (root:Nat),3*s.mu+4≤f→s.mu+1≤g→∃s',Ba f g s root=some s'∧W 0 0 s s':=by
 intro g
 induction g with
 |zero=>intro s r h h2;omega
 |succ g ih=>
   intro s root hf hg;rw[Ba];by_cases hb:s.bad=true∨s.L.length≤s.at_
   ·rw[if_pos hb]
    exact⟨_,rfl,by omega,by omega,by omega⟩
   rw[if_neg hb]
   try dsimp only
   have hbb:¬s.bad=true:=fun h=>hb (.inl h);have:=GZ hbb;obtain⟨a1,a2,a3⟩:=Ci s (t:=Bn) (by decide);obtain⟨b1,b2,b3⟩:=Jb (s.need Bn);generalize(s.need Bn).text 1=t;generalize(s.need Bn).name=a at b1 b2 b3⊢;have hq:Q 0 0 a (if inL a.mods t=true then a.fault 10 else a):=by
    split
    ·exact KG a 10
    ·exact⟨by omega,by omega,by omega⟩
   obtain⟨c1,c2,c3⟩:=hq;generalize(if inL a.mods t=true then a.fault 10 else a)=b at c1 c2 c3⊢;have hq2:Q 0 0 b ({b with mods:=b.mods++[t]}:Rd):=Ea rfl rfl id rfl;obtain⟨d1,d2,d3⟩:=hq2;generalize({b with mods:=b.mods++[t]}:Rd)=c at d1 d2 d3⊢;obtain⟨e1,e2,e3⟩:=Cs c root (AO 2 t);obtain⟨g1,g2,g3⟩:=Ci (c.node root (AO 2 t)) (t:=[123]) (by decide);obtain⟨d,hd,k1,k2,k3⟩:=Mo f f ((c.node root (AO 2 t)).need [123]) b.rows.length t (by omega) (by omega);rw[hd]
   try dsimp only
   obtain⟨x,hx,l1,l2,l3⟩:=ih d root (by omega) (by omega);exact⟨x,hx,by omega,by omega,by omega⟩
theorem YV:∀(is:List Nat) (ws:List Str) (s:Rd),Q 0 0 s (link is ws s):=by
 intro is
 induction is with
 |nil=>intro ws s;cases ws <;>exact⟨by simp[link],by simp[link],by simp[link]⟩
 |cons i is ih=>
   intro ws s;cases ws with
   |nil=>exact⟨by simp[link],by simp[link],by simp[link]⟩
   |cons t ws=>
     rw[link]
     try dsimp only
     have hq:Q 0 0 s (if lastOf s.funcs s.ids t=0 then s.fault 9 else s):=by
      split
      ·exact KG s 9
      ·exact⟨by omega,by omega,by omega⟩
     obtain⟨a1,a2,a3⟩:=hq;obtain⟨b1,b2,b3⟩:=MB (if lastOf s.funcs s.ids t=0 then s.fault 9 else s) (i-1) (lastOf s.funcs s.ids t);obtain⟨c1,c2,c3⟩:=ih ws ((if lastOf s.funcs s.ids t=0 then s.fault 9 else s).setRef (i-1) (lastOf s.funcs s.ids t));exact⟨by omega,by omega,by omega⟩
theorem Om(f:Nat)(l:List Tok)(hf:3*l.length+10≤f):∃s',program f (BC l)=some s'∧s'.rows.length≤3*l.length+4∧s'.at_≤2*l.length+2:=by
 unfold program
 try dsimp only
 have h0:(BC l).mu=l.length+1:=Le (by simp[BC]);have h1:(BC l).rows.length=0:=rfl;have h2:(BC l).at_=0:=rfl;obtain⟨a1,a2,a3⟩:=Cs (BC l) 0 (nd 1);obtain⟨s1,e,b1,b2,b3⟩:=NM f f ((BC l).node 0 (nd 1)) (BC l).rows.length (by omega) (by omega);rw[e];obtain⟨c1,c2,c3⟩:=YV s1.calls s1.wants s1;exact⟨_,rfl,by omega,by omega⟩
end Rd
end Hg
namespace Hg
def kRel(p c:Nat):Prop:=(p=1∧c=2)∨(p=2∧c=3)∨(3≤p∧4≤c)
structure Tr (rows:List Row):Prop where
 rid:∀(k:Nat) (r:Row),rows[k]? =some r→r.id=k+1
 up:∀(k:Nat) (r:Row),rows[k]? =some r→∀c∈r.node.kids,k+1 < c∧c≤rows.length
 perm:(rows.flatMap (fun r=>r.node.kids)).Perm (List.range' 2 (rows.length-1))
 kind:∀(k:Nat) (r:Row),rows[k]? =some r→∀c∈r.node.kids,∀r',rows[c-1]? =some r'→kRel r.node.kind r'.node.kind
 root:∀r,rows[0]? =some r→r.node.kind=1
namespace Rd
theorem LQ(id:Nat):∀(l:List Row) (u:Nat),u < l.length→((l.modify u fun x=>{x with node:={x.node with kids:=x.node.kids++[id]}}).flatMap (fun r=>r.node.kids)).Perm (id::l.flatMap (fun r=>r.node.kids))
 |[],u,h=>by simp at h
 |r::l,0,h=>by
   simp only[List.modify_zero_cons,List.flatMap_cons];rw[List.append_assoc];exact(List.perm_middle)
 |r::l,u+1,h=>by
   simp only[List.modify_succ_cons,List.flatMap_cons];have ih:=LQ id l u (by simpa using h);exact(List.Perm.append_left _ ih).trans List.perm_middle
theorem Ty{rows:List Row}(h:Tr rows)(k:Nat)(f:Row→Row)(h1:∀r,(f r).id=r.id)(h2:∀r,(f r).node.kids=r.node.kids)(h3:∀r,(f r).node.kind=r.node.kind):Tr (rows.modify k f):=by
 have hin:∀{i:Nat} {r':Row},(rows.modify k f)[i]? =some r'→∃r,rows[i]? =some r∧r'.id=r.id∧r'.node.kids=r.node.kids∧r'.node.kind=r.node.kind:=by
  intro i r' hr;obtain⟨r,h0,he⟩:=Ed hr;refine⟨r,h0, ?_⟩;subst he;split
  ·exact⟨h1 r,h2 r,h3 r⟩
  ·exact⟨rfl,rfl,rfl⟩
 have hfl:∀(l:List Row) (k:Nat),(l.modify k f).flatMap (fun r=>r.node.kids)=l.flatMap (fun r=>r.node.kids):=by
  intro l
  induction l with
  |nil=>intro k;cases k <;>rfl
  |cons r l ih=>
    intro k;cases k with
    |zero=>simp[h2]
    |succ k=>simp[ih]
 refine⟨fun i r hr=> ?_,fun i r hr c hc=> ?_, ?_,fun i r hr c hc r' hr'=> ?_,fun r hr=> ?_⟩
 ·obtain⟨r0,a,b,_,_⟩:=hin hr;rw[b];exact h.rid i r0 a
 ·obtain⟨r0,a,_,b,_⟩:=hin hr;rw[b] at hc;simpa using h.up i r0 a c hc
 ·rw[hfl];simpa using h.perm
 ·obtain⟨r0,a,_,b,d⟩:=hin hr
  obtain⟨r1,a1,_,_,d1⟩:=hin hr';rw[b] at hc;rw[d,d1];exact h.kind i r0 a c hc r1 a1
 ·obtain⟨r0,a,_,_,d⟩:=hin hr;rw[d];exact h.root r0 a
theorem VX(n:Node)(hn:n.kids=[])(hk:n.kind=1):Tr [⟨1,n⟩]:=by
 have hin:∀{i:Nat} {r:Row},([⟨1,n⟩]:List Row)[i]? =some r→i=0∧r=⟨1,n⟩:=by
  intro i r h;cases i with
  |zero=>simp at h;exact⟨rfl,h.symm⟩
  |succ i=>simp at h
 refine⟨fun i r hr=> ?_,fun i r hr c hc=> ?_,by simp[hn],fun i r hr c hc=> ?_,fun r hr=> ?_⟩
 ·obtain⟨rfl,rfl⟩:=hin hr;rfl
 ·obtain⟨rfl,rfl⟩:=hin hr;rw[hn] at hc;simp at hc
 ·obtain⟨rfl,rfl⟩:=hin hr;rw[hn] at hc;simp at hc
 ·obtain⟨_,rfl⟩:=hin hr;exact hk
theorem XR{rows:List Row}(h:Tr rows){u:Nat}{ru:Row}(hu:rows[u]? =some ru)(n:Node)(hn:n.kids=[])(hk:kRel ru.node.kind n.kind):Tr (Eh (rows++[⟨rows.length+1,n⟩]) u (rows.length+1)):=by
 have hul:u < rows.length:=(List.getElem?_eq_some_iff.1 hu).1;have hin:∀{i:Nat} {r':Row},(Eh (rows++[⟨rows.length+1,n⟩]) u (rows.length+1))[i]? =some r'→
  (i=rows.length∧r'=⟨rows.length+1,n⟩)∨(∃r,rows[i]? =some r∧r'.id=r.id∧r'.node.kind=r.node.kind∧r'.node.kids=if i=u then r.node.kids++[rows.length+1] else r.node.kids):=by
  intro i r' hr;obtain⟨r,h0,he⟩:=Ed hr;by_cases hi:i < rows.length
  ·rw[List.getElem?_append_left hi] at h0
   right;refine⟨r,h0, ?_⟩;subst he;by_cases hiu:u=i
   ·simp[hiu]
   ·simp[hiu,Ne.symm hiu]
  ·left
   rw[List.getElem?_append_right (by omega)] at h0;by_cases e:i-rows.length=0
   ·rw[e] at h0
    simp at h0;rw[if_neg (by omega)] at he;exact⟨by omega,by rw[he,←h0]⟩
   ·rw[List.getElem?_eq_none (by simp;omega)] at h0;cases h0
 have hlen:(Eh (rows++[⟨rows.length+1,n⟩]) u (rows.length+1)).length=rows.length+1:=by simp[Eh]
 have hkind:∀{i:Nat} {r':Row},(Eh (rows++[⟨rows.length+1,n⟩]) u (rows.length+1))[i]? =some r'→i < rows.length→∃r,rows[i]? =some r∧r'.node.kind=r.node.kind:=by
  intro i r' hr hi;rcases hin hr with⟨e,_⟩|⟨r,a,_,b,_⟩
  ·omega
  ·exact⟨r,a,b⟩
 refine⟨fun i r hr=> ?_,fun i r hr c hc=> ?_, ?_,fun i r hr c hc r' hr'=> ?_,fun r hr=> ?_⟩
 ·rcases hin hr with⟨e,rfl⟩|⟨r0,a,b,_,_⟩
  ·show rows.length+1=i+1;omega
  ·rw[b];exact h.rid i r0 a
 ·rw[hlen]
  rcases hin hr with⟨e,rfl⟩|⟨r0,a,_,_,b⟩
  ·rw[hn] at hc;simp at hc
  ·have hi:=(List.getElem?_eq_some_iff.1 a).1
   rw[b] at hc;by_cases e:i=u
   ·rw[if_pos e] at hc
    rcases List.mem_append.1 hc with hc|hc
    ·have:=h.up i r0 a c hc;omega
    ·simp at hc;omega
   ·rw[if_neg e] at hc
    have:=h.up i r0 a c hc;omega
 ·rw[hlen]
  refine(LQ (rows.length+1) (rows++[⟨rows.length+1,n⟩]) u (by simp;omega)).trans ?_;have e1:(rows++[(⟨rows.length+1,n⟩:Row)]).flatMap (fun r=>r.node.kids)=rows.flatMap (fun r=>r.node.kids):=by simp[hn]
  rw[e1,show rows.length+1-1=(rows.length-1)+1 by omega,List.range'_concat,show 2+1*(rows.length-1)=rows.length+1 by omega];exact(List.Perm.cons _ h.perm).trans (List.perm_append_singleton _ _).symm
 ·rcases hin hr with⟨e,rfl⟩|⟨r0,a,_,d,b⟩
  ·rw[hn] at hc;simp at hc
  ·have hi:=(List.getElem?_eq_some_iff.1 a).1
   rw[d];rw[b] at hc;have old:c∈r0.node.kids→kRel r0.node.kind r'.node.kind:=by
    intro hc;have:=h.up i r0 a c hc;obtain⟨r1,a1,d1⟩:=hkind hr' (by omega);rw[d1];exact h.kind i r0 a c hc r1 a1
   by_cases e:i=u
   ·rw[if_pos e] at hc
    rcases List.mem_append.1 hc with hc|hc
    ·exact old hc
    ·simp at hc
     subst hc;rcases hin hr' with⟨_,rfl⟩|⟨r1,a1,_⟩
     ·subst e
      rw[hu] at a;injection a with a;rw[←a];exact hk
     ·have:=(List.getElem?_eq_some_iff.1 a1).1;omega
   ·rw[if_neg e] at hc
    exact old hc
 ·rcases hin hr with⟨e,_⟩|⟨r0,a,_,d,_⟩
  ·omega
  ·rw[d];exact h.root r0 a
structure KS (s s':Rd):Prop where
 kinds:∀(k:Nat) (r:Row),s.rows[k]? =some r→∃r',s'.rows[k]? =some r'∧r'.node.kind=r.node.kind
 tr:Tr s.rows→Tr s'.rows
theorem KS.refl(s:Rd):KS s s:=⟨fun _ r h=>⟨r,h,rfl⟩,id⟩
theorem KS.trans{a b c:Rd}(h:KS a b)(k:KS b c):KS a c:=
 ⟨fun i r hr => by
  obtain⟨r1,h1,h2⟩:=h.kinds i r hr;obtain⟨r2,k1,k2⟩:=k.kinds i r1 h1;exact⟨r2,k1,k2.trans h2⟩,fun x=>k.tr (h.tr x)⟩
theorem Dv{s s':Rd}(h:s'.rows=s.rows):KS s s':=⟨fun k r hr=>⟨r,by rw[h];exact hr,rfl⟩,fun x=>by rw[h];exact x⟩
theorem Kr(s:Rd)(k:Nat)(f:Row→Row)(h1:∀r,(f r).id=r.id)(h2:∀r,(f r).node.kids=r.node.kids)(h3:∀r,(f r).node.kind=r.node.kind):KS s {s with rows:=s.rows.modify k f}:=
 ⟨fun i r hr=>⟨_,Fz hr,by split <;>first|exact h3 r|rfl⟩,fun x=>Ty x k f h1 h2 h3⟩
def At(s:Rd)(u:Nat)(p:Nat→Prop):Prop:=∃r,s.rows[u]? =some r∧p r.node.kind
theorem At.keep{s s':Rd}{u:Nat}{p:Nat→Prop}(h:At s u p)(k:KS s s'):At s' u p:=by
 obtain⟨r,h1,h2⟩:=h;obtain⟨r',k1,k2⟩:=k.kinds u r h1;exact⟨r',k1,by rw[k2];exact h2⟩
theorem At.imp{s:Rd}{u:Nat}{p q:Nat→Prop}(h:At s u p)(k:∀n,p n→q n):At s u q:=by
 obtain⟨r,h1,h2⟩:=h;exact⟨r,h1,k _ h2⟩
theorem EN(s:Rd)(u:Nat)(n:Node)(hn:n.kids=[])(hu:At s u (fun p=>kRel p n.kind)):KS s (s.node u n):=by
 obtain⟨r,h1,h2⟩:=hu;have hul:=(List.getElem?_eq_some_iff.1 h1).1;have e:(s.node u n).rows=Eh (s.rows++[⟨s.rows.length+1,n⟩]) u (s.rows.length+1):=by
  unfold node;dsimp only;rw[if_pos (by omega)]
 refine⟨fun k r' hr=> ?_,fun x=>by rw[e];exact XR x h1 n hn h2⟩;rw[e];refine⟨_,Fz (by rw[List.getElem?_append_left (List.getElem?_eq_some_iff.1 hr).1];exact hr), ?_⟩
 split <;>rfl
theorem PO(s:Rd)(u:Nat)(n:Node)(hu:u≠s.rows.length):At (s.node u n) s.rows.length (fun k=>k=n.kind):=by
 unfold At node;dsimp only;split
 ·refine⟨_,Fz (r:=⟨s.rows.length+1,n⟩) (by simp), ?_⟩
  split <;>rfl
 ·exact⟨⟨s.rows.length+1,n⟩,by simp,rfl⟩
theorem At.ne{s:Rd}{u:Nat}{p:Nat→Prop}(h:At s u p):u≠s.rows.length:=by
 obtain⟨r,h1,_⟩:=h;have:=(List.getElem?_eq_some_iff.1 h1).1;omega
theorem EA(s:Rd):KS s s.step:=Dv rfl
theorem Nv(s:Rd):KS s s.setBad:=Dv rfl
theorem Bh(s:Rd)(t:Str):KS s (s.need t):=Dv (Dn s t).2.2
theorem FO(s:Rd):KS s s.name:=Dv (CQ s).2.2
theorem MV(s:Rd):KS s s.typed.2:=by unfold typed;split <;>first|exact EA s|exact Bh s _
theorem J5(s:Rd)(e:Nat):KS s (s.fault e):=Dv (Ef s e).1
theorem Sn(s:Rd)(t:Str):KS s (s.find t).2:=by unfold find;split <;>first|exact KS.refl s|exact J5 s _
theorem Kq(s:Rd)(k t:Nat):KS s (s.setRef k t):=Kr s k _ (fun _=>rfl) (fun _=>rfl) (fun _=>rfl)
theorem Jf(s:Rd)(k t:Nat):KS s (s.Al k t):=Kr s k _ (fun _=>rfl) (fun _=>rfl) (fun _=>rfl)
theorem Nu(s:Rd)(k:Nat)(t:Int):KS s (s.BL k t):=Kr s k _ (fun _=>rfl) (fun _=>rfl) (fun _=>rfl)
theorem MW(s:Rd)(t:Str)(k:Nat):KS s (s.declare t k):=Dv (FU s t k).2.2.2.2.2
theorem Dj(s:Rd):KS s s.enter:=by unfold enter;dsimp only;split <;>exact Dv rfl
theorem Ev(s:Rd):KS s s.leave:=Dv rfl
theorem Sm(s:Rd):KS s s.shut:=Dv rfl
theorem ge3{s:Rd}{u c:Nat}(hc:4≤c)(h:At s u (fun p=>3≤p)):At s u (fun p=>kRel p c):=h.imp fun _ hp=> .inr (.inr ⟨hp,hc⟩)
theorem new3{s:Rd}{u c:Nat}{n:Node}(h:At s u (fun p=>3≤p))(hc:c=n.kind)(h4:4≤c):At (s.node u n) s.rows.length (fun p=>3≤p):=
 (PO s u n h.ne).imp fun k hk=>by omega
theorem Sy(f:Nat):(∀s u s',expr f s u=some s'→At s u (fun p=>3≤p)→KS s s')∧(∀s u m s',call f s u m=some s'→At s u (fun p=>3≤p)→KS s s')∧(∀b s n s',args f b s n=some s'→At s n (fun p=>3≤p)→KS s s'):=by
 induction f with
 |zero=>exact⟨fun _ _ _ h=>by simp[expr] at h,fun _ _ _ _ h=>by simp[call] at h,fun _ _ _ _ h=>by simp[args] at h⟩
 |succ f ih=>
   obtain⟨ihe,ihc,iha⟩:=ih;refine⟨fun s u s' h hu=> ?_,fun s u m s' h hu=> ?_,fun b s n s' h hu=> ?_⟩
   ·rw[expr] at h
    have hus:=hu.keep (EA s);have nodeK:∀n:Node,n.kids=[]→4≤n.kind→KS s (s.step.node u n):=fun n hn h4=>(EA s).trans (EN s.step u n hn (ge3 h4 hus));by_cases h2:s.text 2≠[]
    ·rw[if_pos h2] at h
     injection h with h;subst h;exact nodeK _ rfl (Nat.le_of_ble_eq_true rfl)
    rw[if_neg h2] at h;by_cases h1:s.text 1≠[]
    ·rw[if_pos h1] at h
     dsimp only at h;by_cases hd:s.step.next [46]=true
     ·rw[if_pos hd] at h
      exact(EA s).trans (ihc _ _ _ _ h hus)
     ·rw[if_neg hd] at h
      injection h with h;subst h;exact((nodeK (nd 15) rfl (by decide)).trans (Sn _ _)).trans (Kq _ _ _)
    rw[if_neg h1] at h;by_cases ht:s.next Eo=true
    ·rw[if_pos ht] at h
     injection h with h;subst h;exact nodeK _ rfl (by decide)
    rw[if_neg ht] at h;by_cases hf:s.next EI=true
    ·rw[if_pos hf] at h
     injection h with h;subst h;exact nodeK _ rfl (by decide)
    rw[if_neg hf] at h;by_cases hr:s.next GJ=true
    ·rw[if_pos hr] at h
     injection h with h;subst h;exact nodeK _ rfl (by decide)
    rw[if_neg hr] at h;by_cases hn:s.next [33]=true∨s.next [45]=true
    ·rw[if_pos hn] at h
     dsimp only at h;have hkind:(if s.next [33]=true then 16 else 17)=16∨(if s.next [33]=true then 16 else 17)=17:=by split <;>simp
     generalize hk:(if s.next [33]=true then 16 else 17)=kind at h hkind;have K1:=nodeK (nd kind) rfl (by show 4≤kind;omega);have hnew:At (s.step.node u (nd kind)) s.step.rows.length (fun p=>3≤p):=new3 (c:=kind) hus rfl (by omega);by_cases hb:(s.step.node u (nd kind)).enter.bad=true
     ·rw[if_pos hb] at h
      injection h with h;subst h;exact K1.trans ((Dj _).trans (Ev _))
     ·rw[if_neg hb] at h
      cases he:expr f (s.step.node u (nd kind)).enter s.rows.length with
      |none=>rw[he] at h;simp at h
      |some s1=>
        rw[he] at h;injection h with h;subst h;exact K1.trans ((Dj _).trans ((ihe _ _ _ he (hnew.keep (Dj _))).trans (Ev _)))
    rw[if_neg hn] at h;by_cases hp:s.next [40]=true
    ·rw[if_pos hp] at h
     dsimp only at h;have K1:=nodeK (nd 18) rfl (by decide);have hnew:At (s.step.node u (nd 18)) s.step.rows.length (fun p=>3≤p):=new3 (c:=18) hus rfl (by omega);by_cases hb:(s.step.node u (nd 18)).enter.bad=true
     ·rw[if_pos hb] at h
      injection h with h;subst h;exact K1.trans ((Dj _).trans (Ev _))
     ·rw[if_neg hb] at h
      cases he:expr f (s.step.node u (nd 18)).enter s.rows.length with
      |none=>rw[he] at h;simp at h
      |some s1=>
        rw[he] at h;dsimp only at h;have E1:=ihe _ _ _ he (hnew.keep (Dj _));have e1:KS s1 ((if opOf (s1.text 4)=0 then(s1.BL s.rows.length (opOf (s1.text 4):Nat)).setBad else s1.BL s.rows.length (opOf (s1.text 4):Nat)).step):=by
         refine KS.trans ?_ (EA _);split
         ·exact(Nu _ _ _).trans (Nv _)
         ·exact Nu _ _ _
        cases he2:expr f ((if opOf (s1.text 4)=0 then(s1.BL s.rows.length (opOf (s1.text 4):Nat)).setBad else s1.BL s.rows.length (opOf (s1.text 4):Nat)).step) s.rows.length with
        |none=>rw[he2] at h;simp at h
        |some s2=>
          rw[he2] at h;injection h with h;subst h;have E2:=ihe _ _ _ he2 ((hnew.keep (Dj _)).keep (E1.trans e1));exact K1.trans ((Dj _).trans ((E1.trans e1).trans ((E2.trans (Bh _ _)).trans (Ev _))))
    rw[if_neg hp] at h;injection h with h;subst h;exact Nv s
   ·rw[call] at h
    try dsimp only at h
    have K1:=EN s u (nd 19) rfl (ge3 (by decide) hu);have hnew:At (s.node u (nd 19)) s.rows.length (fun p=>3≤p):=new3 (c:=19) hu rfl (by omega);have K2:=((Bh (s.node u (nd 19)) [46]).trans (FO _));generalize hbd:({((s.node u (nd 19)).need [46]).name with calls:=((s.node u (nd 19)).need [46]).name.calls++[((s.node u (nd 19)).need [46]).name.idAt s.rows.length],wants:=((s.node u (nd 19)).need [46]).name.wants++[m++[32]++((s.node u (nd 19)).need [46]).text 1]}:Rd)=b at h;have K3:KS ((s.node u (nd 19)).need [46]).name b:=by rw[←hbd];exact Dv rfl
    by_cases hb:b.enter.bad=true
    ·rw[if_pos hb] at h
     injection h with h;subst h;exact K1.trans ((K2.trans K3).trans ((Dj _).trans (Ev _)))
    ·rw[if_neg hb] at h
     cases he:args f true (b.enter.need [40]) s.rows.length with
     |none=>rw[he] at h;simp at h
     |some s1=>
       rw[he] at h;injection h with h;subst h;have K4:=(K2.trans K3).trans ((Dj b).trans (Bh _ [40]));exact K1.trans (K4.trans ((iha _ _ _ _ he (hnew.keep K4)).trans (Ev _)))
   ·rw[args] at h
    by_cases hb:s.bad=true
    ·rw[if_pos hb] at h
     injection h with h;subst h;exact KS.refl _
    rw[if_neg hb] at h;by_cases hn:s.next [41]=true
    ·rw[if_pos hn] at h
     injection h with h;subst h;exact EA _
    rw[if_neg hn] at h;have K1:KS s (if b=true then s else s.need [44]):=by split <;>first|exact KS.refl _|exact Bh _ _
    cases he:expr f (if b=true then s else s.need [44]) n with
    |none=>rw[he] at h;simp at h
    |some s1=>
      rw[he] at h;have K2:=K1.trans (ihe _ _ _ he (hu.keep K1));exact K2.trans (iha _ _ _ _ h (hu.keep K2))
theorem XZ(f:Nat):(∀s u s',stmt f s u=some s'→At s u (fun p=>3≤p)→KS s s')∧(∀s u s',block f s u=some s'→At s u (fun p=>3≤p)→KS s s')∧(∀s n s',stmts f s n=some s'→At s n (fun p=>3≤p)→KS s s'):=by
 induction f with
 |zero=>exact⟨fun _ _ _ h=>by simp[stmt] at h,fun _ _ _ h=>by simp[block] at h,fun _ _ _ h=>by simp[stmts] at h⟩
 |succ f ih=>
   obtain⟨ihs,ihb,ihl⟩:=ih;have E:=Sy f;refine⟨fun s u s' h hu=> ?_,fun s u s' h hu=> ?_,fun s n s' h hu=> ?_⟩
   ·rw[stmt] at h
    try dsimp only at h
    have hus:=hu.keep (EA s);have nodeK:∀n:Node,n.kids=[]→4≤n.kind→KS s (s.step.node u n)∧At (s.step.node u n) s.rows.length (fun p=>3≤p):=fun n hn h4=>
     ⟨(EA s).trans (EN s.step u n hn (ge3 h4 hus)),new3 (s:=s.step) (c:=n.kind) hus rfl h4⟩
    by_cases h1:s.next wLet=true
    ·rw[if_pos h1] at h
     have K0:=(EA s).trans (FO s.step);have hu1:=hu.keep K0;have hl:s.step.name.rows.length=s.rows.length:=by rw[(CQ s.step).2.2];rfl
     have K1:=K0.trans (EN s.step.name u (AO 6 (s.step.text 1)) rfl (ge3 (Nat.le_of_ble_eq_true rfl) hu1));have hnew:At (s.step.name.node u (AO 6 (s.step.text 1))) s.rows.length (fun p=>3≤p):=by rw[←hl];exact new3 (c:=6) hu1 rfl (by omega)
     have K2:=((MV (s.step.name.node u (AO 6 (s.step.text 1)))).trans (Jf _ s.rows.length (s.step.name.node u (AO 6 (s.step.text 1))).typed.1)).trans (Bh _ [61]);generalize((s.step.name.node u (AO 6 (s.step.text 1))).typed.2.Al s.rows.length (s.step.name.node u (AO 6 (s.step.text 1))).typed.1).need [61]=a at h K2;cases he:expr f a s.rows.length with
     |none=>rw[he] at h;simp at h
     |some b=>
       rw[he] at h;injection h with h;subst h;exact K1.trans (K2.trans ((E.1 _ _ _ he (hnew.keep K2)).trans ((MW _ _ _).trans (Bh _ _))))
    rw[if_neg h1] at h;by_cases h2:s.next wIf=true
    ·rw[if_pos h2] at h
     obtain⟨K1,hnew⟩:=nodeK (nd 8) rfl (by decide);cases he:expr f (s.step.node u (nd 8)) s.rows.length with
     |none=>rw[he] at h;simp at h
     |some a=>
       rw[he] at h;dsimp only at h;have K2:=E.1 _ _ _ he hnew;cases hb:block f a s.rows.length with
       |none=>rw[hb] at h;simp at h
       |some b=>
         rw[hb] at h;have K3:=ihb _ _ _ hb (hnew.keep K2);have K4:=(K2.trans K3).trans (Bh b Ls);exact K1.trans (K4.trans (ihb _ _ _ h (hnew.keep K4)))
    rw[if_neg h2] at h;by_cases h3:s.next Gv=true
    ·rw[if_pos h3] at h
     obtain⟨K1,hnew⟩:=nodeK (nd 9) rfl (by decide);cases he:expr f (s.step.node u (nd 9)) s.rows.length with
     |none=>rw[he] at h;simp at h
     |some a=>
       rw[he] at h;have K2:=E.1 _ _ _ he hnew;exact K1.trans (K2.trans (ihb _ _ _ h (hnew.keep K2)))
    rw[if_neg h3] at h;by_cases h4:s.next Gw=true
    ·rw[if_pos h4] at h
     obtain⟨K1,hnew⟩:=nodeK (nd 11) rfl (by decide);cases he:expr f (s.step.node u (nd 11)) s.rows.length with
     |none=>rw[he] at h;simp at h
     |some a=>
       rw[he] at h;injection h with h;subst h;exact K1.trans ((E.1 _ _ _ he hnew).trans (Bh _ _))
    rw[if_neg h4] at h;by_cases h5:s.next wDo=true
    ·rw[if_pos h5] at h
     obtain⟨K1,hnew⟩:=nodeK (nd 12) rfl (by decide);generalize(s.step.node u (nd 12))=a at h K1 hnew;cases he:call f a.name s.rows.length (a.text 1) with
     |none=>rw[he] at h;simp at h
     |some b=>
       rw[he] at h;injection h with h;subst h;exact(K1.trans (FO a)).trans ((E.2.1 _ _ _ _ he (hnew.keep (FO a))).trans (Bh _ _))
    rw[if_neg h5] at h;have hu1:=hu.keep (FO s);have hl:s.name.rows.length=s.rows.length:=by rw[(CQ s).2.2]
    have K1:=(FO s).trans (EN s.name u (nd 7) rfl (ge3 (by decide) hu1));have hnew:At (s.name.node u (nd 7)) s.rows.length (fun p=>3≤p):=by rw[←hl];exact new3 (c:=7) hu1 rfl (by omega)
    generalize(s.name.node u (nd 7))=a at h K1 hnew;have K2:=((Sn a (s.text 1)).trans (Kq _ s.rows.length (a.find (s.text 1)).1)).trans (Bh _ [61]);cases he:expr f (((a.find (s.text 1)).2.setRef s.rows.length (a.find (s.text 1)).1).need [61]) s.rows.length with
    |none=>rw[he] at h;simp at h
    |some b=>
      rw[he] at h;injection h with h;subst h;exact K1.trans (K2.trans ((E.1 _ _ _ he (hnew.keep K2)).trans (Bh _ _)))
   ·rw[block] at h
    try dsimp only at h
    have K1:=EN s u (nd 5) rfl (ge3 (by decide) hu);have hnew:At (s.node u (nd 5)) s.rows.length (fun p=>3≤p):=new3 (c:=5) hu rfl (by omega);generalize hbd:({(s.node u (nd 5)) with level:=(s.node u (nd 5)).level+1}:Rd)=b at h;have K2:KS (s.node u (nd 5)) b:=by rw[←hbd];exact Dv rfl
    by_cases hb:b.enter.bad=true
    ·rw[if_pos hb] at h
     injection h with h;subst h;exact(K1.trans K2).trans ((Dj _).trans ((Ev _).trans (Sm _)))
    ·rw[if_neg hb] at h
     cases he:stmts f (b.enter.need [123]) s.rows.length with
     |none=>rw[he] at h;simp at h
     |some a=>
       rw[he] at h;injection h with h;subst h;have K3:=K2.trans ((Dj b).trans (Bh _ [123]));exact K1.trans (K3.trans ((ihl _ _ _ he (hnew.keep K3)).trans ((Ev _).trans (Sm _))))
   ·rw[stmts] at h
    by_cases hb:s.bad=true
    ·rw[if_pos hb] at h
     injection h with h;subst h;exact KS.refl _
    rw[if_neg hb] at h;by_cases hn:s.next [125]=true
    ·rw[if_pos hn] at h
     injection h with h;subst h;exact EA _
    rw[if_neg hn] at h;cases he:stmt f s n with
    |none=>rw[he] at h;simp at h
    |some a=>
      rw[he] at h;have K1:=ihs _ _ _ he hu;exact K1.trans (ihl _ _ _ h (hu.keep K1))
theorem UX:∀(f:Nat) (b:Bool) (s:Rd) (k:Nat) (s':Rd),params f b s k=some s'→At s k (fun p=>3≤p)→KS s s':=by
 intro f
 induction f with
 |zero=>intro b s k s' h;simp[params] at h
 |succ f ih=>
   intro b s k s' h hu;rw[params] at h;by_cases hb:s.bad=true
   ·rw[if_pos hb] at h;injection h with h;subst h;exact KS.refl _
   rw[if_neg hb] at h;by_cases hn:s.next [41]=true
   ·rw[if_pos hn] at h;injection h with h;subst h;exact EA _
   rw[if_neg hn] at h;dsimp only at h;have K0:KS s (if b=true then s else s.need [44]):=by split <;>first|exact KS.refl _|exact Bh _ _
   generalize(if b=true then s else s.need [44])=r at h K0;have K1:=K0.trans (FO r);have K2:=K1.trans (EN r.name k (AO 4 (r.text 1)) rfl (ge3 (Nat.le_of_ble_eq_true rfl) (hu.keep K1)));have K3:=K2.trans ((MV _).trans ((Jf _ r.rows.length (r.name.node k (AO 4 (r.text 1))).typed.1).trans (MW _ (r.text 1) r.rows.length)));exact K3.trans (ih _ _ _ _ h (hu.keep K3))
theorem X3:∀(f:Nat) (s:Rd) (n:Nat) (s':Rd),body f s n=some s'→At s n (fun p=>3≤p)→KS s s':=by
 intro f
 induction f with
 |zero=>intro s n s' h;simp[body] at h
 |succ f ih=>
   intro s n s' h hu;rw[body] at h;by_cases hb:s.bad=true∨s.next Aw=true
   ·rw[if_pos hb] at h;injection h with h;subst h;exact KS.refl _
   rw[if_neg hb] at h;cases he:stmt f s n with
   |none=>rw[he] at h;simp at h
   |some a=>
     rw[he] at h;have K1:=(XZ f).1 _ _ _ he hu;exact K1.trans (ih _ _ _ h (hu.keep K1))
theorem Xz(f:Nat)(s:Rd)(u:Nat)(m:Str)(s':Rd)(h:func f s u m=some s')(hu:At s u (fun p=>p=2)):KS s s':=by
 unfold func at h;dsimp only at h;have K1:=(Bh s CX).trans (FO _);generalize(s.need CX).text 1=t at h;generalize(s.need CX).name=a at h K1;have K2:KS s (if inL a.funcs (m++[32]++t)=true then a.fault 10 else a):=K1.trans (by split <;>first|exact J5 _ _|exact KS.refl _);generalize(if inL a.funcs (m++[32]++t)=true then a.fault 10 else a)=b at h K2;change (match params f true (((b.node u (AO 3 t)).Fv (m++[32]++t) b.rows.length).need [40]) b.rows.length with
  |none=>none
  |some r=>_)=some s' at h
 have hub:=hu.keep K2;have K3:=K2.trans (EN b u (AO 3 t) rfl (hub.imp fun _ hp=> .inr (.inl ⟨hp,rfl⟩)));have hnew:At (b.node u (AO 3 t)) b.rows.length (fun p=>3≤p):=(PO b u (AO 3 t) hub.ne).imp fun k hk=>by rw[hk];exact Nat.le_refl 3
 have K4:KS (b.node u (AO 3 t)) ((b.node u (AO 3 t)).Fv (m++[32]++t) b.rows.length):=Dv rfl;have hnew4:=hnew.keep K4;have K5:=K3.trans K4;generalize(b.node u (AO 3 t)).Fv (m++[32]++t) b.rows.length=c at h K5 hnew4;cases hp:params f true (c.need [40]) b.rows.length with
 |none=>rw[hp] at h;simp at h
 |some p=>
   rw[hp] at h;dsimp only at h;have K6:=(Bh c [40]).trans (UX _ _ _ _ _ hp (hnew4.keep (Bh c [40])));have K7:=K6.trans ((MV p).trans (Jf _ b.rows.length p.typed.1));have hn7:=hnew4.keep K7;have K8:=K7.trans (EN _ b.rows.length (nd 5) rfl (ge3 (by decide) hn7));have hb8:At ((p.typed.2.Al b.rows.length p.typed.1).node b.rows.length (nd 5)) (p.typed.2.Al b.rows.length p.typed.1).rows.length (fun p=>3≤p):=new3 (c:=5) hn7 rfl (by omega);have K9:=K8.trans (Bh _ [123]);have hb9:=hb8.keep (Bh _ [123]);generalize((p.typed.2.Al b.rows.length p.typed.1).node b.rows.length (nd 5)).need [123]=q at h K9 hb9;cases hq:body f q (p.typed.2.Al b.rows.length p.typed.1).rows.length with
   |none=>rw[hq] at h;simp at h
   |some v=>
     rw[hq] at h;dsimp only at h;have K10:=X3 _ _ _ _ hq hb9;have K11:=K10.trans (Bh v Aw);have hb11:=hb9.keep K11;have K12:=K11.trans (EN _ _ (nd 10) rfl (ge3 (by decide) hb11));have hn12:At ((v.need Aw).node (p.typed.2.Al b.rows.length p.typed.1).rows.length (nd 10)) (v.need Aw).rows.length (fun p=>3≤p):=new3 (c:=10) hb11 rfl (by omega);cases hx:expr f ((v.need Aw).node (p.typed.2.Al b.rows.length p.typed.1).rows.length (nd 10)) (v.need Aw).rows.length with
     |none=>rw[hx] at h;simp at h
     |some x=>
       rw[hx] at h;injection h with h;subst h;exact K5.trans (K9.trans (K12.trans (((Sy f).1 _ _ _ hx hn12).trans ((Bh _ _).trans (Bh _ _)))))
theorem O7(f:Nat):∀(g:Nat) (s:Rd) (m:Nat) (t:Str) (s':Rd),BF f g s m t=some s'→At s m (fun p=>p=2)→KS s s':=by
 intro g
 induction g with
 |zero=>intro s m t s' h;simp[BF] at h
 |succ g ih=>
   intro s m t s' h hu;rw[BF] at h;by_cases hb:s.bad=true
   ·rw[if_pos hb] at h;injection h with h;subst h;exact KS.refl _
   rw[if_neg hb] at h;by_cases hn:s.next [125]=true
   ·rw[if_pos hn] at h;injection h with h;subst h;exact EA _
   rw[if_neg hn] at h;cases he:func f s m t with
   |none=>rw[he] at h;simp at h
   |some a=>
     rw[he] at h;have K1:=Xz _ _ _ _ _ he hu;exact K1.trans (ih _ _ _ _ h (hu.keep K1))
theorem QL(f:Nat):∀(g:Nat) (s:Rd) (root:Nat) (s':Rd),Ba f g s root=some s'→At s root (fun p=>p=1)→KS s s':=by
 intro g
 induction g with
 |zero=>intro s r s' h;simp[Ba] at h
 |succ g ih=>
   intro s root s' h hu;rw[Ba] at h;by_cases hb:s.bad=true∨s.L.length≤s.at_
   ·rw[if_pos hb] at h;injection h with h;subst h;exact KS.refl _
   rw[if_neg hb] at h;dsimp only at h;have K1:=(Bh s Bn).trans (FO _);generalize(s.need Bn).text 1=t at h;generalize(s.need Bn).name=a at h K1;have K2:KS s (if inL a.mods t=true then a.fault 10 else a):=K1.trans (by split <;>first|exact J5 _ _|exact KS.refl _);generalize(if inL a.mods t=true then a.fault 10 else a)=b at h K2;have hl:b.rows.length=b.rows.length:=rfl;generalize hc:({b with mods:=b.mods++[t]}:Rd)=c at h;have hcr:c.rows=b.rows:=by rw[←hc]
   have K3:=K2.trans (Dv hcr);have huc:=hu.keep K3;have K4:=K3.trans (EN c root (AO 2 t) rfl (huc.imp fun _ hp=> .inl ⟨hp,rfl⟩));have hnew:At (c.node root (AO 2 t)) b.rows.length (fun p=>p=2):=by rw[←hcr];exact PO c root (AO 2 t) huc.ne
   have K5:=Bh (c.node root (AO 2 t)) [123];cases he:BF f f ((c.node root (AO 2 t)).need [123]) b.rows.length t with
   |none=>rw[he] at h;simp at h
   |some d=>
     rw[he] at h;have K6:=K4.trans (K5.trans (O7 _ _ _ _ _ _ he (hnew.keep K5)));exact K6.trans (ih _ _ _ h (hu.keep K6))
theorem Xl:∀(is:List Nat) (ws:List Str) (s:Rd),KS s (link is ws s):=by
 intro is
 induction is with
 |nil=>intro ws s;cases ws <;>exact KS.refl _
 |cons i is ih=>
   intro ws s;cases ws with
   |nil=>exact KS.refl _
   |cons t ws=>
     rw[link];refine KS.trans ?_ (ih ws _);refine KS.trans ?_ (Kq _ _ _)
     split <;>first|exact J5 _ _|exact KS.refl _
theorem RI(f:Nat)(l:List Tok)(s':Rd)(h:program f (BC l)=some s'):Tr s'.rows:=by
 unfold program at h;dsimp only at h;have hr:((BC l).node 0 (nd 1)).rows=[⟨1,nd 1⟩]:=rfl;have hat:At ((BC l).node 0 (nd 1)) (BC l).rows.length (fun p=>p=1):=⟨⟨1,nd 1⟩,by rw[hr];rfl,rfl⟩;cases e:Ba f f ((BC l).node 0 (nd 1)) (BC l).rows.length with
 |none=>rw[e] at h;simp at h
 |some a=>
   rw[e] at h;injection h with h;subst h;have K:=QL _ _ _ _ _ e hat;exact(Xl _ _ _).tr (K.tr (by rw[hr];exact VX _ rfl rfl))
end Rd
end Hg
namespace Hg
theorem YG{s:Str}{c:UInt8}{r:Str}(hs:s=c::r)(p:UInt8→Bool)(h:p c=true):1≤(s.takeWhile p).length:=by
 subst hs;rw[List.takeWhile_cons,if_pos h];simp
theorem Ym(s:Str)(p:UInt8→Bool):(s.takeWhile p).length≤s.length:=(List.takeWhile_sublist p).length_le
theorem Ha(M:Nat):∀(f i:Nat) (s:Str) (acc l:List Tok),Ak f i s acc=some l→s.length≤M→(∀t∈acc,t.text.length≤M)→l.length≤acc.length+s.length∧∀t∈l,t.text.length≤M
 |0,i,s,acc,l,h,hM,ha=>by
   rw[Ak] at h;injection h with h;subst h;exact⟨by omega,ha⟩
 |f+1,i,[],acc,l,h,hM,ha=>by
   rw[Ak] at h;injection h with h;subst h;exact⟨by omega,ha⟩
 |f+1,i,c::r,acc,l,h,hM,ha=>by
   rw[Ak] at h;simp only[List.length_cons] at hM;by_cases h3:cls c=3
   ·rw[if_pos h3] at h
    obtain⟨h1,h2⟩:=Ha M f _ r acc l h (by omega) ha;exact⟨by simp;omega,h2⟩
   rw[if_neg h3] at h;by_cases h35:c.toNat=35
   ·rw[if_pos h35] at h
    dsimp only at h;obtain⟨h1,h2⟩:=Ha M f _ _ acc l h (by simp;omega) ha;exact⟨by simp only[List.length_drop] at h1;simp only[List.length_cons] at*;omega,h2⟩
   rw[if_neg h35] at h;have hadd:∀(w:Str) (k:Nat) (tk:Tok),1≤w.length→w.length≤r.length+1→tk.text=w→Ak f k ((c::r).drop w.length) (acc++[tk])=some l→l.length≤acc.length+(c::r).length∧∀t∈l,t.text.length≤M:=by
    intro w k tk hw1 hw2 ht h;obtain⟨h1,h2⟩:=Ha M f _ _ _ l h (by simp;omega) (fun t ht'=>by
     rcases List.mem_append.1 ht' with h'|h'
     ·exact ha t h'
     ·simp at h';subst h';rw[ht];omega)
    refine⟨?_,h2⟩;simp only[List.length_append,List.length_drop,List.length_cons,List.length_nil] at h1⊢;omega
   by_cases h0:0 < cls c
   ·rw[if_pos h0] at h
    dsimp only at h;have hp:Ab c=true:=by
     have h4:cls c≤3:=by
      unfold cls;repeat' split
      all_goals omega
     unfold Ab;have:cls c=1∨cls c=2:=by omega
     rcases this with e|e <;>simp[e]
    have hw1:=YG rfl Ab hp (r:=r);have hw2:=Ym (c::r) Ab;simp only[List.length_cons] at hw2;generalize List.takeWhile Ab (c::r)=w at h hw1 hw2;by_cases a1:inL words w=true
    ·rw[if_pos a1] at h;exact hadd w _ _ hw1 hw2 rfl h
    rw[if_neg a1] at h;by_cases a2:Bz w=true
    ·rw[if_pos a2] at h;exact hadd w _ _ hw1 hw2 rfl h
    rw[if_neg a2] at h;by_cases a3:0≤BZ w
    ·rw[if_pos a3] at h;exact hadd w _ _ hw1 hw2 rfl h
    rw[if_neg a3] at h;cases h
   ·rw[if_neg h0] at h
    dsimp only at h;have hw:∀w,w=(if inL signs ((c::r).take 2)=true∧2≤(c::r).length then(c::r).take 2 else(c::r).take 1)→1≤w.length∧w.length≤r.length+1:=by
     intro w hw;subst hw;split
     ·simp;omega
     ·simp
    generalize(if inL signs ((c::r).take 2)=true∧2≤(c::r).length then(c::r).take 2 else(c::r).take 1)=w at h hw;obtain⟨hw1,hw2⟩:=hw _ rfl;by_cases a1:inL signs w=true
    ·rw[if_pos a1] at h;exact hadd w _ _ hw1 hw2 rfl h
    ·rw[if_neg a1] at h;cases h
theorem Kb{s:Str}{l:List Tok}(h:Cz s=some l):l.length≤s.length∧∀t∈l,t.text.length≤s.length:=by
 have:=Ha s.length s.length 0 s [] l h (Nat.le_refl _) (fun t ht=>by simp at ht);simpa using this
def Cv(s:Str):List Row×Nat:=(Ol (3*s.length+10) s).getD ([],0)
theorem JX{s:Str}(h:Cz s=none):Cv s=([],20):=by unfold Cv Ol;rw[h];rfl
theorem JW{s:Str}{l:List Tok}(h:Cz s=some l):∃r,Rd.program (3*s.length+10) (Rd.BC l)=some r∧r.rows.length≤3*s.length+4∧r.at_≤2*s.length+2∧Tr r.rows∧
 Cv s=if r.bad=true then([],20) else if 20000 < r.rows.length then([],5) else if r.names≠0 then([],r.names) else(r.rows,0):=by
 obtain⟨h1,_⟩:=Kb h;obtain⟨r,hr,h2,h3⟩:=Rd.Om (3*s.length+10) l (by omega);refine⟨r,hr,by omega,by omega,Rd.RI _ _ _ hr, ?_⟩;unfold Cv Ol;rw[h];dsimp only;rw[hr];dsimp only
 repeat' split
 all_goals rfl
theorem Ps(s:Str):((Cv s).1=[]∨Tr (Cv s).1)∧(Cv s).1.length≤20000:=by
 cases h:Cz s with
 |none=>rw[JX h];exact⟨.inl rfl,by simp⟩
 |some l=>
   obtain⟨r,_,_,_,ht,e⟩:=JW h;rw[e];split
   ·exact⟨.inl rfl,by simp⟩
   ·split
    ·exact⟨.inl rfl,by simp⟩
    ·split
     ·exact⟨.inl rfl,by simp⟩
     ·exact⟨.inr ht,by simp;omega⟩
def tkAt(L:List Tok)(k:Nat):Tok:=L.getD k ⟨0,[],0⟩
theorem EJ{L:List Tok}{k:Nat}(h:k < L.length):L[k]? =some (tkAt L k):=by simp[tkAt,h]
def tkIs(L:List Tok)(k:Nat)(s:List UInt8):Bool:=(tkAt L k).text==s && (decide ((tkAt L k).kind=3)||decide ((tkAt L k).kind=4))
def tkB(L:List Tok)(k:Nat)(s:List UInt8):Bool:=decide (k < L.length) && tkIs L k s
theorem Db{L:List Tok}{k:Nat}{s:List UInt8}(h:tkB L k s=true):k < L.length:=by simp[tkB] at h;exact h.1
theorem EB{L:List Tok}{k:Nat}{s:List UInt8}(h:tkB L k s=true):tkIs L k s=true:=by simp[tkB] at h;exact h.2
inductive GT where
 |mk (b:Nat) (nd:Node) (md tt:Str) (ks:List GT)
namespace GT
def b:GT→Nat| .mk b _ _ _ _=>b
def nd:GT→Node| .mk _ n _ _ _=>n
def md:GT→Str| .mk _ _ m _ _=>m
def tt:GT→Str| .mk _ _ _ t _=>t
def ks:GT→List GT| .mk _ _ _ _ k=>k
mutual
def subs:GT→List GT| .mk b nd md tt ks=> .mk b nd md tt ks::DF ks
def DF:List GT→List GT|[]=>[]|t::ts=>subs t++DF ts
end
mutual
def map(f:Nat→Nat):GT→GT| .mk b nd md tt ks=> .mk (f b) nd md tt (mapL f ks)
def mapL(f:Nat→Nat):List GT→List GT|[]=>[]|t::ts=>map f t::mapL f ts
end
abbrev era(t:GT):GT:=t.map fun _=>0
abbrev eraL(l:List GT):List GT:=mapL (fun _=>0) l
end GT
def ndK(kind:Nat):Node:=⟨kind,[],0,0,0,[]⟩
def gmk(kind:Nat)(num:Int)(tt:Str)(ks:List GT):GT:= .mk 0 ⟨kind,[],num,0,0,[]⟩ [] tt ks
def digit(s:Str):Option Nat:=match s with|[c]=>if 48≤c.toNat∧c.toNat≤57 then some (c.toNat-48) else none|_=>none
theorem Rw{s:Str}{n:Nat}(h:digit s=some n):n < 10∧s=[UInt8.ofNat (48+n)]:=by
 unfold digit at h
 split at h
 ·next c=>
  split at h
  ·next hc=>
   injection h with h;refine⟨by omega, ?_⟩
   congr 1
   apply UInt8.toNat.inj;rw[UInt8.toNat_ofNat'];omega
  ·cases h
 ·cases h
def FM:List Str:=[[43],[45],[42],[47],[37],[60],[60,61],[62],[62,61],[61,61],[33,61],[38,38],[124,124]]
def Ez(s:Str):Nat:=match FM.findIdx? (·==s) with|some k=>k+1|none=>0
def II(L:List Tok)(item:Nat→Option (GT×Nat)):Nat→Nat→Option (List GT×Nat)
 |0,_=>none
 |n+1,k=>match item k with
   |none=>none
   |some (a,k1)=>
     if tkB L k1 [41] then some ([a],k1+1)
     else if tkB L k1 [44] then match II L item n (k1+1) with
      |none=>none
      |some (l,k2)=>some (a::l,k2)
     else none
def KD(L:List Tok)(item:Nat→Option (GT×Nat))(k:Nat):Option (List GT×Nat):=
 if tkB L k [41] then some ([],k+1) else II L item L.length k
def EC(L:List Tok)(stop:Str)(item:Nat→Option (GT×Nat)):Nat→Nat→Option (List GT×Nat)
 |0,_=>none
 |n+1,k=>
   if tkB L k stop then some ([],k)
   else if L.length≤k then none
   else match item k with
   |none=>none
   |some (a,k1)=>match EC L stop item n k1 with
     |none=>none
     |some (l,k2)=>some (a::l,k2)
def gE(L:List Tok):Nat→Nat→Nat→Option (GT×Nat)
 |0,_,_=>none
 |f+1,d,k=>
   if L.length≤k then none
   else if (tkAt L k).kind=2 then match digit (tkAt L k).text with
    |some n=>some (gmk 13 n [] [],k+1)
    |none=>none
   else if (tkAt L k).kind=1 then none
   else if tkIs L k Eo then some (gmk 14 1 [] [],k+1)
   else if tkIs L k EI then none
   else if tkIs L k GJ then none
   else if tkIs L k [33] then none
   else if tkIs L k [45] then none
   else if tkIs L k [40] then
    if d < 60 then match gE L f (d+1) (k+1) with
     |none=>none
     |some (a,k1)=>
       if L.length≤k1 then none
       else if Ez (tkAt L k1).text=0 then none
       else match gE L f (d+1) (k1+1) with
        |none=>none
        |some (b,k2)=>if tkB L k2 [41] then some (gmk 18 (Ez (tkAt L k1).text) [] [a,b],k2+1) else none
    else none
   else none
def QY(L:List Tok)(k:Nat):Option Nat:=if tkB L k wInt then some 1 else if tkB L k Lt then some 2 else none
def Fw(L:List Tok)(k:Nat):Bool:=decide (k < L.length) && decide ((tkAt L k).kind=1)
def gS(_:List Tok)(_ _ _:Nat):Option (GT×Nat):=none
def gPar(_:List Tok)(_:Nat):Option (GT×Nat):=none
def gF(L:List Tok)(f k:Nat):Option (GT×Nat):=
 if tkB L k CX && (Fw L (k+1) && tkB L (k+2) [40]) then match KD L (gPar L) (k+3) with
  |none=>none
  |some (ps,k1)=>match QY L k1 with
    |none=>none
    |some t=>if tkB L (k1+1) [123] then match EC L Aw (gS L f 0) L.length (k1+2) with
      |none=>none
      |some (ss,k2)=>match gE L f 0 (k2+1) with
        |none=>none
        |some (e,k3)=>if tkB L k3 [59] && tkB L (k3+1) [125] then
         some (.mk 0 ⟨3,(tkAt L (k+1)).text,0,t,0,[]⟩ [] [] (ps++[gmk 5 0 [] (ss++[gmk 10 0 [] [e]])]),k3+2)
          else none
      else none
 else none
def gMod(L:List Tok)(f k:Nat):Option (GT×Nat):=
 if tkB L k Bn && (Fw L (k+1) && tkB L (k+2) [123]) then match EC L [125] (gF L f) L.length (k+3) with
  |none=>none
  |some (l,k1)=>some (.mk 0 ⟨2,(tkAt L (k+1)).text,0,0,0,[]⟩ [] [] l,k1+1)
 else none
def KC(L:List Tok)(f:Nat):Nat→Nat→Option (List GT)
 |0,_=>none
 |n+1,k=>if L.length≤k then some [] else match gMod L f k with
   |none=>none
   |some (m,k1)=>match KC L f n k1 with
     |none=>none
     |some l=>some (m::l)
def OC(L:List Tok):Option GT:=(KC L 40 L.length 0).map fun l=>gmk 1 0 [] l
mutual
def num(n:Nat):GT→GT×Nat| .mk _ nd md tt ks=>let r:=numL (n+1) ks;(.mk n nd md tt r.1,r.2)
def numL(n:Nat):List GT→List GT×Nat
 |[]=>([],n)
 |t::ts=>let r:=num n t;let q:=numL r.2 ts;(r.1::q.1,q.2)
end
structure NmSt where
 used:List Str
 scope:List (List (Str×Nat))
 refs:List (Nat×Nat)
 calls:List GT
def NmSt.declare(σ:NmSt)(t:GT):Except Nat NmSt:=
 if t.nd.name∈σ.used then .error 1
 else match σ.scope with
 |[]=> .error 0
 |l::ls=> .ok {σ with used:=t.nd.name::σ.used,scope:=((t.nd.name,t.b)::l)::ls}
mutual
def CJ(σ:NmSt):GT→Except Nat NmSt
 | .mk b nd md tt ks=>
   let r:Except Nat NmSt:=
    if nd.kind=7∨nd.kind=15∨nd.kind=19∨nd.kind=6 then .error 0
    else if nd.kind=5 then .ok {σ with scope:=[]::σ.scope}
    else .ok σ
   match r with
   | .error e=> .error e
   | .ok σ1=>match CF σ1 ks with
     | .error e=> .error e
     | .ok σ2=>if nd.kind=5 then .ok {σ2 with scope:=σ2.scope.drop 1} else .ok σ2
def CF(σ:NmSt):List GT→Except Nat NmSt
 |[]=> .ok σ
 |t::ts=>match CJ σ t with
   | .error e=> .error e
   | .ok σ1=>CF σ1 ts
end
def EW(σ:NmSt):List GT→Except Nat NmSt
 |[]=> .ok σ
 |k::ks=>match (if k.nd.kind=4 then .error 0 else CJ σ k) with
   | .error e=> .error e
   | .ok σ1=>EW σ1 ks
abbrev Funs:=List ((Str×Str)×Nat)
def IG(fs:Funs)(σ:NmSt)(mod:Str)(f:GT):Except Nat (Funs×NmSt):=
 if (fs.find? (·.1==(mod,f.nd.name))).isSome then .error 0
 else match EW {σ with used:=[],scope:=[[]]} f.ks with
  | .error e=> .error e
  | .ok σ1=> .ok (((mod,f.nd.name),f.b)::fs,σ1)
def Fy(fs:Funs)(σ:NmSt)(mod:Str):List GT→Except Nat (Funs×NmSt)
 |[]=> .ok (fs,σ)
 |f::l=>match IG fs σ mod f with
   | .error e=> .error e
   | .ok (fs1,σ1)=>Fy fs1 σ1 mod l
def Gn(ms:List Str)(fs:Funs)(σ:NmSt):List GT→Except Nat (Funs×NmSt)
 |[]=> .ok (fs,σ)
 |m::l=>if m.nd.name∈ms then .error 0 else match Fy fs σ m.nd.name m.ks with
   | .error e=> .error e
   | .ok (fs1,σ1)=>Gn (m.nd.name::ms) fs1 σ1 l
def MP(_:Funs)(refs:List (Nat×Nat)):List GT→Except Nat (List (Nat×Nat))
 |[]=> .ok refs
 |_::_=> .error 0
def nAll(t:GT):Except Nat (List (Nat×Nat)):=match Gn [] [] ⟨[],[],[],[]⟩ t.ks with
 | .error e=> .error e
 | .ok (fs,σ)=>MP fs σ.refs σ.calls
def SS(refs:List (Nat×Nat))(i:Nat):Nat:=((refs.find? (·.1==i)).map (·.2)).getD 0
def J4(refs:List (Nat×Nat))(t:GT):List Row:=t.subs.map fun s=>⟨s.b,{s.nd with ref:=SS refs s.b,kids:=s.ks.map GT.b}⟩
def Mm(s:Str):Except Nat (List Row):=match Cz s with
 |none=> .error 0
 |some L=>match OC L with
   |none=> .error 0
   |some t=>match nAll (num 1 t).1 with
     | .error e=> .error e
     | .ok refs=> .ok (J4 refs (num 1 t).1)
end Hg
