/-
  Part of the proof of CheckLists.
-/
import Derived.Test.YtljmibnfmilfbaaGreatDoorKeAA
import Derived.Test.YtljmibnfmilfbaaGreatDoorKeAB
set_option linter.all false
namespace Hg
def Nk(M:Nat)(n:Node):Prop:=n.kind≤20∧n.num≤9223372036854775807∧n.name.length≤M
theorem Pn(s:Str):BZ s≤9223372036854775807:=by
 unfold BZ;split
 ·decide
 ·split
  ·decide
  ·split
   ·split
    ·decide
    ·omega
   ·decide
namespace Rd
theorem Xh(t:Str):opOf t≤13:=by
 unfold opOf;split
 ·rename_i i h
  obtain⟨h1,_⟩:=List.findIdx?_eq_some_iff_getElem.1 h;have:ops.length=13:=rfl;omega
 ·omega
def NBs(s:Rd):Prop:=∀M,(∀t∈s.L,t.text.length≤M)→∀r∈s.rows,Nk M r.node
def NdOk(s:Rd)(n:Node):Prop:=∀M,(∀t∈s.L,t.text.length≤M)→Nk M n
theorem XU(s:Rd)(k M:Nat)(h:∀t∈s.L,t.text.length≤M):(s.text k).length≤M:=by
 unfold text;split
 ·simp
 ·split
  ·rename_i t ht
   split
   ·exact h t (List.mem_of_getElem? ht)
   ·simp
  ·simp
theorem FI{s:Rd}{k:Nat}(h:k≤20):NdOk s (nd k):=fun M _=>⟨h,by show(0:Int)≤_;decide,Nat.zero_le _⟩
theorem Kc{s:Rd}{k:Nat}{v:Int}(h:k≤20)(hv:v≤9223372036854775807):NdOk s (IX k v):=fun M _=>⟨h,hv,Nat.zero_le _⟩
theorem Jy{s a:Rd}{k i:Nat}(hL:s.L=a.L)(h:k≤20):NdOk s (AO k (a.text i)):=fun M hM=>⟨h,by show(0:Int)≤_;decide,by
 show(a.text i).length≤M;exact XU a i M (by rw[←hL];exact hM)⟩
structure NS (s s':Rd):Prop where
 L:s'.L=s.L
 nb:NBs s→NBs s'
theorem NS.refl(s:Rd):NS s s:=⟨rfl,id⟩
theorem NS.trans{a b c:Rd}(h:NS a b)(k:NS b c):NS a c:=⟨k.L.trans h.L,fun x=>k.nb (h.nb x)⟩
theorem Dr{s s':Rd}(hL:s'.L=s.L)(h:s'.rows=s.rows):NS s s':=⟨hL,fun x M hM r hr=>x M (by rw[←hL];exact hM) r (by rw[←h];exact hr)⟩
theorem I5(s:Rd)(k:Nat)(f:Row→Row)(h1:∀r,(f r).node.kind=r.node.kind)(h2:∀r,(f r).node.name=r.node.name)(h3:∀r,r.node.num≤9223372036854775807→(f r).node.num≤9223372036854775807):NS s {s with rows:=s.rows.modify k f}:=
 ⟨rfl,fun x M hM r' hr=>by
  obtain⟨i,hi⟩:=List.mem_iff_getElem?.1 hr;obtain⟨r,h0,he⟩:=Ed hi;have hx:=x M hM r (List.mem_of_getElem? h0);subst he;split
  ·exact⟨by rw[h1];exact hx.1,h3 r hx.2.1,by rw[h2];exact hx.2.2⟩
  ·exact hx⟩
theorem D8(s:Rd)(u:Nat)(n:Node)(hn:NdOk s n):NS s (s.node u n):=by
 have hp:NS s {s with rows:=s.rows++[⟨s.rows.length+1,n⟩]}:=⟨rfl,fun x M hM r hr=>by
  rcases List.mem_append.1 hr with hr|hr
  ·exact x M hM r hr
  ·simp at hr;subst hr;exact hn M hM⟩
 unfold node;dsimp only;split
 ·exact hp.trans (I5 _ u (fun x=>{x with node:={x.node with kids:=x.node.kids++[s.rows.length+1]}}) (fun _=>rfl) (fun _=>rfl) (fun _ h=>h))
 ·exact hp
theorem Ej(s:Rd):NS s s.step:=Dr rfl rfl
theorem Nj(s:Rd):NS s s.setBad:=Dr rfl rfl
theorem Bu(s:Rd)(t:Str):NS s (s.need t):=Dr (DC s t).L (Dn s t).2.2
theorem He(s:Rd):NS s s.name:=Dr (JA s).L (CQ s).2.2
theorem MK(s:Rd):NS s s.typed.2:=by unfold typed;split <;>first|exact Ej s|exact Bu s _
theorem Jv(s:Rd)(e:Nat):NS s (s.fault e):=Dr (Mh s e).L (Ef s e).1
theorem Sb(s:Rd)(t:Str):NS s (s.find t).2:=by unfold find;split <;>first|exact NS.refl s|exact Jv s _
theorem Ke(s:Rd)(k t:Nat):NS s (s.setRef k t):=I5 s k _ (fun _=>rfl) (fun _=>rfl) (fun _ h=>h)
theorem JY(s:Rd)(k t:Nat):NS s (s.Al k t):=I5 s k _ (fun _=>rfl) (fun _=>rfl) (fun _ h=>h)
theorem Ni(s:Rd)(k:Nat)(t:Str):NS s (s.BL k (opOf t:Nat)):=I5 s k _ (fun _=>rfl) (fun _=>rfl) (fun _ h=>by have:=Xh t;show((opOf t:Nat):Int)≤_;omega)
theorem ML(s:Rd)(t:Str)(k:Nat):NS s (s.declare t k):=Dr (FQ s t k).L (FU s t k).2.2.2.2.2
theorem Es(s:Rd):NS s s.enter:=by unfold enter;dsimp only;split <;>exact Dr rfl rfl
theorem Er(s:Rd):NS s s.leave:=Dr rfl rfl
theorem Sa(s:Rd):NS s s.shut:=Dr rfl rfl
theorem Sw(f:Nat):(∀s u s',expr f s u=some s'→NS s s')∧(∀s u m s',call f s u m=some s'→NS s s')∧(∀b s n s',args f b s n=some s'→NS s s'):=by
 induction f with
 |zero=>exact⟨fun _ _ _ h=>by simp[expr] at h,fun _ _ _ _ h=>by simp[call] at h,fun _ _ _ _ h=>by simp[args] at h⟩
 |succ f ih=>
   obtain⟨ihe,ihc,iha⟩:=ih;refine⟨fun s u s' h=> ?_,fun s u m s' h=> ?_,fun b s n s' h=> ?_⟩
   ·rw[expr] at h
    have nodeK:∀n:Node,NdOk s.step n→NS s (s.step.node u n):=fun n hn=>(Ej s).trans (D8 s.step u n hn);by_cases h2:s.text 2≠[]
    ·rw[if_pos h2] at h
     injection h with h;subst h;exact nodeK _ (Kc (by decide) (Pn _))
    rw[if_neg h2] at h;by_cases h1:s.text 1≠[]
    ·rw[if_pos h1] at h
     dsimp only at h;by_cases hd:s.step.next [46]=true
     ·rw[if_pos hd] at h
      exact(Ej s).trans (ihc _ _ _ _ h)
     ·rw[if_neg hd] at h
      injection h with h;subst h;exact((nodeK (nd 15) (by first|exact FI (by decide)|exact Kc (by decide) (by decide))).trans (Sb _ _)).trans (Ke _ _ _)
    rw[if_neg h1] at h;by_cases ht:s.next Eo=true
    ·rw[if_pos ht] at h
     injection h with h;subst h;exact nodeK _ (by first|exact FI (by decide)|exact Kc (by decide) (by decide))
    rw[if_neg ht] at h;by_cases hf:s.next EI=true
    ·rw[if_pos hf] at h
     injection h with h;subst h;exact nodeK _ (by first|exact FI (by decide)|exact Kc (by decide) (by decide))
    rw[if_neg hf] at h;by_cases hr:s.next GJ=true
    ·rw[if_pos hr] at h
     injection h with h;subst h;exact nodeK _ (by first|exact FI (by decide)|exact Kc (by decide) (by decide))
    rw[if_neg hr] at h;by_cases hn:s.next [33]=true∨s.next [45]=true
    ·rw[if_pos hn] at h
     dsimp only at h;have hkind:(if s.next [33]=true then 16 else 17)=16∨(if s.next [33]=true then 16 else 17)=17:=by split <;>simp
     generalize hk:(if s.next [33]=true then 16 else 17)=kind at h hkind;have K1:=nodeK (nd kind) (FI (by omega));by_cases hb:(s.step.node u (nd kind)).enter.bad=true
     ·rw[if_pos hb] at h
      injection h with h;subst h;exact K1.trans ((Es _).trans (Er _))
     ·rw[if_neg hb] at h
      cases he:expr f (s.step.node u (nd kind)).enter s.rows.length with
      |none=>rw[he] at h;simp at h
      |some s1=>
        rw[he] at h;injection h with h;subst h;exact K1.trans ((Es _).trans ((ihe _ _ _ he).trans (Er _)))
    rw[if_neg hn] at h;by_cases hp:s.next [40]=true
    ·rw[if_pos hp] at h
     dsimp only at h;have K1:=nodeK (nd 18) (by first|exact FI (by decide)|exact Kc (by decide) (by decide));by_cases hb:(s.step.node u (nd 18)).enter.bad=true
     ·rw[if_pos hb] at h
      injection h with h;subst h;exact K1.trans ((Es _).trans (Er _))
     ·rw[if_neg hb] at h
      cases he:expr f (s.step.node u (nd 18)).enter s.rows.length with
      |none=>rw[he] at h;simp at h
      |some s1=>
        rw[he] at h;dsimp only at h;have E1:=ihe _ _ _ he;have e1:NS s1 ((if opOf (s1.text 4)=0 then(s1.BL s.rows.length (opOf (s1.text 4):Nat)).setBad else s1.BL s.rows.length (opOf (s1.text 4):Nat)).step):=by
         refine NS.trans ?_ (Ej _);split
         ·exact(Ni _ _ _).trans (Nj _)
         ·exact Ni _ _ _
        cases he2:expr f ((if opOf (s1.text 4)=0 then(s1.BL s.rows.length (opOf (s1.text 4):Nat)).setBad else s1.BL s.rows.length (opOf (s1.text 4):Nat)).step) s.rows.length with
        |none=>rw[he2] at h;simp at h
        |some s2=>
          rw[he2] at h;injection h with h;subst h;have E2:=ihe _ _ _ he2;exact K1.trans ((Es _).trans ((E1.trans e1).trans ((E2.trans (Bu _ _)).trans (Er _))))
    rw[if_neg hp] at h;injection h with h;subst h;exact Nj s
   ·rw[call] at h
    try dsimp only at h
    have K1:=D8 s u (nd 19) (FI (by decide));have K2:=((Bu (s.node u (nd 19)) [46]).trans (He _));generalize hbd:({((s.node u (nd 19)).need [46]).name with calls:=((s.node u (nd 19)).need [46]).name.calls++[((s.node u (nd 19)).need [46]).name.idAt s.rows.length],wants:=((s.node u (nd 19)).need [46]).name.wants++[m++[32]++((s.node u (nd 19)).need [46]).text 1]}:Rd)=b at h;have K3:NS ((s.node u (nd 19)).need [46]).name b:=by rw[←hbd];exact Dr rfl rfl
    by_cases hb:b.enter.bad=true
    ·rw[if_pos hb] at h
     injection h with h;subst h;exact K1.trans ((K2.trans K3).trans ((Es _).trans (Er _)))
    ·rw[if_neg hb] at h
     cases he:args f true (b.enter.need [40]) s.rows.length with
     |none=>rw[he] at h;simp at h
     |some s1=>
       rw[he] at h;injection h with h;subst h;have K4:=(K2.trans K3).trans ((Es b).trans (Bu _ [40]));exact K1.trans (K4.trans ((iha _ _ _ _ he).trans (Er _)))
   ·rw[args] at h
    by_cases hb:s.bad=true
    ·rw[if_pos hb] at h
     injection h with h;subst h;exact NS.refl _
    rw[if_neg hb] at h;by_cases hn:s.next [41]=true
    ·rw[if_pos hn] at h
     injection h with h;subst h;exact Ej _
    rw[if_neg hn] at h;have K1:NS s (if b=true then s else s.need [44]):=by split <;>first|exact NS.refl _|exact Bu _ _
    cases he:expr f (if b=true then s else s.need [44]) n with
    |none=>rw[he] at h;simp at h
    |some s1=>
      rw[he] at h;have K2:=K1.trans (ihe _ _ _ he);exact K2.trans (iha _ _ _ _ h)
theorem XY(f:Nat):(∀s u s',stmt f s u=some s'→NS s s')∧(∀s u s',block f s u=some s'→NS s s')∧(∀s n s',stmts f s n=some s'→NS s s'):=by
 induction f with
 |zero=>exact⟨fun _ _ _ h=>by simp[stmt] at h,fun _ _ _ h=>by simp[block] at h,fun _ _ _ h=>by simp[stmts] at h⟩
 |succ f ih=>
   obtain⟨ihs,ihb,ihl⟩:=ih;have E:=Sw f;refine⟨fun s u s' h=> ?_,fun s u s' h=> ?_,fun s n s' h=> ?_⟩
   ·rw[stmt] at h
    try dsimp only at h
    have nodeK:∀n:Node,NdOk s.step n→NS s (s.step.node u n):=fun n hn=>(Ej s).trans (D8 s.step u n hn);by_cases h1:s.next wLet=true
    ·rw[if_pos h1] at h
     have K0:=(Ej s).trans (He s.step);have K1:=K0.trans (D8 s.step.name u (AO 6 (s.step.text 1)) (Jy (JA s.step).L (by decide)));have K2:=((MK (s.step.name.node u (AO 6 (s.step.text 1)))).trans (JY _ s.rows.length (s.step.name.node u (AO 6 (s.step.text 1))).typed.1)).trans (Bu _ [61]);generalize((s.step.name.node u (AO 6 (s.step.text 1))).typed.2.Al s.rows.length (s.step.name.node u (AO 6 (s.step.text 1))).typed.1).need [61]=a at h K2;cases he:expr f a s.rows.length with
     |none=>rw[he] at h;simp at h
     |some b=>
       rw[he] at h;injection h with h;subst h;exact K1.trans (K2.trans ((E.1 _ _ _ he).trans ((ML _ _ _).trans (Bu _ _))))
    rw[if_neg h1] at h;by_cases h2:s.next wIf=true
    ·rw[if_pos h2] at h
     have K1:=nodeK (nd 8) (FI (by decide));cases he:expr f (s.step.node u (nd 8)) s.rows.length with
     |none=>rw[he] at h;simp at h
     |some a=>
       rw[he] at h;dsimp only at h;have K2:=E.1 _ _ _ he;cases hb:block f a s.rows.length with
       |none=>rw[hb] at h;simp at h
       |some b=>
         rw[hb] at h;have K3:=ihb _ _ _ hb;have K4:=(K2.trans K3).trans (Bu b Ls);exact K1.trans (K4.trans (ihb _ _ _ h))
    rw[if_neg h2] at h;by_cases h3:s.next Gv=true
    ·rw[if_pos h3] at h
     have K1:=nodeK (nd 9) (FI (by decide));cases he:expr f (s.step.node u (nd 9)) s.rows.length with
     |none=>rw[he] at h;simp at h
     |some a=>
       rw[he] at h;have K2:=E.1 _ _ _ he;exact K1.trans (K2.trans (ihb _ _ _ h))
    rw[if_neg h3] at h;by_cases h4:s.next Gw=true
    ·rw[if_pos h4] at h
     have K1:=nodeK (nd 11) (FI (by decide));cases he:expr f (s.step.node u (nd 11)) s.rows.length with
     |none=>rw[he] at h;simp at h
     |some a=>
       rw[he] at h;injection h with h;subst h;exact K1.trans ((E.1 _ _ _ he).trans (Bu _ _))
    rw[if_neg h4] at h;by_cases h5:s.next wDo=true
    ·rw[if_pos h5] at h
     have K1:=nodeK (nd 12) (FI (by decide));generalize(s.step.node u (nd 12))=a at h K1;cases he:call f a.name s.rows.length (a.text 1) with
     |none=>rw[he] at h;simp at h
     |some b=>
       rw[he] at h;injection h with h;subst h;exact(K1.trans (He a)).trans ((E.2.1 _ _ _ _ he).trans (Bu _ _))
    rw[if_neg h5] at h;have K1:=(He s).trans (D8 s.name u (nd 7) (FI (by decide)));generalize(s.name.node u (nd 7))=a at h K1;have K2:=((Sb a (s.text 1)).trans (Ke _ s.rows.length (a.find (s.text 1)).1)).trans (Bu _ [61]);cases he:expr f (((a.find (s.text 1)).2.setRef s.rows.length (a.find (s.text 1)).1).need [61]) s.rows.length with
    |none=>rw[he] at h;simp at h
    |some b=>
      rw[he] at h;injection h with h;subst h;exact K1.trans (K2.trans ((E.1 _ _ _ he).trans (Bu _ _)))
   ·rw[block] at h
    try dsimp only at h
    have K1:=D8 s u (nd 5) (FI (by decide));generalize hbd:({(s.node u (nd 5)) with level:=(s.node u (nd 5)).level+1}:Rd)=b at h;have K2:NS (s.node u (nd 5)) b:=by rw[←hbd];exact Dr rfl rfl
    by_cases hb:b.enter.bad=true
    ·rw[if_pos hb] at h
     injection h with h;subst h;exact(K1.trans K2).trans ((Es _).trans ((Er _).trans (Sa _)))
    ·rw[if_neg hb] at h
     cases he:stmts f (b.enter.need [123]) s.rows.length with
     |none=>rw[he] at h;simp at h
     |some a=>
       rw[he] at h;injection h with h;subst h;have K3:=K2.trans ((Es b).trans (Bu _ [123]));exact K1.trans (K3.trans ((ihl _ _ _ he).trans ((Er _).trans (Sa _))))
   ·rw[stmts] at h
    by_cases hb:s.bad=true
    ·rw[if_pos hb] at h
     injection h with h;subst h;exact NS.refl _
    rw[if_neg hb] at h;by_cases hn:s.next [125]=true
    ·rw[if_pos hn] at h
     injection h with h;subst h;exact Ej _
    rw[if_neg hn] at h;cases he:stmt f s n with
    |none=>rw[he] at h;simp at h
    |some a=>
      rw[he] at h;have K1:=ihs _ _ _ he;exact K1.trans (ihl _ _ _ h)
theorem UW:∀(f:Nat) (b:Bool) (s:Rd) (k:Nat) (s':Rd),params f b s k=some s'→NS s s':=by
 intro f
 induction f with
 |zero=>intro b s k s' h;simp[params] at h
 |succ f ih=>
   intro b s k s' h;rw[params] at h;by_cases hb:s.bad=true
   ·rw[if_pos hb] at h;injection h with h;subst h;exact NS.refl _
   rw[if_neg hb] at h;by_cases hn:s.next [41]=true
   ·rw[if_pos hn] at h;injection h with h;subst h;exact Ej _
   rw[if_neg hn] at h;dsimp only at h;have K0:NS s (if b=true then s else s.need [44]):=by split <;>first|exact NS.refl _|exact Bu _ _
   generalize(if b=true then s else s.need [44])=r at h K0;have K1:=K0.trans (He r);have K2:=K1.trans (D8 r.name k (AO 4 (r.text 1)) (Jy (JA r).L (by decide)));have K3:=K2.trans ((MK _).trans ((JY _ r.rows.length (r.name.node k (AO 4 (r.text 1))).typed.1).trans (ML _ (r.text 1) r.rows.length)));exact K3.trans (ih _ _ _ _ h)
theorem X0:∀(f:Nat) (s:Rd) (n:Nat) (s':Rd),body f s n=some s'→NS s s':=by
 intro f
 induction f with
 |zero=>intro s n s' h;simp[body] at h
 |succ f ih=>
   intro s n s' h;rw[body] at h;by_cases hb:s.bad=true∨s.next Aw=true
   ·rw[if_pos hb] at h;injection h with h;subst h;exact NS.refl _
   rw[if_neg hb] at h;cases he:stmt f s n with
   |none=>rw[he] at h;simp at h
   |some a=>
     rw[he] at h;have K1:=(XY f).1 _ _ _ he;exact K1.trans (ih _ _ _ h)
theorem Xy(f:Nat)(s:Rd)(u:Nat)(m:Str)(s':Rd)(h:func f s u m=some s'):NS s s':=by
 unfold func at h;dsimp only at h;have K1:=(Bu s CX).trans (He _);have hT:∀x:Rd,x.L=s.L→NdOk x (AO 3 ((s.need CX).text 1)):=fun x hx=>Jy (hx.trans (DC s CX).L.symm) (by decide);generalize(s.need CX).text 1=t at h hT;generalize(s.need CX).name=a at h K1;have K2:NS s (if inL a.funcs (m++[32]++t)=true then a.fault 10 else a):=K1.trans (by split <;>first|exact Jv _ _|exact NS.refl _);generalize(if inL a.funcs (m++[32]++t)=true then a.fault 10 else a)=b at h K2;change (match params f true (((b.node u (AO 3 t)).Fv (m++[32]++t) b.rows.length).need [40]) b.rows.length with
  |none=>none
  |some r=>_)=some s' at h
 have K3:=K2.trans (D8 b u (AO 3 t) (hT b K2.L));have K4:NS (b.node u (AO 3 t)) ((b.node u (AO 3 t)).Fv (m++[32]++t) b.rows.length):=Dr rfl rfl;have K5:=K3.trans K4;generalize(b.node u (AO 3 t)).Fv (m++[32]++t) b.rows.length=c at h K5;cases hp:params f true (c.need [40]) b.rows.length with
 |none=>rw[hp] at h;simp at h
 |some p=>
   rw[hp] at h;dsimp only at h;have K6:=(Bu c [40]).trans (UW _ _ _ _ _ hp);have K7:=K6.trans ((MK p).trans (JY _ b.rows.length p.typed.1));have K8:=K7.trans (D8 _ b.rows.length (nd 5) (FI (by decide)));have K9:=K8.trans (Bu _ [123]);generalize((p.typed.2.Al b.rows.length p.typed.1).node b.rows.length (nd 5)).need [123]=q at h K9;cases hq:body f q (p.typed.2.Al b.rows.length p.typed.1).rows.length with
   |none=>rw[hq] at h;simp at h
   |some v=>
     rw[hq] at h;dsimp only at h;have K10:=X0 _ _ _ _ hq;have K11:=K10.trans (Bu v Aw);have K12:=K11.trans (D8 (v.need Aw) (p.typed.2.Al b.rows.length p.typed.1).rows.length (nd 10) (FI (by decide)));cases hx:expr f ((v.need Aw).node (p.typed.2.Al b.rows.length p.typed.1).rows.length (nd 10)) (v.need Aw).rows.length with
     |none=>rw[hx] at h;simp at h
     |some x=>
       rw[hx] at h;injection h with h;subst h;exact K5.trans (K9.trans (K12.trans (((Sw f).1 _ _ _ hx).trans ((Bu _ _).trans (Bu _ _)))))
theorem O6(f:Nat):∀(g:Nat) (s:Rd) (m:Nat) (t:Str) (s':Rd),BF f g s m t=some s'→NS s s':=by
 intro g
 induction g with
 |zero=>intro s m t s' h;simp[BF] at h
 |succ g ih=>
   intro s m t s' h;rw[BF] at h;by_cases hb:s.bad=true
   ·rw[if_pos hb] at h;injection h with h;subst h;exact NS.refl _
   rw[if_neg hb] at h;by_cases hn:s.next [125]=true
   ·rw[if_pos hn] at h;injection h with h;subst h;exact Ej _
   rw[if_neg hn] at h;cases he:func f s m t with
   |none=>rw[he] at h;simp at h
   |some a=>
     rw[he] at h;have K1:=Xy _ _ _ _ _ he;exact K1.trans (ih _ _ _ _ h)
theorem QK(f:Nat):∀(g:Nat) (s:Rd) (root:Nat) (s':Rd),Ba f g s root=some s'→NS s s':=by
 intro g
 induction g with
 |zero=>intro s r s' h;simp[Ba] at h
 |succ g ih=>
   intro s root s' h;rw[Ba] at h;by_cases hb:s.bad=true∨s.L.length≤s.at_
   ·rw[if_pos hb] at h;injection h with h;subst h;exact NS.refl _
   rw[if_neg hb] at h;dsimp only at h;have K1:=(Bu s Bn).trans (He _);have hT:∀x:Rd,x.L=s.L→NdOk x (AO 2 ((s.need Bn).text 1)):=fun x hx=>Jy (hx.trans (DC s Bn).L.symm) (by decide);generalize(s.need Bn).text 1=t at h hT;generalize(s.need Bn).name=a at h K1;have K2:NS s (if inL a.mods t=true then a.fault 10 else a):=K1.trans (by split <;>first|exact Jv _ _|exact NS.refl _);generalize(if inL a.mods t=true then a.fault 10 else a)=b at h K2;generalize hc:({b with mods:=b.mods++[t]}:Rd)=c at h;have hcr:c.rows=b.rows:=by rw[←hc]
   have K3:=K2.trans (Dr (by rw[←hc]:c.L=b.L) hcr);have K4:=K3.trans (D8 c root (AO 2 t) (hT c K3.L));have K5:=Bu (c.node root (AO 2 t)) [123];cases he:BF f f ((c.node root (AO 2 t)).need [123]) b.rows.length t with
   |none=>rw[he] at h;simp at h
   |some d=>
     rw[he] at h;have K6:=K4.trans (K5.trans (O6 _ _ _ _ _ _ he));exact K6.trans (ih _ _ _ h)
theorem Xk:∀(is:List Nat) (ws:List Str) (s:Rd),NS s (link is ws s):=by
 intro is
 induction is with
 |nil=>intro ws s;cases ws <;>exact NS.refl _
 |cons i is ih=>
   intro ws s;cases ws with
   |nil=>exact NS.refl _
   |cons t ws=>
     rw[link];refine NS.trans ?_ (ih ws _);refine NS.trans ?_ (Ke _ _ _)
     split <;>first|exact Jv _ _|exact NS.refl _
theorem RJ(f:Nat)(l:List Tok)(s':Rd)(h:program f (BC l)=some s')(M:Nat)(hM:∀t∈l,t.text.length≤M):∀r∈s'.rows,Nk M r.node:=by
 unfold program at h;dsimp only at h;cases e:Ba f f ((BC l).node 0 (nd 1)) (BC l).rows.length with
 |none=>rw[e] at h;simp at h
 |some a=>
   rw[e] at h;injection h with h;subst h;have K:=(D8 (BC l) 0 (nd 1) (FI (by decide))).trans ((QK _ _ _ _ _ e).trans (Xk a.calls a.wants a));exact K.nb (fun M hM r hr=>by have h0:(BC l).rows=[]:=rfl;rw[h0] at hr;simp at hr) M (by rw[K.L];exact hM)
end Rd
theorem MS:∀{l:List Row} {r:Row},r∈l→r.node.kids.length≤BA l
 |[],r,h=>by simp at h
 |x::l,r,h=>by
   rw[Dw];rcases List.mem_cons.1 h with h|h
   ·subst h;omega
   ·have:=MS h;omega
theorem Tr.sum{l:List Row}(h:Tr l):BA l=l.length-1:=by
 have:=h.perm.length_eq;rw[List.length_flatMap] at this;simpa[BA] using this
theorem Tr.kids{l:List Row}(h:Tr l)(r:Row)(hr:r∈l):r.node.kids.length≤l.length:=by
 have h1:=h.sum;have h2:r.node.kids.length≤BA l:=by
  exact MS hr
 omega
theorem Vr(s:Str):∀r∈(Cv s).1,Nk s.length r.node:=by
 cases h:Cz s with
 |none=>rw[JX h];intro r hr;simp at hr
 |some l=>
   obtain⟨r,hp,_,_,ht,e⟩:=JW h;obtain⟨_,h2⟩:=Kb h;rw[e];split
   ·intro r hr;simp at hr
   ·split
    ·intro r hr;simp at hr
    ·split
     ·intro r hr;simp at hr
     ·exact Rd.RJ _ _ _ hp _ h2
end Hg
namespace Hg
def FT(s:Str):List Row:=if (Cv (s.take 900)).2≠0 then[⟨1,⟨1,[],0,0,0,[]⟩⟩] else(Cv (s.take 900)).1
def Hd(s:Str)(bs:List Bend):List Row:=bent 0 bs (FT s)
theorem R8:Ct 1 [⟨1,⟨1,[],0,0,0,[]⟩⟩]:=by
 refine⟨rfl, ?_,by decide, ?_, ?_, ?_, ?_⟩
 ·intro k r h
  cases k with
  |zero=>injection h with h;subst h;rfl
  |succ k=>cases h
 all_goals (intro r hr;rw[List.mem_singleton] at hr;subst hr)
 ·intro c hc;cases hc
 ·decide
 ·decide
 ·decide
theorem PN(s:Str)(hs:s.length≤1000000):Ct (Cv s).1.length (Cv s).1:=by
 obtain⟨h1,h2⟩:=Ps s;have hnb:=Vr s;rcases h1 with h1|h1
 ·rw[h1]
  refine⟨rfl,fun k r h=>(by cases h),by simp[BA], ?_, ?_, ?_, ?_⟩ <;>(intro r hr;cases hr)
 ·refine⟨rfl,fun k r h=>(by rw[h1.rid k r h];omega),by rw[h1.sum];omega,fun r hr c hc=> ?_,fun r hr=>(hnb r hr).1,fun r hr=>(by have:=(hnb r hr).2.2;omega),fun r hr=>(hnb r hr).2.1⟩
  obtain⟨k,hk⟩:=List.mem_iff_getElem?.1 hr;exact(h1.up k r hk c hc).2
theorem Mj(s:Str):∃N,N≤20000∧Ct N (FT s):=by
 unfold FT;split
 ·exact⟨1,by decide,R8⟩
 ·exact⟨_,(Ps _).2,PN _ (by rw[List.length_take];omega)⟩
theorem UU(s:Str)(bs:List Bend):∃N,N≤20000∧Ct N (Hd s bs):=by
 obtain⟨N,h1,h2⟩:=Mj s;exact⟨N,h1,h2.bent bs 0⟩
theorem UL{l:List Row}(h:shaped l=some true):l≠[]:=by
 rintro rfl
 revert h
 decide
def sc1(l:List Row)(r:Row):Bool:=decide (r.node.kind < 1∨20 < r.node.kind∨decide (r.node.kind=1)≠decide (r.id=1)∨fits r.node.kind (classes l r.node.kids) (decide (kindOf l (parentOf l r.id).1=3))=false)
def sc2(r:Row):Bool:=decide (isNamed r.node.kind≠(r.node.name !=[])∨isNamed r.node.kind=true∧(Bz r.node.name=false∨inL words r.node.name=true))
def DK(k:Nat):Bool:=isNamed k && decide (k≠2)
def sc3(r:Row):Bool:=decide (DK r.node.kind≠(decide (r.node.type=1)||decide (r.node.type=2))∨DK r.node.kind=false∧r.node.type≠0)
def sc4(l:List Row)(r:Row):Bool:=
 if r.node.kind=7∨r.node.kind=15 then decide (kindOf l r.node.ref≠4∧kindOf l r.node.ref≠6)
 else if r.node.kind=19 then decide (kindOf l r.node.ref≠3) else decide (r.node.ref≠0)
def JK(k:Nat):Int:=if k=18 then 1 else 0
def Gb(k:Nat):Int:=if k=13 then 9223372036854775807 else if k=14 then 1 else if k=18 then 13 else 0
def sc5(r:Row):Bool:=decide (r.node.num < JK r.node.kind∨Gb r.node.kind < r.node.num)
theorem Sj(k:Nat):(k=13→JK k=0∧Gb k=9223372036854775807)∧(k=14→JK k=0∧Gb k=1)∧(k=18→JK k=1∧Gb k=13)∧(k≠13∧k≠14∧k≠18→JK k=0∧Gb k=0):=by
 unfold JK Gb;refine⟨fun h=> ?_,fun h=> ?_,fun h=> ?_,fun h=> ?_⟩
 ·subst h;exact⟨rfl,rfl⟩
 ·subst h;exact⟨rfl,rfl⟩
 ·subst h;exact⟨rfl,rfl⟩
 ·rw[if_neg h.2.2,if_neg h.1,if_neg h.2.1,if_neg h.2.2];exact⟨rfl,rfl⟩
theorem Oh(l:List Row)(r:Row)(hn:r.node.num≤9223372036854775807):DX l r=(!sc1 l r && !sc2 r && !sc3 r && !sc4 l r && !sc5 r):=by
 unfold DX;dsimp only;rw[show(isNamed r.node.kind && decide (r.node.kind≠2))=DK r.node.kind from rfl];by_cases h1:sc1 l r=true
 ·rw[if_pos (of_decide_eq_true h1)];simp[h1]
 rw[if_neg (fun h=>h1 (decide_eq_true h))];have e1:sc1 l r=false:=by simpa using h1
 by_cases h2:sc2 r=true
 ·rw[if_pos (of_decide_eq_true h2)];simp[h2]
 rw[if_neg (fun h=>h2 (decide_eq_true h))];have e2:sc2 r=false:=by simpa using h2
 by_cases h3:sc3 r=true
 ·rw[if_pos (of_decide_eq_true h3)];simp[h3]
 rw[if_neg (fun h=>h3 (decide_eq_true h))];have e3:sc3 r=false:=by simpa using h3
 rw[e1,e2,e3];simp only[Bool.not_false,Bool.true_and];obtain⟨l13,l14,l18,lo⟩:=Sj r.node.kind;unfold sc4 sc5;by_cases k7:r.node.kind=7∨r.node.kind=15
 ·obtain⟨a1,a2⟩:=lo (by omega)
  rw[if_pos k7,if_pos k7,a1,a2];by_cases hk:kindOf l r.node.ref≠4∧kindOf l r.node.ref≠6
  ·rw[if_pos hk,decide_eq_true hk];rfl
  ·rw[if_neg hk,decide_eq_false hk]
   rw[Bool.eq_iff_iff];simp;omega
 rw[if_neg k7,if_neg k7];by_cases k19:r.node.kind=19
 ·obtain⟨a1,a2⟩:=lo (by omega)
  rw[if_pos k19,if_pos k19,a1,a2];by_cases hk:kindOf l r.node.ref≠3
  ·rw[if_pos hk,decide_eq_true hk];rfl
  ·rw[if_neg hk,decide_eq_false hk]
   rw[Bool.eq_iff_iff];simp;omega
 rw[if_neg k19,if_neg k19];by_cases hr:r.node.ref≠0
 ·rw[if_pos hr,decide_eq_true hr];rfl
 rw[if_neg hr,decide_eq_false hr];by_cases k13:r.node.kind=13
 ·obtain⟨a1,a2⟩:=l13 k13
  rw[if_pos k13,a1,a2];rw[Bool.eq_iff_iff];simp;omega
 rw[if_neg k13];by_cases k14:r.node.kind=14
 ·obtain⟨a1,a2⟩:=l14 k14
  rw[if_pos k14,a1,a2];rw[Bool.eq_iff_iff];simp
 rw[if_neg k14];by_cases k18:r.node.kind=18
 ·obtain⟨a1,a2⟩:=l18 k18
  rw[if_pos k18,a1,a2];rw[Bool.eq_iff_iff];simp <;>omega
 rw[if_neg k18];obtain⟨a1,a2⟩:=lo ⟨k13,k14,k18⟩;rw[a1,a2];rw[Bool.eq_iff_iff];simp;omega
end Hg
