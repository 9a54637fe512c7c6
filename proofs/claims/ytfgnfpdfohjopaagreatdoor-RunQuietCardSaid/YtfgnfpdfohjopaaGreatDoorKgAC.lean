/-
  A part of the proof.
-/
import Derived.Test.YtfgnfpdfohjopaaGreatDoorKgAB
set_option linter.all false
namespace Hg
def kRel(p c:Nat):Prop:=(p=1∧c=2)∨(p=2∧c=3)∨(3≤p∧4≤c)
structure Tr (rows:List Row):Prop where
 rid:∀(k:Nat) (r:Row),rows[k]? =some r→r.id=k+1
 up:∀(k:Nat) (r:Row),rows[k]? =some r→∀c∈r.node.kids,k+1 < c∧c≤rows.length
 perm:(rows.flatMap (fun r=>r.node.kids)).Perm (List.range' 2 (rows.length-1))
 kind:∀(k:Nat) (r:Row),rows[k]? =some r→∀c∈r.node.kids,∀r',rows[c-1]? =some r'→kRel r.node.kind r'.node.kind
 root:∀r,rows[0]? =some r→r.node.kind=1
namespace Rd
theorem LJ(id:Nat):∀(l:List Row) (u:Nat),u < l.length→((l.modify u fun x=>{x with node:={x.node with kids:=x.node.kids++[id]}}).flatMap (fun r=>r.node.kids)).Perm (id::l.flatMap (fun r=>r.node.kids))
 |[],u,h=>by simp at h
 |r::l,0,h=>by
   simp only[List.modify_zero_cons,List.flatMap_cons];rw[List.append_assoc];exact(List.perm_middle)
 |r::l,u+1,h=>by
   simp only[List.modify_succ_cons,List.flatMap_cons];have ih:=LJ id l u (by simpa using h);exact(List.Perm.append_left _ ih).trans List.perm_middle
theorem Tv{rows:List Row}(h:Tr rows)(k:Nat)(f:Row→Row)(h1:∀r,(f r).id=r.id)(h2:∀r,(f r).node.kids=r.node.kids)(h3:∀r,(f r).node.kind=r.node.kind):Tr (rows.modify k f):=by
 have hin:∀{i:Nat} {r':Row},(rows.modify k f)[i]? =some r'→∃r,rows[i]? =some r∧r'.id=r.id∧r'.node.kids=r.node.kids∧r'.node.kind=r.node.kind:=by
  intro i r' hr;obtain⟨r,h0,he⟩:=ET hr;refine⟨r,h0, ?_⟩;subst he;split
  ·exact⟨h1 r,h2 r,h3 r⟩
  ·exact⟨rfl,rfl,rfl⟩
 have hfl:∀(l:List Row) (k:Nat),(l.modify k f).flatMap (fun r=>r.node.kids)=l.flatMap (fun r=>r.node.kids):=by
  intro l
  induction l with
  |nil=>intro k;cases k <;>rfl
  |cons r l ih=>
    intro k;cases k with
    |zero=>simp[h2]
    |succ k=>simp[ih]
 refine⟨fun i r hr=> ?_,fun i r hr c hc=> ?_, ?_,fun i r hr c hc r' hr'=> ?_,fun r hr=> ?_⟩
 ·obtain⟨r0,a,b,_,_⟩:=hin hr;rw[b];exact h.rid i r0 a
 ·obtain⟨r0,a,_,b,_⟩:=hin hr;rw[b] at hc;simpa using h.up i r0 a c hc
 ·rw[hfl];simpa using h.perm
 ·obtain⟨r0,a,_,b,d⟩:=hin hr
  obtain⟨r1,a1,_,_,d1⟩:=hin hr';rw[b] at hc;rw[d,d1];exact h.kind i r0 a c hc r1 a1
 ·obtain⟨r0,a,_,_,d⟩:=hin hr;rw[d];exact h.root r0 a
theorem PL(n:Node)(hn:n.kids=[])(hk:n.kind=1):Tr [⟨1,n⟩]:=by
 have hin:∀{i:Nat} {r:Row},([⟨1,n⟩]:List Row)[i]? =some r→i=0∧r=⟨1,n⟩:=by
  intro i r h;cases i with
  |zero=>simp at h;exact⟨rfl,h.symm⟩
  |succ i=>simp at h
 refine⟨fun i r hr=> ?_,fun i r hr c hc=> ?_,by simp[hn],fun i r hr c hc=> ?_,fun r hr=> ?_⟩
 ·obtain⟨rfl,rfl⟩:=hin hr;rfl
 ·obtain⟨rfl,rfl⟩:=hin hr;rw[hn] at hc;simp at hc
 ·obtain⟨rfl,rfl⟩:=hin hr;rw[hn] at hc;simp at hc
 ·obtain⟨_,rfl⟩:=hin hr;exact hk
theorem XF{rows:List Row}(h:Tr rows){u:Nat}{ru:Row}(hu:rows[u]? =some ru)(n:Node)(hn:n.kids=[])(hk:kRel ru.node.kind n.kind):Tr (EY (rows++[⟨rows.length+1,n⟩]) u (rows.length+1)):=by
 have hul:u < rows.length:=(Ai.1 hu).1;have hin:∀{i:Nat} {r':Row},(EY (rows++[⟨rows.length+1,n⟩]) u (rows.length+1))[i]? =some r'→
  (i=rows.length∧r'=⟨rows.length+1,n⟩)∨(∃r,rows[i]? =some r∧r'.id=r.id∧r'.node.kind=r.node.kind∧r'.node.kids=if i=u then r.node.kids++[rows.length+1] else r.node.kids):=by
  intro i r' hr;obtain⟨r,h0,he⟩:=ET hr;by_cases hi:i < rows.length
  ·rw[List.getElem?_append_left hi] at h0
   right;refine⟨r,h0, ?_⟩;subst he;by_cases hiu:u=i
   ·simp[hiu]
   ·simp[hiu,Ne.symm hiu]
  ·left
   rw[List.getElem?_append_right (by omega)] at h0;by_cases e:i-rows.length=0
   ·rw[e] at h0
    simp at h0;rw[if_neg (by omega)] at he;exact⟨by omega,by rw[he,←h0]⟩
   ·rw[List.getElem?_eq_none (by simp;omega)] at h0;cases h0
 have hlen:(EY (rows++[⟨rows.length+1,n⟩]) u (rows.length+1)).length=rows.length+1:=by simp[EY]
 have hkind:∀{i:Nat} {r':Row},(EY (rows++[⟨rows.length+1,n⟩]) u (rows.length+1))[i]? =some r'→i < rows.length→∃r,rows[i]? =some r∧r'.node.kind=r.node.kind:=by
  intro i r' hr hi;rcases hin hr with⟨e,_⟩|⟨r,a,_,b,_⟩
  ·omega
  ·exact⟨r,a,b⟩
 refine⟨fun i r hr=> ?_,fun i r hr c hc=> ?_, ?_,fun i r hr c hc r' hr'=> ?_,fun r hr=> ?_⟩
 ·rcases hin hr with⟨e,rfl⟩|⟨r0,a,b,_,_⟩
  ·show rows.length+1=i+1;omega
  ·rw[b];exact h.rid i r0 a
 ·rw[hlen]
  rcases hin hr with⟨e,rfl⟩|⟨r0,a,_,_,b⟩
  ·rw[hn] at hc;simp at hc
  ·have hi:=(Ai.1 a).1
   rw[b] at hc;by_cases e:i=u
   ·rw[if_pos e] at hc
    rcases List.mem_append.1 hc with hc|hc
    ·have:=h.up i r0 a c hc;omega
    ·simp at hc;omega
   ·rw[if_neg e] at hc
    have:=h.up i r0 a c hc;omega
 ·rw[hlen]
  refine(LJ (rows.length+1) (rows++[⟨rows.length+1,n⟩]) u (by simp;omega)).trans ?_;have e1:(rows++[(⟨rows.length+1,n⟩:Row)]).flatMap (fun r=>r.node.kids)=rows.flatMap (fun r=>r.node.kids):=by simp[hn]
  rw[e1,show rows.length+1-1=(rows.length-1)+1 by omega,List.range'_concat,show 2+1*(rows.length-1)=rows.length+1 by omega];exact(List.Perm.cons _ h.perm).trans (List.perm_append_singleton _ _).symm
 ·rcases hin hr with⟨e,rfl⟩|⟨r0,a,_,d,b⟩
  ·rw[hn] at hc;simp at hc
  ·have hi:=(Ai.1 a).1
   rw[d];rw[b] at hc;have old:c∈r0.node.kids→kRel r0.node.kind r'.node.kind:=by
    intro hc;have:=h.up i r0 a c hc;obtain⟨r1,a1,d1⟩:=hkind hr' (by omega);rw[d1];exact h.kind i r0 a c hc r1 a1
   by_cases e:i=u
   ·rw[if_pos e] at hc
    rcases List.mem_append.1 hc with hc|hc
    ·exact old hc
    ·simp at hc
     subst hc;rcases hin hr' with⟨_,rfl⟩|⟨r1,a1,_⟩
     ·subst e
      rw[hu] at a;injection a with a;rw[←a];exact hk
     ·have:=(Ai.1 a1).1;omega
   ·rw[if_neg e] at hc
    exact old hc
 ·rcases hin hr with⟨e,_⟩|⟨r0,a,_,d,_⟩
  ·omega
  ·rw[d];exact h.root r0 a
structure KS (s s':Rd):Prop where
 kinds:∀(k:Nat) (r:Row),s.rows[k]? =some r→∃r',s'.rows[k]? =some r'∧r'.node.kind=r.node.kind
 tr:Tr s.rows→Tr s'.rows
theorem KS.refl(s:Rd):KS s s:=⟨fun _ r h=>⟨r,h,rfl⟩,id⟩
theorem KS.trans{a b c:Rd}(h:KS a b)(k:KS b c):KS a c:=
 ⟨fun i r hr => by
  obtain⟨r1,h1,h2⟩:=h.kinds i r hr;obtain⟨r2,k1,k2⟩:=k.kinds i r1 h1;exact⟨r2,k1,k2.trans h2⟩,fun x=>k.tr (h.tr x)⟩
theorem Dq{s s':Rd}(h:s'.rows=s.rows):KS s s':=⟨fun k r hr=>⟨r,by rw[h];exact hr,rfl⟩,fun x=>by rw[h];exact x⟩
theorem Kl(s:Rd)(k:Nat)(f:Row→Row)(h1:∀r,(f r).id=r.id)(h2:∀r,(f r).node.kids=r.node.kids)(h3:∀r,(f r).node.kind=r.node.kind):KS s {s with rows:=s.rows.modify k f}:=
 ⟨fun i r hr=>⟨_,Ff hr,by split <;>first|exact h3 r|rfl⟩,fun x=>Tv x k f h1 h2 h3⟩
def At(s:Rd)(u:Nat)(p:Nat→Prop):Prop:=∃r,s.rows[u]? =some r∧p r.node.kind
theorem At.keep{s s':Rd}{u:Nat}{p:Nat→Prop}(h:At s u p)(k:KS s s'):At s' u p:=by
 obtain⟨r,h1,h2⟩:=h;obtain⟨r',k1,k2⟩:=k.kinds u r h1;exact⟨r',k1,by rw[k2];exact h2⟩
theorem At.imp{s:Rd}{u:Nat}{p q:Nat→Prop}(h:At s u p)(k:∀n,p n→q n):At s u q:=by
 obtain⟨r,h1,h2⟩:=h;exact⟨r,h1,k _ h2⟩
theorem EF(s:Rd)(u:Nat)(n:Node)(hn:n.kids=[])(hu:At s u (fun p=>kRel p n.kind)):KS s (s.node u n):=by
 obtain⟨r,h1,h2⟩:=hu;have hul:=(Ai.1 h1).1;have e:(s.node u n).rows=EY (s.rows++[⟨s.rows.length+1,n⟩]) u (s.rows.length+1):=by
  unfold node;dsimp only;rw[if_pos (by omega)]
 refine⟨fun k r' hr=> ?_,fun x=>by rw[e];exact XF x h1 n hn h2⟩;rw[e];refine⟨_,Ff (by rw[List.getElem?_append_left (Ai.1 hr).1];exact hr), ?_⟩
 split <;>rfl
theorem O3(s:Rd)(u:Nat)(n:Node)(hu:u≠s.rows.length):At (s.node u n) s.rows.length (fun k=>k=n.kind):=by
 unfold At node;dsimp only;split
 ·refine⟨_,Ff (r:=⟨s.rows.length+1,n⟩) (by simp), ?_⟩
  split <;>rfl
 ·exact⟨⟨s.rows.length+1,n⟩,by simp,rfl⟩
theorem At.ne{s:Rd}{u:Nat}{p:Nat→Prop}(h:At s u p):u≠s.rows.length:=by
 obtain⟨r,h1,_⟩:=h;have:=(Ai.1 h1).1;omega
theorem D5(s:Rd):KS s s.step:=Dq rfl
theorem Np(s:Rd):KS s s.setBad:=Dq rfl
theorem Bq(s:Rd)(t:Str):KS s (s.need t):=Dq (Dk s t).2.2
theorem FH(s:Rd):KS s s.name:=Dq (CZ s).2.2
theorem Me(s:Rd):KS s s.typed.2:=by unfold typed;split <;>first|exact D5 s|exact Bq s _
theorem Jz(s:Rd)(e:Nat):KS s (s.fault e):=Dq (EU s e).1
theorem Sg(s:Rd)(t:Str):KS s (s.find t).2:=by unfold find;split <;>first|exact KS.refl s|exact Jz s _
theorem Kk(s:Rd)(k t:Nat):KS s (s.DR k t):=Kl s k _ (fun _=>rfl) (fun _=>rfl) (fun _=>rfl)
theorem Ja(s:Rd)(k t:Nat):KS s (s.Ar k t):=Kl s k _ (fun _=>rfl) (fun _=>rfl) (fun _=>rfl)
theorem Nn(s:Rd)(k:Nat)(t:Int):KS s (s.Bv k t):=Kl s k _ (fun _=>rfl) (fun _=>rfl) (fun _=>rfl)
theorem Mf(s:Rd)(t:Str)(k:Nat):KS s (s.declare t k):=Dq (FL s t k).2.2.2.2.2
theorem Di(s:Rd):KS s s.enter:=by unfold enter;dsimp only;split <;>exact Dq rfl
theorem Ep(s:Rd):KS s s.leave:=Dq rfl
theorem Sd(s:Rd):KS s s.shut:=Dq rfl
theorem ge3{s:Rd}{u c:Nat}(hc:4≤c)(h:At s u (fun p=>3≤p)):At s u (fun p=>kRel p c):=h.imp fun _ hp=> .inr (.inr ⟨hp,hc⟩)
theorem new3{s:Rd}{u c:Nat}{n:Node}(h:At s u (fun p=>3≤p))(hc:c=n.kind)(h4:4≤c):At (s.node u n) s.rows.length (fun p=>3≤p):=
 (O3 s u n h.ne).imp fun k hk=>by omega
theorem Su(f:Nat):(∀s u s',expr f s u=some s'→At s u (fun p=>3≤p)→KS s s')∧(∀s u m s',call f s u m=some s'→At s u (fun p=>3≤p)→KS s s')∧(∀b s n s',args f b s n=some s'→At s n (fun p=>3≤p)→KS s s'):=by
 induction f with
 |zero=>exact⟨fun _ _ _ h=>by simp[expr] at h,fun _ _ _ _ h=>by simp[call] at h,fun _ _ _ _ h=>by simp[args] at h⟩
 |succ f ih=>
   obtain⟨ihe,ihc,iha⟩:=ih;refine⟨fun s u s' h hu=> ?_,fun s u m s' h hu=> ?_,fun b s n s' h hu=> ?_⟩
   ·rw[expr] at h
    have hus:=hu.keep (D5 s);have nodeK:∀n:Node,n.kids=[]→4≤n.kind→KS s (s.step.node u n):=fun n hn h4=>(D5 s).trans (EF s.step u n hn (ge3 h4 hus));by_cases h2:s.text 2≠[]
    ·rw[if_pos h2] at h
     injection h with h;subst h;exact nodeK _ rfl (Nat.le_of_ble_eq_true rfl)
    rw[if_neg h2] at h;by_cases h1:s.text 1≠[]
    ·rw[if_pos h1] at h
     dsimp only at h;by_cases hd:s.step.next [46]=true
     ·rw[if_pos hd] at h
      exact(D5 s).trans (ihc _ _ _ _ h hus)
     ·rw[if_neg hd] at h
      injection h with h;subst h;exact((nodeK (nd 15) rfl (by decide)).trans (Sg _ _)).trans (Kk _ _ _)
    rw[if_neg h1] at h;by_cases ht:s.next I7=true
    ·rw[if_pos ht] at h
     injection h with h;subst h;exact nodeK _ rfl (by decide)
    rw[if_neg ht] at h;by_cases hf:s.next F6=true
    ·rw[if_pos hf] at h
     injection h with h;subst h;exact nodeK _ rfl (by decide)
    rw[if_neg hf] at h;by_cases hr:s.next I8=true
    ·rw[if_pos hr] at h
     injection h with h;subst h;exact nodeK _ rfl (by decide)
    rw[if_neg hr] at h;by_cases hn:s.next [33]=true∨s.next [45]=true
    ·rw[if_pos hn] at h
     dsimp only at h;have hkind:(if s.next [33]=true then 16 else 17)=16∨(if s.next [33]=true then 16 else 17)=17:=by split <;>simp
     generalize hk:(if s.next [33]=true then 16 else 17)=kind at h hkind;have K1:=nodeK (nd kind) rfl (by show 4≤kind;omega);have hnew:At (s.step.node u (nd kind)) s.step.rows.length (fun p=>3≤p):=new3 (c:=kind) hus rfl (by omega);by_cases hb:(s.step.node u (nd kind)).enter.bad=true
     ·rw[if_pos hb] at h
      injection h with h;subst h;exact K1.trans ((Di _).trans (Ep _))
     ·rw[if_neg hb] at h
      cases he:expr f (s.step.node u (nd kind)).enter s.rows.length with
      |none=>rw[he] at h;simp at h
      |some s1=>
        rw[he] at h;injection h with h;subst h;exact K1.trans ((Di _).trans ((ihe _ _ _ he (hnew.keep (Di _))).trans (Ep _)))
    rw[if_neg hn] at h;by_cases hp:s.next [40]=true
    ·rw[if_pos hp] at h
     dsimp only at h;have K1:=nodeK (nd 18) rfl (by decide);have hnew:At (s.step.node u (nd 18)) s.step.rows.length (fun p=>3≤p):=new3 (c:=18) hus rfl (by omega);by_cases hb:(s.step.node u (nd 18)).enter.bad=true
     ·rw[if_pos hb] at h
      injection h with h;subst h;exact K1.trans ((Di _).trans (Ep _))
     ·rw[if_neg hb] at h
      cases he:expr f (s.step.node u (nd 18)).enter s.rows.length with
      |none=>rw[he] at h;simp at h
      |some s1=>
        rw[he] at h;dsimp only at h;have E1:=ihe _ _ _ he (hnew.keep (Di _));have e1:KS s1 ((if opOf (s1.text 4)=0 then(s1.Bv s.rows.length (opOf (s1.text 4):Nat)).setBad else s1.Bv s.rows.length (opOf (s1.text 4):Nat)).step):=by
         refine KS.trans ?_ (D5 _);split
         ·exact(Nn _ _ _).trans (Np _)
         ·exact Nn _ _ _
        cases he2:expr f ((if opOf (s1.text 4)=0 then(s1.Bv s.rows.length (opOf (s1.text 4):Nat)).setBad else s1.Bv s.rows.length (opOf (s1.text 4):Nat)).step) s.rows.length with
        |none=>rw[he2] at h;simp at h
        |some s2=>
          rw[he2] at h;injection h with h;subst h;have E2:=ihe _ _ _ he2 ((hnew.keep (Di _)).keep (E1.trans e1));exact K1.trans ((Di _).trans ((E1.trans e1).trans ((E2.trans (Bq _ _)).trans (Ep _))))
    rw[if_neg hp] at h;injection h with h;subst h;exact Np s
   ·rw[call] at h
    try dsimp only at h
    have K1:=EF s u (nd 19) rfl (ge3 (by decide) hu);have hnew:At (s.node u (nd 19)) s.rows.length (fun p=>3≤p):=new3 (c:=19) hu rfl (by omega);have K2:=((Bq (s.node u (nd 19)) [46]).trans (FH _));generalize hbd:({((s.node u (nd 19)).need [46]).name with calls:=((s.node u (nd 19)).need [46]).name.calls++[((s.node u (nd 19)).need [46]).name.idAt s.rows.length],wants:=((s.node u (nd 19)).need [46]).name.wants++[m++[32]++((s.node u (nd 19)).need [46]).text 1]}:Rd)=b at h;have K3:KS ((s.node u (nd 19)).need [46]).name b:=by rw[←hbd];exact Dq rfl
    by_cases hb:b.enter.bad=true
    ·rw[if_pos hb] at h
     injection h with h;subst h;exact K1.trans ((K2.trans K3).trans ((Di _).trans (Ep _)))
    ·rw[if_neg hb] at h
     cases he:args f true (b.enter.need [40]) s.rows.length with
     |none=>rw[he] at h;simp at h
     |some s1=>
       rw[he] at h;injection h with h;subst h;have K4:=(K2.trans K3).trans ((Di b).trans (Bq _ [40]));exact K1.trans (K4.trans ((iha _ _ _ _ he (hnew.keep K4)).trans (Ep _)))
   ·rw[args] at h
    by_cases hb:s.bad=true
    ·rw[if_pos hb] at h
     injection h with h;subst h;exact KS.refl _
    rw[if_neg hb] at h;by_cases hn:s.next [41]=true
    ·rw[if_pos hn] at h
     injection h with h;subst h;exact D5 _
    rw[if_neg hn] at h;have K1:KS s (if b=true then s else s.need [44]):=by split <;>first|exact KS.refl _|exact Bq _ _
    cases he:expr f (if b=true then s else s.need [44]) n with
    |none=>rw[he] at h;simp at h
    |some s1=>
      rw[he] at h;have K2:=K1.trans (ihe _ _ _ he (hu.keep K1));exact K2.trans (iha _ _ _ _ h (hu.keep K2))
theorem XO(f:Nat):(∀s u s',stmt f s u=some s'→At s u (fun p=>3≤p)→KS s s')∧(∀s u s',block f s u=some s'→At s u (fun p=>3≤p)→KS s s')∧(∀s n s',stmts f s n=some s'→At s n (fun p=>3≤p)→KS s s'):=by
 induction f with
 |zero=>exact⟨fun _ _ _ h=>by simp[stmt] at h,fun _ _ _ h=>by simp[block] at h,fun _ _ _ h=>by simp[stmts] at h⟩
 |succ f ih=>
   obtain⟨ihs,ihb,ihl⟩:=ih;have E:=Su f;refine⟨fun s u s' h hu=> ?_,fun s u s' h hu=> ?_,fun s n s' h hu=> ?_⟩
   ·rw[stmt] at h
    try dsimp only at h
    have hus:=hu.keep (D5 s);have nodeK:∀n:Node,n.kids=[]→4≤n.kind→KS s (s.step.node u n)∧At (s.step.node u n) s.rows.length (fun p=>3≤p):=fun n hn h4=>
     ⟨(D5 s).trans (EF s.step u n hn (ge3 h4 hus)),new3 (s:=s.step) (c:=n.kind) hus rfl h4⟩
    by_cases h1:s.next wLet=true
    ·rw[if_pos h1] at h
     have K0:=(D5 s).trans (FH s.step);have hu1:=hu.keep K0;have hl:s.step.name.rows.length=s.rows.length:=by rw[(CZ s.step).2.2];rfl
     have K1:=K0.trans (EF s.step.name u (AP 6 (s.step.text 1)) rfl (ge3 (Nat.le_of_ble_eq_true rfl) hu1));have hnew:At (s.step.name.node u (AP 6 (s.step.text 1))) s.rows.length (fun p=>3≤p):=by rw[←hl];exact new3 (c:=6) hu1 rfl (by omega)
     have K2:=((Me (s.step.name.node u (AP 6 (s.step.text 1)))).trans (Ja _ s.rows.length (s.step.name.node u (AP 6 (s.step.text 1))).typed.1)).trans (Bq _ [61]);generalize((s.step.name.node u (AP 6 (s.step.text 1))).typed.2.Ar s.rows.length (s.step.name.node u (AP 6 (s.step.text 1))).typed.1).need [61]=a at h K2;cases he:expr f a s.rows.length with
     |none=>rw[he] at h;simp at h
     |some b=>
       rw[he] at h;injection h with h;subst h;exact K1.trans (K2.trans ((E.1 _ _ _ he (hnew.keep K2)).trans ((Mf _ _ _).trans (Bq _ _))))
    rw[if_neg h1] at h;by_cases h2:s.next wIf=true
    ·rw[if_pos h2] at h
     obtain⟨K1,hnew⟩:=nodeK (nd 8) rfl (by decide);cases he:expr f (s.step.node u (nd 8)) s.rows.length with
     |none=>rw[he] at h;simp at h
     |some a=>
       rw[he] at h;dsimp only at h;have K2:=E.1 _ _ _ he hnew;cases hb:block f a s.rows.length with
       |none=>rw[hb] at h;simp at h
       |some b=>
         rw[hb] at h;have K3:=ihb _ _ _ hb (hnew.keep K2);have K4:=(K2.trans K3).trans (Bq b Jg);exact K1.trans (K4.trans (ihb _ _ _ h (hnew.keep K4)))
    rw[if_neg h2] at h;by_cases h3:s.next Gh=true
    ·rw[if_pos h3] at h
     obtain⟨K1,hnew⟩:=nodeK (nd 9) rfl (by decide);cases he:expr f (s.step.node u (nd 9)) s.rows.length with
     |none=>rw[he] at h;simp at h
     |some a=>
       rw[he] at h;have K2:=E.1 _ _ _ he hnew;exact K1.trans (K2.trans (ihb _ _ _ h (hnew.keep K2)))
    rw[if_neg h3] at h;by_cases h4:s.next Gi=true
    ·rw[if_pos h4] at h
     obtain⟨K1,hnew⟩:=nodeK (nd 11) rfl (by decide);cases he:expr f (s.step.node u (nd 11)) s.rows.length with
     |none=>rw[he] at h;simp at h
     |some a=>
       rw[he] at h;injection h with h;subst h;exact K1.trans ((E.1 _ _ _ he hnew).trans (Bq _ _))
    rw[if_neg h4] at h;by_cases h5:s.next wDo=true
    ·rw[if_pos h5] at h
     obtain⟨K1,hnew⟩:=nodeK (nd 12) rfl (by decide);generalize(s.step.node u (nd 12))=a at h K1 hnew;cases he:call f a.name s.rows.length (a.text 1) with
     |none=>rw[he] at h;simp at h
     |some b=>
       rw[he] at h;injection h with h;subst h;exact(K1.trans (FH a)).trans ((E.2.1 _ _ _ _ he (hnew.keep (FH a))).trans (Bq _ _))
    rw[if_neg h5] at h;have hu1:=hu.keep (FH s);have hl:s.name.rows.length=s.rows.length:=by rw[(CZ s).2.2]
    have K1:=(FH s).trans (EF s.name u (nd 7) rfl (ge3 (by decide) hu1));have hnew:At (s.name.node u (nd 7)) s.rows.length (fun p=>3≤p):=by rw[←hl];exact new3 (c:=7) hu1 rfl (by omega)
    generalize(s.name.node u (nd 7))=a at h K1 hnew;have K2:=((Sg a (s.text 1)).trans (Kk _ s.rows.length (a.find (s.text 1)).1)).trans (Bq _ [61]);cases he:expr f (((a.find (s.text 1)).2.DR s.rows.length (a.find (s.text 1)).1).need [61]) s.rows.length with
    |none=>rw[he] at h;simp at h
    |some b=>
      rw[he] at h;injection h with h;subst h;exact K1.trans (K2.trans ((E.1 _ _ _ he (hnew.keep K2)).trans (Bq _ _)))
   ·rw[block] at h
    try dsimp only at h
    have K1:=EF s u (nd 5) rfl (ge3 (by decide) hu);have hnew:At (s.node u (nd 5)) s.rows.length (fun p=>3≤p):=new3 (c:=5) hu rfl (by omega);generalize hbd:({(s.node u (nd 5)) with level:=(s.node u (nd 5)).level+1}:Rd)=b at h;have K2:KS (s.node u (nd 5)) b:=by rw[←hbd];exact Dq rfl
    by_cases hb:b.enter.bad=true
    ·rw[if_pos hb] at h
     injection h with h;subst h;exact(K1.trans K2).trans ((Di _).trans ((Ep _).trans (Sd _)))
    ·rw[if_neg hb] at h
     cases he:stmts f (b.enter.need [123]) s.rows.length with
     |none=>rw[he] at h;simp at h
     |some a=>
       rw[he] at h;injection h with h;subst h;have K3:=K2.trans ((Di b).trans (Bq _ [123]));exact K1.trans (K3.trans ((ihl _ _ _ he (hnew.keep K3)).trans ((Ep _).trans (Sd _))))
   ·rw[stmts] at h
    by_cases hb:s.bad=true
    ·rw[if_pos hb] at h
     injection h with h;subst h;exact KS.refl _
    rw[if_neg hb] at h;by_cases hn:s.next [125]=true
    ·rw[if_pos hn] at h
     injection h with h;subst h;exact D5 _
    rw[if_neg hn] at h;cases he:stmt f s n with
    |none=>rw[he] at h;simp at h
    |some a=>
      rw[he] at h;have K1:=ihs _ _ _ he hu;exact K1.trans (ihl _ _ _ h (hu.keep K1))
theorem UR:∀(f:Nat) (b:Bool) (s:Rd) (k:Nat) (s':Rd),params f b s k=some s'→At s k (fun p=>3≤p)→KS s s':=by
 intro f
 induction f with
 |zero=>intro b s k s' h;simp[params] at h
 |succ f ih=>
   intro b s k s' h hu;rw[params] at h;by_cases hb:s.bad=true
   ·rw[if_pos hb] at h;injection h with h;subst h;exact KS.refl _
   rw[if_neg hb] at h;by_cases hn:s.next [41]=true
   ·rw[if_pos hn] at h;injection h with h;subst h;exact D5 _
   rw[if_neg hn] at h;dsimp only at h;have K0:KS s (if b=true then s else s.need [44]):=by split <;>first|exact KS.refl _|exact Bq _ _
   generalize(if b=true then s else s.need [44])=r at h K0;have K1:=K0.trans (FH r);have K2:=K1.trans (EF r.name k (AP 4 (r.text 1)) rfl (ge3 (Nat.le_of_ble_eq_true rfl) (hu.keep K1)));have K3:=K2.trans ((Me _).trans ((Ja _ r.rows.length (r.name.node k (AP 4 (r.text 1))).typed.1).trans (Mf _ (r.text 1) r.rows.length)));exact K3.trans (ih _ _ _ _ h (hu.keep K3))
theorem Xy:∀(f:Nat) (s:Rd) (n:Nat) (s':Rd),body f s n=some s'→At s n (fun p=>3≤p)→KS s s':=by
 intro f
 induction f with
 |zero=>intro s n s' h;simp[body] at h
 |succ f ih=>
   intro s n s' h hu;rw[body] at h;by_cases hb:s.bad=true∨s.next BQ=true
   ·rw[if_pos hb] at h;injection h with h;subst h;exact KS.refl _
   rw[if_neg hb] at h;cases he:stmt f s n with
   |none=>rw[he] at h;simp at h
   |some a=>
     rw[he] at h;have K1:=(XO f).1 _ _ _ he hu;exact K1.trans (ih _ _ _ h (hu.keep K1))
theorem Xr(f:Nat)(s:Rd)(u:Nat)(m:Str)(s':Rd)(h:func f s u m=some s')(hu:At s u (fun p=>p=2)):KS s s':=by
 unfold func at h;dsimp only at h;have K1:=(Bq s C8).trans (FH _);generalize(s.need C8).text 1=t at h;generalize(s.need C8).name=a at h K1;have K2:KS s (if inL a.funcs (m++[32]++t)=true then a.fault 10 else a):=K1.trans (by split <;>first|exact Jz _ _|exact KS.refl _);generalize(if inL a.funcs (m++[32]++t)=true then a.fault 10 else a)=b at h K2;change (match params f true (((b.node u (AP 3 t)).Fe (m++[32]++t) b.rows.length).need [40]) b.rows.length with
  |none=>none
  |some r=>_)=some s' at h
 have hub:=hu.keep K2;have K3:=K2.trans (EF b u (AP 3 t) rfl (hub.imp fun _ hp=> .inr (.inl ⟨hp,rfl⟩)));have hnew:At (b.node u (AP 3 t)) b.rows.length (fun p=>3≤p):=(O3 b u (AP 3 t) hub.ne).imp fun k hk=>by rw[hk];exact Nat.le_refl 3
 have K4:KS (b.node u (AP 3 t)) ((b.node u (AP 3 t)).Fe (m++[32]++t) b.rows.length):=Dq rfl;have hnew4:=hnew.keep K4;have K5:=K3.trans K4;generalize(b.node u (AP 3 t)).Fe (m++[32]++t) b.rows.length=c at h K5 hnew4;cases hp:params f true (c.need [40]) b.rows.length with
 |none=>rw[hp] at h;simp at h
 |some p=>
   rw[hp] at h;dsimp only at h;have K6:=(Bq c [40]).trans (UR _ _ _ _ _ hp (hnew4.keep (Bq c [40])));have K7:=K6.trans ((Me p).trans (Ja _ b.rows.length p.typed.1));have hn7:=hnew4.keep K7;have K8:=K7.trans (EF _ b.rows.length (nd 5) rfl (ge3 (by decide) hn7));have hb8:At ((p.typed.2.Ar b.rows.length p.typed.1).node b.rows.length (nd 5)) (p.typed.2.Ar b.rows.length p.typed.1).rows.length (fun p=>3≤p):=new3 (c:=5) hn7 rfl (by omega);have K9:=K8.trans (Bq _ [123]);have hb9:=hb8.keep (Bq _ [123]);generalize((p.typed.2.Ar b.rows.length p.typed.1).node b.rows.length (nd 5)).need [123]=q at h K9 hb9;cases hq:body f q (p.typed.2.Ar b.rows.length p.typed.1).rows.length with
   |none=>rw[hq] at h;simp at h
   |some v=>
     rw[hq] at h;dsimp only at h;have K10:=Xy _ _ _ _ hq hb9;have K11:=K10.trans (Bq v BQ);have hb11:=hb9.keep K11;have K12:=K11.trans (EF _ _ (nd 10) rfl (ge3 (by decide) hb11));have hn12:At ((v.need BQ).node (p.typed.2.Ar b.rows.length p.typed.1).rows.length (nd 10)) (v.need BQ).rows.length (fun p=>3≤p):=new3 (c:=10) hb11 rfl (by omega);cases hx:expr f ((v.need BQ).node (p.typed.2.Ar b.rows.length p.typed.1).rows.length (nd 10)) (v.need BQ).rows.length with
     |none=>rw[hx] at h;simp at h
     |some x=>
       rw[hx] at h;injection h with h;subst h;exact K5.trans (K9.trans (K12.trans (((Su f).1 _ _ _ hx hn12).trans ((Bq _ _).trans (Bq _ _)))))
theorem Ou(f:Nat):∀(g:Nat) (s:Rd) (m:Nat) (t:Str) (s':Rd),BX f g s m t=some s'→At s m (fun p=>p=2)→KS s s':=by
 intro g
 induction g with
 |zero=>intro s m t s' h;simp[BX] at h
 |succ g ih=>
   intro s m t s' h hu;rw[BX] at h;by_cases hb:s.bad=true
   ·rw[if_pos hb] at h;injection h with h;subst h;exact KS.refl _
   rw[if_neg hb] at h;by_cases hn:s.next [125]=true
   ·rw[if_pos hn] at h;injection h with h;subst h;exact D5 _
   rw[if_neg hn] at h;cases he:func f s m t with
   |none=>rw[he] at h;simp at h
   |some a=>
     rw[he] at h;have K1:=Xr _ _ _ _ _ he hu;exact K1.trans (ih _ _ _ _ h (hu.keep K1))
theorem QF(f:Nat):∀(g:Nat) (s:Rd) (root:Nat) (s':Rd),Bo f g s root=some s'→At s root (fun p=>p=1)→KS s s':=by
 intro g
 induction g with
 |zero=>intro s r s' h;simp[Bo] at h
 |succ g ih=>
   intro s root s' h hu;rw[Bo] at h;by_cases hb:s.bad=true∨s.L.length≤s.at_
   ·rw[if_pos hb] at h;injection h with h;subst h;exact KS.refl _
   rw[if_neg hb] at h;dsimp only at h;have K1:=(Bq s Cb).trans (FH _);generalize(s.need Cb).text 1=t at h;generalize(s.need Cb).name=a at h K1;have K2:KS s (if inL a.mods t=true then a.fault 10 else a):=K1.trans (by split <;>first|exact Jz _ _|exact KS.refl _);generalize(if inL a.mods t=true then a.fault 10 else a)=b at h K2;have hl:b.rows.length=b.rows.length:=rfl;generalize hc:({b with mods:=b.mods++[t]}:Rd)=c at h;have hcr:c.rows=b.rows:=by rw[←hc]
   have K3:=K2.trans (Dq hcr);have huc:=hu.keep K3;have K4:=K3.trans (EF c root (AP 2 t) rfl (huc.imp fun _ hp=> .inl ⟨hp,rfl⟩));have hnew:At (c.node root (AP 2 t)) b.rows.length (fun p=>p=2):=by rw[←hcr];exact O3 c root (AP 2 t) huc.ne
   have K5:=Bq (c.node root (AP 2 t)) [123];cases he:BX f f ((c.node root (AP 2 t)).need [123]) b.rows.length t with
   |none=>rw[he] at h;simp at h
   |some d=>
     rw[he] at h;have K6:=K4.trans (K5.trans (Ou _ _ _ _ _ _ he (hnew.keep K5)));exact K6.trans (ih _ _ _ h (hu.keep K6))
theorem Xf:∀(is:List Nat) (ws:List Str) (s:Rd),KS s (link is ws s):=by
 intro is
 induction is with
 |nil=>intro ws s;cases ws <;>exact KS.refl _
 |cons i is ih=>
   intro ws s;cases ws with
   |nil=>exact KS.refl _
   |cons t ws=>
     rw[link];refine KS.trans ?_ (ih ws _);refine KS.trans ?_ (Kk _ _ _)
     split <;>first|exact Jz _ _|exact KS.refl _
theorem Q9(f:Nat)(l:List Tok)(s':Rd)(h:program f (BP l)=some s'):Tr s'.rows:=by
 unfold program at h;dsimp only at h;have hr:((BP l).node 0 (nd 1)).rows=[⟨1,nd 1⟩]:=rfl;have hat:At ((BP l).node 0 (nd 1)) (BP l).rows.length (fun p=>p=1):=⟨⟨1,nd 1⟩,by rw[hr];rfl,rfl⟩;cases e:Bo f f ((BP l).node 0 (nd 1)) (BP l).rows.length with
 |none=>rw[e] at h;simp at h
 |some a=>
   rw[e] at h;injection h with h;subst h;have K:=QF _ _ _ _ _ e hat;exact(Xf _ _ _).tr (K.tr (by rw[hr];exact PL _ rfl rfl))
end Rd
theorem YD{s:Str}{c:UInt8}{r:Str}(hs:s=c::r)(p:UInt8→Bool)(h:p c=true):1≤(s.takeWhile p).length:=by
 subst hs;rw[List.takeWhile_cons,if_pos h];simp
theorem Yj(s:Str)(p:UInt8→Bool):(s.takeWhile p).length≤s.length:=(List.takeWhile_sublist p).length_le
theorem Gq(M:Nat):∀(f i:Nat) (s:Str) (acc l:List Tok),BB f i s acc=some l→s.length≤M→(∀t∈acc,t.text.length≤M)→l.length≤acc.length+s.length∧∀t∈l,t.text.length≤M
 |0,i,s,acc,l,h,hM,ha=>by
   rw[BB] at h;injection h with h;subst h;exact⟨by omega,ha⟩
 |f+1,i,[],acc,l,h,hM,ha=>by
   rw[BB] at h;injection h with h;subst h;exact⟨by omega,ha⟩
 |f+1,i,c::r,acc,l,h,hM,ha=>by
   rw[BB] at h;simp only[List.length_cons] at hM;by_cases h3:cls c=3
   ·rw[if_pos h3] at h
    obtain⟨h1,h2⟩:=Gq M f _ r acc l h (by omega) ha;exact⟨by simp;omega,h2⟩
   rw[if_neg h3] at h;by_cases h35:c.toNat=35
   ·rw[if_pos h35] at h
    dsimp only at h;obtain⟨h1,h2⟩:=Gq M f _ _ acc l h (by simp;omega) ha;exact⟨by simp only[List.length_drop] at h1;simp only[List.length_cons] at*;omega,h2⟩
   rw[if_neg h35] at h;have hadd:∀(w:Str) (k:Nat) (tk:Tok),1≤w.length→w.length≤r.length+1→tk.text=w→BB f k ((c::r).drop w.length) (acc++[tk])=some l→l.length≤acc.length+(c::r).length∧∀t∈l,t.text.length≤M:=by
    intro w k tk hw1 hw2 ht h;obtain⟨h1,h2⟩:=Gq M f _ _ _ l h (by simp;omega) (fun t ht'=>by
     rcases List.mem_append.1 ht' with h'|h'
     ·exact ha t h'
     ·simp at h';subst h';rw[ht];omega)
    refine⟨?_,h2⟩;simp only[List.length_append,List.length_drop,List.length_cons,List.length_nil] at h1⊢;omega
   by_cases h0:0 < cls c
   ·rw[if_pos h0] at h
    dsimp only at h;have hp:Bb c=true:=by
     have h4:cls c≤3:=by
      unfold cls;repeat' split
      all_goals omega
     unfold Bb;have:cls c=1∨cls c=2:=by omega
     rcases this with e|e <;>simp[e]
    have hw1:=YD rfl Bb hp (r:=r);have hw2:=Yj (c::r) Bb;simp only[List.length_cons] at hw2;generalize List.takeWhile Bb (c::r)=w at h hw1 hw2;by_cases a1:inL words w=true
    ·rw[if_pos a1] at h;exact hadd w _ _ hw1 hw2 rfl h
    rw[if_neg a1] at h;by_cases a2:Cj w=true
    ·rw[if_pos a2] at h;exact hadd w _ _ hw1 hw2 rfl h
    rw[if_neg a2] at h;by_cases a3:0≤CL w
    ·rw[if_pos a3] at h;exact hadd w _ _ hw1 hw2 rfl h
    rw[if_neg a3] at h;cases h
   ·rw[if_neg h0] at h
    dsimp only at h;have hw:∀w,w=(if inL signs ((c::r).take 2)=true∧2≤(c::r).length then(c::r).take 2 else(c::r).take 1)→1≤w.length∧w.length≤r.length+1:=by
     intro w hw;subst hw;split
     ·simp;omega
     ·simp
    generalize(if inL signs ((c::r).take 2)=true∧2≤(c::r).length then(c::r).take 2 else(c::r).take 1)=w at h hw;obtain⟨hw1,hw2⟩:=hw _ rfl;by_cases a1:inL signs w=true
    ·rw[if_pos a1] at h;exact hadd w _ _ hw1 hw2 rfl h
    ·rw[if_neg a1] at h;cases h
theorem Kb{s:Str}{l:List Tok}(h:Dt s=some l):l.length≤s.length∧∀t∈l,t.text.length≤s.length:=by
 have:=Gq s.length s.length 0 s [] l h AA (fun t ht=>by simp at ht);simpa using this
def Df(s:Str):List Row×Nat:=(Oc (3*s.length+10) s).getD ([],0)
theorem JS{s:Str}(h:Dt s=none):Df s=([],20):=by unfold Df Oc;rw[h];rfl
theorem JR{s:Str}{l:List Tok}(h:Dt s=some l):∃r,Rd.program (3*s.length+10) (Rd.BP l)=some r∧r.rows.length≤3*s.length+4∧r.at_≤2*s.length+2∧Tr r.rows∧
 Df s=if r.bad=true then([],20) else if 20000 < r.rows.length then([],5) else if r.names≠0 then([],r.names) else(r.rows,0):=by
 obtain⟨h1,_⟩:=Kb h;obtain⟨r,hr,h2,h3⟩:=Rd.Od (3*s.length+10) l (by omega);refine⟨r,hr,by omega,by omega,Rd.Q9 _ _ _ hr, ?_⟩;unfold Df Oc;rw[h];dsimp only;rw[hr];dsimp only
 repeat' split
 all_goals rfl
theorem Vn(s:Str):((Df s).1=[]∨Tr (Df s).1)∧(Df s).1.length≤20000:=by
 cases h:Dt s with
 |none=>rw[JS h];exact⟨.inl rfl,by simp⟩
 |some l=>
   obtain⟨r,_,_,_,ht,e⟩:=JR h;rw[e];split
   ·exact⟨.inl rfl,by simp⟩
   ·split
    ·exact⟨.inl rfl,by simp⟩
    ·split
     ·exact⟨.inl rfl,by simp⟩
     ·exact⟨.inr ht,by simp;omega⟩
def sc1(l:List Row)(r:Row):Bool:=decide (r.node.kind < 1∨20 < r.node.kind∨decide (r.node.kind=1)≠decide (r.id=1)∨fits r.node.kind (classes l r.node.kids) (decide (kindOf l (parentOf l r.id).1=3))=false)
def sc2(r:Row):Bool:=decide (isNamed r.node.kind≠(r.node.name !=[])∨isNamed r.node.kind=true∧(Cj r.node.name=false∨inL words r.node.name=true))
def DN(k:Nat):Bool:=isNamed k && decide (k≠2)
def sc3(r:Row):Bool:=decide (DN r.node.kind≠(decide (r.node.type=1)||decide (r.node.type=2))∨DN r.node.kind=false∧r.node.type≠0)
def sc4(l:List Row)(r:Row):Bool:=
 if r.node.kind=7∨r.node.kind=15 then decide (kindOf l r.node.ref≠4∧kindOf l r.node.ref≠6)
 else if r.node.kind=19 then decide (kindOf l r.node.ref≠3) else decide (r.node.ref≠0)
def JH(k:Nat):Int:=if k=18 then 1 else 0
def GG(k:Nat):Int:=if k=13 then 9223372036854775807 else if k=14 then 1 else if k=18 then 13 else 0
def sc5(r:Row):Bool:=decide (r.node.num < JH r.node.kind∨GG r.node.kind < r.node.num)
theorem SY(k:Nat):(k=13→JH k=0∧GG k=9223372036854775807)∧(k=14→JH k=0∧GG k=1)∧(k=18→JH k=1∧GG k=13)∧(k≠13∧k≠14∧k≠18→JH k=0∧GG k=0):=by
 unfold JH GG;refine⟨fun h=> ?_,fun h=> ?_,fun h=> ?_,fun h=> ?_⟩
 ·subst h;exact⟨rfl,rfl⟩
 ·subst h;exact⟨rfl,rfl⟩
 ·subst h;exact⟨rfl,rfl⟩
 ·rw[if_neg h.2.2,if_neg h.1,if_neg h.2.1,if_neg h.2.2];exact⟨rfl,rfl⟩
theorem OZ(l:List Row)(r:Row)(hn:r.node.num≤9223372036854775807):Ce l r=(!sc1 l r && !sc2 r && !sc3 r && !sc4 l r && !sc5 r):=by
 unfold Ce;dsimp only;rw[show(isNamed r.node.kind && decide (r.node.kind≠2))=DN r.node.kind from rfl];by_cases h1:sc1 l r=true
 ·rw[if_pos (of_decide_eq_true h1)];simp[h1]
 rw[if_neg (fun h=>h1 (decide_eq_true h))];have e1:sc1 l r=false:=by simpa using h1
 by_cases h2:sc2 r=true
 ·rw[if_pos (of_decide_eq_true h2)];simp[h2]
 rw[if_neg (fun h=>h2 (decide_eq_true h))];have e2:sc2 r=false:=by simpa using h2
 by_cases h3:sc3 r=true
 ·rw[if_pos (of_decide_eq_true h3)];simp[h3]
 rw[if_neg (fun h=>h3 (decide_eq_true h))];have e3:sc3 r=false:=by simpa using h3
 rw[e1,e2,e3];simp only[Bool.not_false,Bool.true_and];obtain⟨l13,l14,l18,lo⟩:=SY r.node.kind;unfold sc4 sc5;by_cases k7:r.node.kind=7∨r.node.kind=15
 ·obtain⟨a1,a2⟩:=lo (by omega)
  rw[if_pos k7,if_pos k7,a1,a2];by_cases hk:kindOf l r.node.ref≠4∧kindOf l r.node.ref≠6
  ·rw[if_pos hk,decide_eq_true hk];rfl
  ·rw[if_neg hk,decide_eq_false hk]
   rw[Bool.eq_iff_iff];simp;omega
 rw[if_neg k7,if_neg k7];by_cases k19:r.node.kind=19
 ·obtain⟨a1,a2⟩:=lo (by omega)
  rw[if_pos k19,if_pos k19,a1,a2];by_cases hk:kindOf l r.node.ref≠3
  ·rw[if_pos hk,decide_eq_true hk];rfl
  ·rw[if_neg hk,decide_eq_false hk]
   rw[Bool.eq_iff_iff];simp;omega
 rw[if_neg k19,if_neg k19];by_cases hr:r.node.ref≠0
 ·rw[if_pos hr,decide_eq_true hr];rfl
 rw[if_neg hr,decide_eq_false hr];by_cases k13:r.node.kind=13
 ·obtain⟨a1,a2⟩:=l13 k13
  rw[if_pos k13,a1,a2];rw[Bool.eq_iff_iff];simp;omega
 rw[if_neg k13];by_cases k14:r.node.kind=14
 ·obtain⟨a1,a2⟩:=l14 k14
  rw[if_pos k14,a1,a2];rw[Bool.eq_iff_iff];simp
 rw[if_neg k14];by_cases k18:r.node.kind=18
 ·obtain⟨a1,a2⟩:=l18 k18
  rw[if_pos k18,a1,a2];rw[Bool.eq_iff_iff];simp <;>omega
 rw[if_neg k18];obtain⟨a1,a2⟩:=lo ⟨k13,k14,k18⟩;rw[a1,a2];rw[Bool.eq_iff_iff];simp;omega
def Nk(M:Nat)(n:Node):Prop:=n.kind≤20∧n.num≤9223372036854775807∧n.name.length≤M
theorem Pj(s:Str):CL s≤9223372036854775807:=by
 unfold CL;split
 ·decide
 ·split
  ·decide
  ·split
   ·split
    ·decide
    ·omega
   ·decide
namespace Rd
theorem XZ(t:Str):opOf t≤13:=by
 unfold opOf;split
 ·rename_i i h
  obtain⟨h1,_⟩:=List.findIdx?_eq_some_iff_getElem.1 h;have:ops.length=13:=rfl;omega
 ·omega
def NBs(s:Rd):Prop:=∀M,(∀t∈s.L,t.text.length≤M)→∀r∈s.rows,Nk M r.node
def NdOk(s:Rd)(n:Node):Prop:=∀M,(∀t∈s.L,t.text.length≤M)→Nk M n
theorem XH(s:Rd)(k M:Nat)(h:∀t∈s.L,t.text.length≤M):(s.text k).length≤M:=by
 unfold text;split
 ·simp
 ·split
  ·rename_i t ht
   split
   ·exact h t (List.mem_of_getElem? ht)
   ·simp
  ·simp
theorem E9{s:Rd}{k:Nat}(h:k≤20):NdOk s (nd k):=fun M _=>⟨h,by show(0:Int)≤_;decide,Nat.zero_le _⟩
theorem Kc{s:Rd}{k:Nat}{v:Int}(h:k≤20)(hv:v≤9223372036854775807):NdOk s (LC k v):=fun M _=>⟨h,hv,Nat.zero_le _⟩
theorem Jv{s a:Rd}{k i:Nat}(hL:s.L=a.L)(h:k≤20):NdOk s (AP k (a.text i)):=fun M hM=>⟨h,by show(0:Int)≤_;decide,by
 show(a.text i).length≤M;exact XH a i M (by rw[←hL];exact hM)⟩
structure NS (s s':Rd):Prop where
 L:s'.L=s.L
 nb:NBs s→NBs s'
theorem NS.refl(s:Rd):NS s s:=⟨rfl,id⟩
theorem NS.trans{a b c:Rd}(h:NS a b)(k:NS b c):NS a c:=⟨k.L.trans h.L,fun x=>k.nb (h.nb x)⟩
theorem Dp{s s':Rd}(hL:s'.L=s.L)(h:s'.rows=s.rows):NS s s':=⟨hL,fun x M hM r hr=>x M (by rw[←hL];exact hM) r (by rw[←h];exact hr)⟩
theorem Ip(s:Rd)(k:Nat)(f:Row→Row)(h1:∀r,(f r).node.kind=r.node.kind)(h2:∀r,(f r).node.name=r.node.name)(h3:∀r,r.node.num≤9223372036854775807→(f r).node.num≤9223372036854775807):NS s {s with rows:=s.rows.modify k f}:=
 ⟨rfl, fun x M hM r' hr => by
  obtain⟨i,hi⟩:=List.mem_iff_getElem?.1 hr;obtain⟨r,h0,he⟩:=ET hi;have hx:=x M hM r (List.mem_of_getElem? h0);subst he;split
  ·exact⟨by rw[h1];exact hx.1,h3 r hx.2.1,by rw[h2];exact hx.2.2⟩
  ·exact hx⟩
theorem Dz(s:Rd)(u:Nat)(n:Node)(hn:NdOk s n):NS s (s.node u n):=by
 have hp:NS s {s with rows:=s.rows++[⟨s.rows.length+1,n⟩]}:=⟨rfl,fun x M hM r hr=>by
  rcases List.mem_append.1 hr with hr|hr
  ·exact x M hM r hr
  ·simp at hr;subst hr;exact hn M hM⟩
 unfold node;dsimp only;split
 ·exact hp.trans (Ip _ u (fun x=>{x with node:={x.node with kids:=x.node.kids++[s.rows.length+1]}}) (fun _=>rfl) (fun _=>rfl) (fun _ h=>h))
 ·exact hp
theorem Ee(s:Rd):NS s s.step:=Dp rfl rfl
theorem Nc(s:Rd):NS s s.setBad:=Dp rfl rfl
theorem CG(s:Rd)(t:Str):NS s (s.need t):=Dp (CV s t).L (Dk s t).2.2
theorem Gs(s:Rd):NS s s.name:=Dp (Iw s).L (CZ s).2.2
theorem MO(s:Rd):NS s s.typed.2:=by unfold typed;split <;>first|exact Ee s|exact CG s _
theorem Ju(s:Rd)(e:Nat):NS s (s.fault e):=Dp (Mm s e).L (EU s e).1
theorem SQ(s:Rd)(t:Str):NS s (s.find t).2:=by unfold find;split <;>first|exact NS.refl s|exact Ju s _
theorem Ke(s:Rd)(k t:Nat):NS s (s.DR k t):=Ip s k _ (fun _=>rfl) (fun _=>rfl) (fun _ h=>h)
theorem JU(s:Rd)(k t:Nat):NS s (s.Ar k t):=Ip s k _ (fun _=>rfl) (fun _=>rfl) (fun _ h=>h)
theorem Nb(s:Rd)(k:Nat)(t:Str):NS s (s.Bv k (opOf t:Nat)):=Ip s k _ (fun _=>rfl) (fun _=>rfl) (fun _ h=>by have:=XZ t;show((opOf t:Nat):Int)≤_;omega)
theorem MP(s:Rd)(t:Str)(k:Nat):NS s (s.declare t k):=Dp (FK s t k).L (FL s t k).2.2.2.2.2
theorem Eo(s:Rd):NS s s.enter:=by unfold enter;dsimp only;split <;>exact Dp rfl rfl
theorem Em(s:Rd):NS s s.leave:=Dp rfl rfl
theorem SN(s:Rd):NS s s.shut:=Dp rfl rfl
theorem Sr(f:Nat):(∀s u s',expr f s u=some s'→NS s s')∧(∀s u m s',call f s u m=some s'→NS s s')∧(∀b s n s',args f b s n=some s'→NS s s'):=by
 induction f with
 |zero=>exact⟨fun _ _ _ h=>by simp[expr] at h,fun _ _ _ _ h=>by simp[call] at h,fun _ _ _ _ h=>by simp[args] at h⟩
 |succ f ih=>
   obtain⟨ihe,ihc,iha⟩:=ih;refine⟨fun s u s' h=> ?_,fun s u m s' h=> ?_,fun b s n s' h=> ?_⟩
   ·rw[expr] at h
    have nodeK:∀n:Node,NdOk s.step n→NS s (s.step.node u n):=fun n hn=>(Ee s).trans (Dz s.step u n hn);by_cases h2:s.text 2≠[]
    ·rw[if_pos h2] at h
     injection h with h;subst h;exact nodeK _ (Kc (by decide) (Pj _))
    rw[if_neg h2] at h;by_cases h1:s.text 1≠[]
    ·rw[if_pos h1] at h
     dsimp only at h;by_cases hd:s.step.next [46]=true
     ·rw[if_pos hd] at h
      exact(Ee s).trans (ihc _ _ _ _ h)
     ·rw[if_neg hd] at h
      injection h with h;subst h;exact((nodeK (nd 15) (by first|exact E9 (by decide)|exact Kc (by decide) (by decide))).trans (SQ _ _)).trans (Ke _ _ _)
    rw[if_neg h1] at h;by_cases ht:s.next I7=true
    ·rw[if_pos ht] at h
     injection h with h;subst h;exact nodeK _ (by first|exact E9 (by decide)|exact Kc (by decide) (by decide))
    rw[if_neg ht] at h;by_cases hf:s.next F6=true
    ·rw[if_pos hf] at h
     injection h with h;subst h;exact nodeK _ (by first|exact E9 (by decide)|exact Kc (by decide) (by decide))
    rw[if_neg hf] at h;by_cases hr:s.next I8=true
    ·rw[if_pos hr] at h
     injection h with h;subst h;exact nodeK _ (by first|exact E9 (by decide)|exact Kc (by decide) (by decide))
    rw[if_neg hr] at h;by_cases hn:s.next [33]=true∨s.next [45]=true
    ·rw[if_pos hn] at h
     dsimp only at h;have hkind:(if s.next [33]=true then 16 else 17)=16∨(if s.next [33]=true then 16 else 17)=17:=by split <;>simp
     generalize hk:(if s.next [33]=true then 16 else 17)=kind at h hkind;have K1:=nodeK (nd kind) (E9 (by omega));by_cases hb:(s.step.node u (nd kind)).enter.bad=true
     ·rw[if_pos hb] at h
      injection h with h;subst h;exact K1.trans ((Eo _).trans (Em _))
     ·rw[if_neg hb] at h
      cases he:expr f (s.step.node u (nd kind)).enter s.rows.length with
      |none=>rw[he] at h;simp at h
      |some s1=>
        rw[he] at h;injection h with h;subst h;exact K1.trans ((Eo _).trans ((ihe _ _ _ he).trans (Em _)))
    rw[if_neg hn] at h;by_cases hp:s.next [40]=true
    ·rw[if_pos hp] at h
     dsimp only at h;have K1:=nodeK (nd 18) (by first|exact E9 (by decide)|exact Kc (by decide) (by decide));by_cases hb:(s.step.node u (nd 18)).enter.bad=true
     ·rw[if_pos hb] at h
      injection h with h;subst h;exact K1.trans ((Eo _).trans (Em _))
     ·rw[if_neg hb] at h
      cases he:expr f (s.step.node u (nd 18)).enter s.rows.length with
      |none=>rw[he] at h;simp at h
      |some s1=>
        rw[he] at h;dsimp only at h;have E1:=ihe _ _ _ he;have e1:NS s1 ((if opOf (s1.text 4)=0 then(s1.Bv s.rows.length (opOf (s1.text 4):Nat)).setBad else s1.Bv s.rows.length (opOf (s1.text 4):Nat)).step):=by
         refine NS.trans ?_ (Ee _);split
         ·exact(Nb _ _ _).trans (Nc _)
         ·exact Nb _ _ _
        cases he2:expr f ((if opOf (s1.text 4)=0 then(s1.Bv s.rows.length (opOf (s1.text 4):Nat)).setBad else s1.Bv s.rows.length (opOf (s1.text 4):Nat)).step) s.rows.length with
        |none=>rw[he2] at h;simp at h
        |some s2=>
          rw[he2] at h;injection h with h;subst h;have E2:=ihe _ _ _ he2;exact K1.trans ((Eo _).trans ((E1.trans e1).trans ((E2.trans (CG _ _)).trans (Em _))))
    rw[if_neg hp] at h;injection h with h;subst h;exact Nc s
   ·rw[call] at h
    try dsimp only at h
    have K1:=Dz s u (nd 19) (E9 (by decide));have K2:=((CG (s.node u (nd 19)) [46]).trans (Gs _));generalize hbd:({((s.node u (nd 19)).need [46]).name with calls:=((s.node u (nd 19)).need [46]).name.calls++[((s.node u (nd 19)).need [46]).name.idAt s.rows.length],wants:=((s.node u (nd 19)).need [46]).name.wants++[m++[32]++((s.node u (nd 19)).need [46]).text 1]}:Rd)=b at h;have K3:NS ((s.node u (nd 19)).need [46]).name b:=by rw[←hbd];exact Dp rfl rfl
    by_cases hb:b.enter.bad=true
    ·rw[if_pos hb] at h
     injection h with h;subst h;exact K1.trans ((K2.trans K3).trans ((Eo _).trans (Em _)))
    ·rw[if_neg hb] at h
     cases he:args f true (b.enter.need [40]) s.rows.length with
     |none=>rw[he] at h;simp at h
     |some s1=>
       rw[he] at h;injection h with h;subst h;have K4:=(K2.trans K3).trans ((Eo b).trans (CG _ [40]));exact K1.trans (K4.trans ((iha _ _ _ _ he).trans (Em _)))
   ·rw[args] at h
    by_cases hb:s.bad=true
    ·rw[if_pos hb] at h
     injection h with h;subst h;exact NS.refl _
    rw[if_neg hb] at h;by_cases hn:s.next [41]=true
    ·rw[if_pos hn] at h
     injection h with h;subst h;exact Ee _
    rw[if_neg hn] at h;have K1:NS s (if b=true then s else s.need [44]):=by split <;>first|exact NS.refl _|exact CG _ _
    cases he:expr f (if b=true then s else s.need [44]) n with
    |none=>rw[he] at h;simp at h
    |some s1=>
      rw[he] at h;have K2:=K1.trans (ihe _ _ _ he);exact K2.trans (iha _ _ _ _ h)
theorem XN(f:Nat):(∀s u s',stmt f s u=some s'→NS s s')∧(∀s u s',block f s u=some s'→NS s s')∧(∀s n s',stmts f s n=some s'→NS s s'):=by
 induction f with
 |zero=>exact⟨fun _ _ _ h=>by simp[stmt] at h,fun _ _ _ h=>by simp[block] at h,fun _ _ _ h=>by simp[stmts] at h⟩
 |succ f ih=>
   obtain⟨ihs,ihb,ihl⟩:=ih;have E:=Sr f;refine⟨fun s u s' h=> ?_,fun s u s' h=> ?_,fun s n s' h=> ?_⟩
   ·rw[stmt] at h
    try dsimp only at h
    have nodeK:∀n:Node,NdOk s.step n→NS s (s.step.node u n):=fun n hn=>(Ee s).trans (Dz s.step u n hn);by_cases h1:s.next wLet=true
    ·rw[if_pos h1] at h
     have K0:=(Ee s).trans (Gs s.step);have K1:=K0.trans (Dz s.step.name u (AP 6 (s.step.text 1)) (Jv (Iw s.step).L (by decide)));have K2:=((MO (s.step.name.node u (AP 6 (s.step.text 1)))).trans (JU _ s.rows.length (s.step.name.node u (AP 6 (s.step.text 1))).typed.1)).trans (CG _ [61]);generalize((s.step.name.node u (AP 6 (s.step.text 1))).typed.2.Ar s.rows.length (s.step.name.node u (AP 6 (s.step.text 1))).typed.1).need [61]=a at h K2;cases he:expr f a s.rows.length with
     |none=>rw[he] at h;simp at h
     |some b=>
       rw[he] at h;injection h with h;subst h;exact K1.trans (K2.trans ((E.1 _ _ _ he).trans ((MP _ _ _).trans (CG _ _))))
    rw[if_neg h1] at h;by_cases h2:s.next wIf=true
    ·rw[if_pos h2] at h
     have K1:=nodeK (nd 8) (E9 (by decide));cases he:expr f (s.step.node u (nd 8)) s.rows.length with
     |none=>rw[he] at h;simp at h
     |some a=>
       rw[he] at h;dsimp only at h;have K2:=E.1 _ _ _ he;cases hb:block f a s.rows.length with
       |none=>rw[hb] at h;simp at h
       |some b=>
         rw[hb] at h;have K3:=ihb _ _ _ hb;have K4:=(K2.trans K3).trans (CG b Jg);exact K1.trans (K4.trans (ihb _ _ _ h))
    rw[if_neg h2] at h;by_cases h3:s.next Gh=true
    ·rw[if_pos h3] at h
     have K1:=nodeK (nd 9) (E9 (by decide));cases he:expr f (s.step.node u (nd 9)) s.rows.length with
     |none=>rw[he] at h;simp at h
     |some a=>
       rw[he] at h;have K2:=E.1 _ _ _ he;exact K1.trans (K2.trans (ihb _ _ _ h))
    rw[if_neg h3] at h;by_cases h4:s.next Gi=true
    ·rw[if_pos h4] at h
     have K1:=nodeK (nd 11) (E9 (by decide));cases he:expr f (s.step.node u (nd 11)) s.rows.length with
     |none=>rw[he] at h;simp at h
     |some a=>
       rw[he] at h;injection h with h;subst h;exact K1.trans ((E.1 _ _ _ he).trans (CG _ _))
    rw[if_neg h4] at h;by_cases h5:s.next wDo=true
    ·rw[if_pos h5] at h
     have K1:=nodeK (nd 12) (E9 (by decide));generalize(s.step.node u (nd 12))=a at h K1;cases he:call f a.name s.rows.length (a.text 1) with
     |none=>rw[he] at h;simp at h
     |some b=>
       rw[he] at h;injection h with h;subst h;exact(K1.trans (Gs a)).trans ((E.2.1 _ _ _ _ he).trans (CG _ _))
    rw[if_neg h5] at h;have K1:=(Gs s).trans (Dz s.name u (nd 7) (E9 (by decide)));generalize(s.name.node u (nd 7))=a at h K1;have K2:=((SQ a (s.text 1)).trans (Ke _ s.rows.length (a.find (s.text 1)).1)).trans (CG _ [61]);cases he:expr f (((a.find (s.text 1)).2.DR s.rows.length (a.find (s.text 1)).1).need [61]) s.rows.length with
    |none=>rw[he] at h;simp at h
    |some b=>
      rw[he] at h;injection h with h;subst h;exact K1.trans (K2.trans ((E.1 _ _ _ he).trans (CG _ _)))
   ·rw[block] at h
    try dsimp only at h
    have K1:=Dz s u (nd 5) (E9 (by decide));generalize hbd:({(s.node u (nd 5)) with level:=(s.node u (nd 5)).level+1}:Rd)=b at h;have K2:NS (s.node u (nd 5)) b:=by rw[←hbd];exact Dp rfl rfl
    by_cases hb:b.enter.bad=true
    ·rw[if_pos hb] at h
     injection h with h;subst h;exact(K1.trans K2).trans ((Eo _).trans ((Em _).trans (SN _)))
    ·rw[if_neg hb] at h
     cases he:stmts f (b.enter.need [123]) s.rows.length with
     |none=>rw[he] at h;simp at h
     |some a=>
       rw[he] at h;injection h with h;subst h;have K3:=K2.trans ((Eo b).trans (CG _ [123]));exact K1.trans (K3.trans ((ihl _ _ _ he).trans ((Em _).trans (SN _))))
   ·rw[stmts] at h
    by_cases hb:s.bad=true
    ·rw[if_pos hb] at h
     injection h with h;subst h;exact NS.refl _
    rw[if_neg hb] at h;by_cases hn:s.next [125]=true
    ·rw[if_pos hn] at h
     injection h with h;subst h;exact Ee _
    rw[if_neg hn] at h;cases he:stmt f s n with
    |none=>rw[he] at h;simp at h
    |some a=>
      rw[he] at h;have K1:=ihs _ _ _ he;exact K1.trans (ihl _ _ _ h)
theorem UQ:∀(f:Nat) (b:Bool) (s:Rd) (k:Nat) (s':Rd),params f b s k=some s'→NS s s':=by
 intro f
 induction f with
 |zero=>intro b s k s' h;simp[params] at h
 |succ f ih=>
   intro b s k s' h;rw[params] at h;by_cases hb:s.bad=true
   ·rw[if_pos hb] at h;injection h with h;subst h;exact NS.refl _
   rw[if_neg hb] at h;by_cases hn:s.next [41]=true
   ·rw[if_pos hn] at h;injection h with h;subst h;exact Ee _
   rw[if_neg hn] at h;dsimp only at h;have K0:NS s (if b=true then s else s.need [44]):=by split <;>first|exact NS.refl _|exact CG _ _
   generalize(if b=true then s else s.need [44])=r at h K0;have K1:=K0.trans (Gs r);have K2:=K1.trans (Dz r.name k (AP 4 (r.text 1)) (Jv (Iw r).L (by decide)));have K3:=K2.trans ((MO _).trans ((JU _ r.rows.length (r.name.node k (AP 4 (r.text 1))).typed.1).trans (MP _ (r.text 1) r.rows.length)));exact K3.trans (ih _ _ _ _ h)
theorem Xx:∀(f:Nat) (s:Rd) (n:Nat) (s':Rd),body f s n=some s'→NS s s':=by
 intro f
 induction f with
 |zero=>intro s n s' h;simp[body] at h
 |succ f ih=>
   intro s n s' h;rw[body] at h;by_cases hb:s.bad=true∨s.next BQ=true
   ·rw[if_pos hb] at h;injection h with h;subst h;exact NS.refl _
   rw[if_neg hb] at h;cases he:stmt f s n with
   |none=>rw[he] at h;simp at h
   |some a=>
     rw[he] at h;have K1:=(XN f).1 _ _ _ he;exact K1.trans (ih _ _ _ h)
theorem Xq(f:Nat)(s:Rd)(u:Nat)(m:Str)(s':Rd)(h:func f s u m=some s'):NS s s':=by
 unfold func at h;dsimp only at h;have K1:=(CG s C8).trans (Gs _);have hT:∀x:Rd,x.L=s.L→NdOk x (AP 3 ((s.need C8).text 1)):=fun x hx=>Jv (hx.trans (CV s C8).L.symm) (by decide);generalize(s.need C8).text 1=t at h hT;generalize(s.need C8).name=a at h K1;have K2:NS s (if inL a.funcs (m++[32]++t)=true then a.fault 10 else a):=K1.trans (by split <;>first|exact Ju _ _|exact NS.refl _);generalize(if inL a.funcs (m++[32]++t)=true then a.fault 10 else a)=b at h K2;change (match params f true (((b.node u (AP 3 t)).Fe (m++[32]++t) b.rows.length).need [40]) b.rows.length with
  |none=>none
  |some r=>_)=some s' at h
 have K3:=K2.trans (Dz b u (AP 3 t) (hT b K2.L));have K4:NS (b.node u (AP 3 t)) ((b.node u (AP 3 t)).Fe (m++[32]++t) b.rows.length):=Dp rfl rfl;have K5:=K3.trans K4;generalize(b.node u (AP 3 t)).Fe (m++[32]++t) b.rows.length=c at h K5;cases hp:params f true (c.need [40]) b.rows.length with
 |none=>rw[hp] at h;simp at h
 |some p=>
   rw[hp] at h;dsimp only at h;have K6:=(CG c [40]).trans (UQ _ _ _ _ _ hp);have K7:=K6.trans ((MO p).trans (JU _ b.rows.length p.typed.1));have K8:=K7.trans (Dz _ b.rows.length (nd 5) (E9 (by decide)));have K9:=K8.trans (CG _ [123]);generalize((p.typed.2.Ar b.rows.length p.typed.1).node b.rows.length (nd 5)).need [123]=q at h K9;cases hq:body f q (p.typed.2.Ar b.rows.length p.typed.1).rows.length with
   |none=>rw[hq] at h;simp at h
   |some v=>
     rw[hq] at h;dsimp only at h;have K10:=Xx _ _ _ _ hq;have K11:=K10.trans (CG v BQ);have K12:=K11.trans (Dz (v.need BQ) (p.typed.2.Ar b.rows.length p.typed.1).rows.length (nd 10) (E9 (by decide)));cases hx:expr f ((v.need BQ).node (p.typed.2.Ar b.rows.length p.typed.1).rows.length (nd 10)) (v.need BQ).rows.length with
     |none=>rw[hx] at h;simp at h
     |some x=>
       rw[hx] at h;injection h with h;subst h;exact K5.trans (K9.trans (K12.trans (((Sr f).1 _ _ _ hx).trans ((CG _ _).trans (CG _ _)))))
theorem Ot(f:Nat):∀(g:Nat) (s:Rd) (m:Nat) (t:Str) (s':Rd),BX f g s m t=some s'→NS s s':=by
 intro g
 induction g with
 |zero=>intro s m t s' h;simp[BX] at h
 |succ g ih=>
   intro s m t s' h;rw[BX] at h;by_cases hb:s.bad=true
   ·rw[if_pos hb] at h;injection h with h;subst h;exact NS.refl _
   rw[if_neg hb] at h;by_cases hn:s.next [125]=true
   ·rw[if_pos hn] at h;injection h with h;subst h;exact Ee _
   rw[if_neg hn] at h;cases he:func f s m t with
   |none=>rw[he] at h;simp at h
   |some a=>
     rw[he] at h;have K1:=Xq _ _ _ _ _ he;exact K1.trans (ih _ _ _ _ h)
theorem QE(f:Nat):∀(g:Nat) (s:Rd) (root:Nat) (s':Rd),Bo f g s root=some s'→NS s s':=by
 intro g
 induction g with
 |zero=>intro s r s' h;simp[Bo] at h
 |succ g ih=>
   intro s root s' h;rw[Bo] at h;by_cases hb:s.bad=true∨s.L.length≤s.at_
   ·rw[if_pos hb] at h;injection h with h;subst h;exact NS.refl _
   rw[if_neg hb] at h;dsimp only at h;have K1:=(CG s Cb).trans (Gs _);have hT:∀x:Rd,x.L=s.L→NdOk x (AP 2 ((s.need Cb).text 1)):=fun x hx=>Jv (hx.trans (CV s Cb).L.symm) (by decide);generalize(s.need Cb).text 1=t at h hT;generalize(s.need Cb).name=a at h K1;have K2:NS s (if inL a.mods t=true then a.fault 10 else a):=K1.trans (by split <;>first|exact Ju _ _|exact NS.refl _);generalize(if inL a.mods t=true then a.fault 10 else a)=b at h K2;generalize hc:({b with mods:=b.mods++[t]}:Rd)=c at h;have hcr:c.rows=b.rows:=by rw[←hc]
   have K3:=K2.trans (Dp (by rw[←hc]:c.L=b.L) hcr);have K4:=K3.trans (Dz c root (AP 2 t) (hT c K3.L));have K5:=CG (c.node root (AP 2 t)) [123];cases he:BX f f ((c.node root (AP 2 t)).need [123]) b.rows.length t with
   |none=>rw[he] at h;simp at h
   |some d=>
     rw[he] at h;have K6:=K4.trans (K5.trans (Ot _ _ _ _ _ _ he));exact K6.trans (ih _ _ _ h)
theorem Xe:∀(is:List Nat) (ws:List Str) (s:Rd),NS s (link is ws s):=by
 intro is
 induction is with
 |nil=>intro ws s;cases ws <;>exact NS.refl _
 |cons i is ih=>
   intro ws s;cases ws with
   |nil=>exact NS.refl _
   |cons t ws=>
     rw[link];refine NS.trans ?_ (ih ws _);refine NS.trans ?_ (Ke _ _ _)
     split <;>first|exact Ju _ _|exact NS.refl _
theorem RA(f:Nat)(l:List Tok)(s':Rd)(h:program f (BP l)=some s')(M:Nat)(hM:∀t∈l,t.text.length≤M):∀r∈s'.rows,Nk M r.node:=by
 unfold program at h;dsimp only at h;cases e:Bo f f ((BP l).node 0 (nd 1)) (BP l).rows.length with
 |none=>rw[e] at h;simp at h
 |some a=>
   rw[e] at h;injection h with h;subst h;have K:=(Dz (BP l) 0 (nd 1) (E9 (by decide))).trans ((QE _ _ _ _ _ e).trans (Xe a.calls a.wants a));exact K.nb (fun M hM r hr=>by have h0:(BP l).rows=[]:=rfl;rw[h0] at hr;simp at hr) M (by rw[K.L];exact hM)
end Rd
theorem Ma:∀{l:List Row} {r:Row},r∈l→r.node.kids.length≤BZ l
 |[],r,h=>by simp at h
 |x::l,r,h=>by
   rw[EH];rcases List.mem_cons.1 h with h|h
   ·subst h;omega
   ·have:=Ma h;omega
theorem Tr.sum{l:List Row}(h:Tr l):BZ l=l.length-1:=by
 have:=h.perm.length_eq;rw[List.length_flatMap] at this;simpa[BZ] using this
theorem Tr.kids{l:List Row}(h:Tr l)(r:Row)(hr:r∈l):r.node.kids.length≤l.length:=by
 have h1:=h.sum;have h2:r.node.kids.length≤BZ l:=by
  exact Ma hr
 omega
theorem Tr.kid0{l:List Row}(h:Tr l)(x:Nat):∀k∈(AO l x).kids,k≠0:=by
 intro k hk;cases hi:atI l x with
 |none=>rw[CS l x hi] at hk;simp[Node.zero] at hk
 |some i=>
   rw[DF l x i hi] at hk;have hl:i < l.length:=by
    unfold atI at hi;exact(List.findIdx?_eq_some_iff_getElem.1 hi).1
   have e:rowAt l i=l[i]:=by simp[rowAt,hl]
   rw[e] at hk;have:=h.up i l[i] (AY hl) k hk;omega
theorem Vo(s:Str):∀r∈(Df s).1,Nk s.length r.node:=by
 cases h:Dt s with
 |none=>rw[JS h];intro r hr;simp at hr
 |some l=>
   obtain⟨r,hp,_,_,ht,e⟩:=JR h;obtain⟨_,h2⟩:=Kb h;rw[e];split
   ·intro r hr;simp at hr
   ·split
    ·intro r hr;simp at hr
    ·split
     ·intro r hr;simp at hr
     ·exact Rd.RA _ _ _ hp _ h2
def SL(id:Nat)(n:Node):List Row→List Row→Bool→List Row
 |[],out,done=>if done=true then out else out++[⟨id,n⟩]
 |r::l,out,done=>if r.id=id then SL id n l out done
   else if id < r.id∧done=false then SL id n l (out++[⟨id,n⟩]++[r]) true
   else SL id n l (out++[r]) done
def putRow(l:List Row)(id:Nat)(n:Node):List Row:=SL id n l [] false
def Ej(a:Nat)(l:List Row):Prop:=∀(k:Nat) (r:Row),l[k]? =some r→r.id=a+k
theorem Ej.head{a:Nat}{r:Row}{l:List Row}(h:Ej a (r::l)):r.id=a:=by simpa using h 0 r rfl
theorem Ej.tail{a:Nat}{r:Row}{l:List Row}(h:Ej a (r::l)):Ej (a+1) l:=fun k x hx=>by
 have:=h (k+1) x (by simpa using hx);omega
end Hg
