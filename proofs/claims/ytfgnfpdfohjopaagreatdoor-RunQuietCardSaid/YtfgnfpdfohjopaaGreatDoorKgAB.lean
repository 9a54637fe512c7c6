/-
  A part of the proof.
-/
import Derived.Test.YtfgnfpdfohjopaaGreatDoorKgAA
set_option linter.all false
namespace Hg
theorem Ve(f i:Nat)(acc:List Tok):BB f i [] acc=some acc:=by cases f <;>rfl
section
variable {f i:Nat} {c:UInt8} {r:Str} {acc:List Tok}
theorem Q5(h:cls c=3):BB (f+1) i (c::r) acc=BB f (i+1) r acc:=by
 simp only[BB,h,if_true]
theorem Oa(h:cls c≠3)(h':c.toNat=35):BB (f+1) i (c::r) acc=
 BB f (i+((c::r).takeWhile (fun b=>b.toNat !=10)).length) ((c::r).drop ((c::r).takeWhile (fun b=>b.toNat !=10)).length) acc:=by
 simp only[BB,h,h',if_true,if_false]
theorem UF(h:cls c≠3)(h':c.toNat≠35)(h0:0 < cls c){w:Str}(hw:(c::r).takeWhile Bb=w)(hm:inL words w=true):BB (f+1) i (c::r) acc=
 BB f (i+w.length) ((c::r).drop w.length) (acc++[⟨3,w,i⟩]):=by
 simp only[BB,h,h',h0,if_true,if_false,hw,hm]
theorem UG(h:cls c≠3)(h':c.toNat≠35)(h0:0 < cls c){w:Str}(hw:(c::r).takeWhile Bb=w)(hm:inL words w=false)(hn:Cj w=true):BB (f+1) i (c::r) acc=
 BB f (i+w.length) ((c::r).drop w.length) (acc++[⟨1,w,i⟩]):=by
 simp only[BB,h,h',h0,if_true,if_false,hw,hm,hn];rfl
theorem PY(h:cls c≠3)(h':c.toNat≠35)(h0:0 < cls c){w:Str}(hw:(c::r).takeWhile Bb=w)(hm:inL words w=false)(hn:Cj w=false)(hv:0≤CL w):BB (f+1) i (c::r) acc=
 BB f (i+w.length) ((c::r).drop w.length) (acc++[⟨2,w,i⟩]):=by
 simp only[BB,h,h',h0,if_true,if_false,hw,hm,hn,hv];rfl
theorem Vf(h:cls c≠3)(h':c.toNat≠35)(h0:0 < cls c){w:Str}(hw:(c::r).takeWhile Bb=w)(hm:inL words w=false)(hn:Cj w=false)(hv:¬0≤CL w):BB (f+1) i (c::r) acc=none:=by
 simp only[BB,h,h',h0,if_true,if_false,hw,hm,hn,hv];rfl
theorem Q4(h:cls c≠3)(h':c.toNat≠35)(h0:¬0 < cls c)(h2:2≤(c::r).length)(hm:inL signs ((c::r).take 2)=true):BB (f+1) i (c::r) acc=
 BB f (i+2) ((c::r).drop 2) (acc++[⟨4,(c::r).take 2,i⟩]):=by
 have hl:((c::r).take 2).length=2:=by rw[List.length_take];omega
 simp only[BB,h,h',h0,if_false,hm,h2,and_self,if_true,hl]
theorem ME(h:cls c≠3)(h':c.toNat≠35)(h0:¬0 < cls c)(h2:¬(inL signs ((c::r).take 2)=true∧2≤(c::r).length))(hm:inL signs ((c::r).take 1)=true):BB (f+1) i (c::r) acc=
 BB f (i+1) ((c::r).drop 1) (acc++[⟨4,(c::r).take 1,i⟩]):=by
 have hl:((c::r).take 1).length=1:=by simp
 simp only[BB,h,h',h0,if_false,h2,hm,if_true,hl]
theorem SH(h:cls c≠3)(h':c.toNat≠35)(h0:¬0 < cls c)(h2:¬(inL signs ((c::r).take 2)=true∧2≤(c::r).length))(hm:inL signs ((c::r).take 1)=false):BB (f+1) i (c::r) acc=none:=by
 simp only[BB,h,h',h0,if_false,h2,hm];rfl
end
theorem I9(s:Str)(p:UInt8→Bool)(i k:Nat)(hi:i≤k)(hk:k≤s.length)(hin:∀j,i≤j→j < k→(hj:j < s.length)→p s[j]=true)
 (hend:k=s.length∨∃h:k < s.length,p s[k]=false):(s.drop i).takeWhile p=(s.drop i).take (k-i)∧((s.drop i).takeWhile p).length=k-i:=by
 have key:∀(n:Nat) (t:Str),n≤t.length→(∀j,j < n→(hj:j < t.length)→p t[j]=true)→(n=t.length∨∃h:n < t.length,p t[n]=false)→t.takeWhile p=t.take n:=by
  intro n
  induction n with
  |zero=>
    intro t _ _ h;rcases h with h|⟨h,h'⟩
    ·have:t=[]:=List.eq_nil_of_length_eq_zero h.symm
     subst this;rfl
    ·cases t with
     |nil=>simp at h
     |cons c r=>simp only[List.getElem_cons_zero] at h';simp[List.takeWhile_cons,h']
  |succ n ih=>
    intro t hn hin h;cases t with
    |nil=>simp at hn
    |cons c r=>
      have h0:=hin 0 (by omega) (by simp);simp only[List.getElem_cons_zero] at h0;rw[List.takeWhile_cons,h0,List.take_succ_cons];simp only[if_true];rw[ih r (by simpa using hn) (fun j hj hj2=>by have:=hin (j+1) (by omega) (by simp;omega);simpa using this) (by
       rcases h with h|⟨h,h'⟩
       ·left;simpa using h
       ·right;exact⟨by simpa using h,by simpa using h'⟩)]
 have h1:=key (k-i) (s.drop i) (by rw[List.length_drop];omega) (fun j hj hj2=>by
  rw[List.getElem_drop];exact hin (i+j) (by omega) (by omega) (by rw[List.length_drop] at hj2;omega)) (by
  rcases hend with h|⟨h,h'⟩
  ·left;rw[List.length_drop];omega
  ·right;refine⟨by rw[List.length_drop];omega, ?_⟩
   rw[List.getElem_drop];have:i+(k-i)=k:=by omega
   simp only[this];exact h')
 refine⟨h1, ?_⟩;rw[h1,List.length_take,List.length_drop];omega
namespace Rd
structure Grow (s s':Rd):Prop where
 L:s'.L=s.L
 at_:s.at_≤s'.at_
 bad:s.bad=true→s'.bad=true
 rows:∀(k:Nat) (r:Row),s.rows[k]? =some r→∃r',s'.rows[k]? =some r'∧r'.id=r.id∧r.node.kids.length≤r'.node.kids.length
 len:s.rows.length≤s'.rows.length
theorem Grow.refl(s:Rd):Grow s s:=⟨rfl,AA,id,fun k r h=>⟨r,h,rfl,AA⟩,AA⟩
theorem Grow.trans{a b c:Rd}(h:Grow a b)(k:Grow b c):Grow a c:=
 ⟨k.L.trans h.L, AC h.at_ k.at_, fun hb => k.bad (h.bad hb), fun i r hr => by
  obtain⟨r1,h1,h2,h3⟩:=h.rows i r hr;obtain⟨r2,k1,k2,k3⟩:=k.rows i r1 h1;exact⟨r2,k1,k2.trans h2,AC h3 k3⟩,AC h.len k.len⟩
structure Inv (s:Rd):Prop where
 mods:s.mods.length≤s.rows.length
 funcs:s.funcs.length≤s.rows.length
 ids:s.ids.length=s.funcs.length
 calls:s.calls.length≤s.rows.length
 wants:s.wants.length=s.calls.length
 used:s.used.length≤s.rows.length
 seen:s.seen.length≤s.used.length
 kids:∀(k:Nat) (r:Row),s.rows[k]? =some r→r.node.kids.length≤s.rows.length
 rid:∀(k:Nat) (r:Row),s.rows[k]? =some r→r.id=k+1
 callr:∀c∈s.calls,0 < c∧c≤s.rows.length
theorem Ff{l:List Row}{k i:Nat}{f:Row→Row}{r:Row}(h:l[i]? =some r):(l.modify k f)[i]? =some (if k=i then f r else r):=by
 rw[List.getElem?_modify,h];by_cases e:k=i <;>simp[e]
theorem ET{l:List Row}{k i:Nat}{f:Row→Row}{r':Row}(h:(l.modify k f)[i]? =some r'):∃r,l[i]? =some r∧r'=if k=i then f r else r:=by
 rw[List.getElem?_modify] at h;cases hl:l[i]? with
 |none=>rw[hl] at h;by_cases e:k=i <;>simp[e] at h
 |some r=>
   rw[hl] at h;refine⟨r,rfl, ?_⟩;by_cases e:k=i
   ·simp[e] at h⊢;exact h.symm
   ·simp[e] at h⊢;exact h.symm
section
variable {s:Rd}
theorem Bp{s':Rd}(hL:s'.L=s.L)(ha:s.at_≤s'.at_)(hb:s.bad=true→s'.bad=true)(hr:s'.rows=s.rows):Grow s s':=
 ⟨hL,ha,hb,fun k r h=>⟨r,by rw[hr];exact h,rfl,AA⟩,by rw[hr];exact AA⟩
theorem EJ{s':Rd}(h:Inv s)(h1:s'.rows=s.rows)(h2:s'.mods=s.mods)(h3:s'.funcs=s.funcs)(h4:s'.ids=s.ids)(h5:s'.calls=s.calls)(h6:s'.wants=s.wants)(h7:s'.used=s.used)(h8:s'.seen.length≤s.seen.length):Inv s':=
 ⟨by rw [h1, h2]; exact h.mods, by rw [h1, h3]; exact h.funcs, by rw [h3, h4]; exact h.ids, by rw [h1, h5]; exact h.calls, by rw [h5, h6]; exact h.wants, by rw [h1, h7]; exact h.used, by rw [h7]; exact AC h8 h.seen,
  by rw[h1];exact h.kids,by rw[h1];exact h.rid,by rw[h1,h5];exact h.callr⟩
theorem grow_step(s:Rd):Grow s s.step:=Bp rfl (Nat.le_succ _) id rfl
theorem IP(s:Rd):Grow s s.setBad:=Bp rfl AA (fun _=>rfl) rfl
theorem CV(s:Rd)(t:Str):Grow s (s.need t):=by unfold need;split <;>first|exact grow_step s|exact IP s
theorem Iw(s:Rd):Grow s s.name:=by unfold name;split <;>first|exact IP s|exact grow_step s
theorem Ml(s:Rd):Grow s s.typed.2:=by unfold typed;split <;>first|exact grow_step s|exact CV s _
theorem Mm(s:Rd)(e:Nat):Grow s (s.fault e):=by unfold fault;split <;>first|exact Bp rfl AA id rfl|exact Grow.refl s
theorem Cz(s:Rd):Grow s s.enter:=by
 unfold enter;dsimp only;split
 ·exact Bp rfl AA (fun _=>rfl) rfl
 ·exact Bp rfl AA id rfl
theorem Cy(s:Rd):Grow s s.leave:=Bp rfl AA id rfl
theorem Nw(s:Rd):Grow s s.shut:=Bp rfl AA id rfl
theorem Es(s:Rd)(k:Nat)(f:Row→Row)(hid:∀r,(f r).id=r.id)(hk:∀r,r.node.kids.length≤(f r).node.kids.length):Grow s {s with rows:=s.rows.modify k f}:=
 ⟨rfl, AA, id, fun i r h => by
  refine⟨_,Ff h, ?_, ?_⟩
  ·(split <;>first|exact hid r|exact rfl)
  ·(split <;>first|exact hk r|exact AA),by simp⟩
theorem Gu(s:Rd)(k t:Nat):Grow s (s.Ar k t):=Es s k _ (fun _=>rfl) (fun _=>AA)
theorem LG(s:Rd)(k t:Nat):Grow s (s.DR k t):=Es s k _ (fun _=>rfl) (fun _=>AA)
theorem QO(s:Rd)(k:Nat)(n:Int):Grow s (s.Bv k n):=Es s k _ (fun _=>rfl) (fun _=>AA)
theorem Ny(s:Rd)(r:Row):Grow s {s with rows:=s.rows++[r]}:=
 ⟨rfl,AA,id,fun k r' h=>⟨r',by rw[List.getElem?_append_left (Ai.1 h).1];exact h,rfl,AA⟩,by simp⟩
theorem FN(s:Rd)(u:Nat)(n:Node):Grow s (s.node u n):=by
 unfold node;dsimp only;split
 ·exact(Ny s ⟨s.rows.length+1,n⟩).trans (Es _ u (fun x=>{x with node:={x.node with kids:=x.node.kids++[s.rows.length+1]}}) (fun _=>rfl) (fun r=>by simp))
 ·exact Ny s _
theorem BI(s:Rd)(u:Nat)(n:Node):(s.node u n).rows.length=s.rows.length+1:=by
 unfold node;dsimp only;split <;>simp[EY]
theorem FK(s:Rd)(t:Str)(k:Nat):Grow s (s.declare t k):=by
 unfold declare;dsimp only;split
 ·exact(Mm s 10).trans (Bp rfl AA id rfl)
 ·exact Bp rfl AA id rfl
end
theorem JI{s s':Rd}(h:Inv s)(g:Grow s s')(hk:∀(k:Nat) (r:Row),s'.rows[k]? =some r→r.node.kids.length≤s'.rows.length)(hid:∀(k:Nat) (r:Row),s'.rows[k]? =some r→r.id=k+1)
 (h2:s'.mods=s.mods) (h3:s'.funcs=s.funcs) (h4:s'.ids=s.ids) (h5:s'.calls=s.calls) (h6:s'.wants=s.wants) (h7:s'.used=s.used) (h8:s'.seen=s.seen):Inv s':=
 ⟨by rw [h2]; exact AC h.mods g.len, by rw [h3]; exact AC h.funcs g.len, by rw [h3, h4]; exact h.ids, by rw [h5]; exact AC h.calls g.len, by rw [h5, h6]; exact h.wants,
  by rw[h7];exact AC h.used g.len,by rw[h7,h8];exact h.seen,hk,hid,fun c hc=>by rw[h5] at hc;have:=h.callr c hc;have:=g.len;omega⟩
theorem QM{s:Rd}(h:Inv s)(u:Nat)(n:Node)(hn:n.kids=[]):Inv (s.node u n):=by
 have hg:=FN s u n;have hl:=BI s u n;have push:∀(k:Nat) (r:Row),(s.rows++[⟨s.rows.length+1,n⟩])[k]? =some r→r.node.kids.length≤s.rows.length∧r.id=k+1:=by
  intro k r hr;by_cases hk:k < s.rows.length
  ·rw[List.getElem?_append_left hk] at hr
   exact⟨h.kids k r hr,h.rid k r hr⟩
  ·rw[List.getElem?_append_right (by omega)] at hr
   by_cases e:k-s.rows.length=0
   ·rw[e] at hr
    simp only[List.getElem?_cons_zero,Option.some.injEq] at hr;subst hr;exact⟨by simp[hn],by simp;omega⟩
   ·rw[List.getElem?_eq_none (by simp;omega)] at hr;cases hr
 have all:∀(k:Nat) (r:Row),(s.node u n).rows[k]? =some r→r.node.kids.length≤s.rows.length+1∧r.id=k+1:=by
  intro k r hr;unfold node at hr;dsimp only at hr
  split at hr
  ·obtain⟨r0,h0,he⟩:=ET hr
   obtain⟨p1,p2⟩:=push k r0 h0;subst he;split
   ·exact⟨by simp;omega,p2⟩
   ·exact⟨by omega,p2⟩
  ·obtain⟨p1,p2⟩:=push k r hr
   exact⟨by omega,p2⟩
 refine JI h hg (fun k r hr=>by rw[hl];exact(all k r hr).1) (fun k r hr=>(all k r hr).2) ?_ ?_ ?_ ?_ ?_ ?_ ?_
 all_goals rfl
theorem Jb{s:Rd}(h:Inv s)(k:Nat)(f:Row→Row)(hid:∀r,(f r).id=r.id)(hk:∀r,(f r).node.kids=r.node.kids):Inv {s with rows:=s.rows.modify k f}:=by
 refine JI h (Es s k f hid (fun r=>by rw[hk];exact AA)) (fun i r hr=> ?_) (fun i r hr=> ?_) rfl rfl rfl rfl rfl rfl rfl
 ·obtain⟨r0,h0,he⟩:=ET hr
  have:=h.kids i r0 h0;subst he;simp only[List.length_modify];split
  ·rw[hk];exact this
  ·exact this
 ·obtain⟨r0,h0,he⟩:=ET hr
  have:=h.rid i r0 h0;subst he;split
  ·rw[hid];exact this
  ·exact this
structure Al (s s':Rd):Prop where
 grow:Grow s s'
 inv:Inv s→Inv s'
 deep:s'.deep=s.deep
 level:s'.level=s.level
 used:s'.used=s.used
 seen:s'.seen=s.seen
 mods:s'.mods=s.mods
 funcs:s'.funcs=s.funcs
 ids:s'.ids=s.ids
theorem Al.refl(s:Rd):Al s s:=⟨Grow.refl s,id,rfl,rfl,rfl,rfl,rfl,rfl,rfl⟩
theorem Al.trans{a b c:Rd}(h:Al a b)(k:Al b c):Al a c:=
 ⟨h.grow.trans k.grow,fun x=>k.inv (h.inv x),k.deep.trans h.deep,k.level.trans h.level,k.used.trans h.used,k.seen.trans h.seen,k.mods.trans h.mods,k.funcs.trans h.funcs,k.ids.trans h.ids⟩
theorem BS(s:Rd):Al s s.step:=⟨grow_step s,fun h=>EJ h rfl rfl rfl rfl rfl rfl rfl AA,rfl,rfl,rfl,rfl,rfl,rfl,rfl⟩
theorem GZ(s:Rd):Al s s.setBad:=⟨IP s,fun h=>EJ h rfl rfl rfl rfl rfl rfl rfl AA,rfl,rfl,rfl,rfl,rfl,rfl,rfl⟩
theorem Ao(s:Rd)(t:Str):Al s (s.need t):=by unfold need;split <;>first|exact BS s|exact GZ s
theorem Co(s:Rd):Al s s.name:=by unfold name;split <;>first|exact GZ s|exact BS s
theorem Fh(s:Rd):Al s s.typed.2:=by unfold typed;split <;>first|exact BS s|exact Ao s _
theorem IU(s:Rd)(e:Nat):Al s (s.fault e):=by
 unfold fault;split
 ·exact⟨Bp rfl AA id rfl,fun h=>EJ h rfl rfl rfl rfl rfl rfl rfl AA,rfl,rfl,rfl,rfl,rfl,rfl,rfl⟩
 ·exact Al.refl s
theorem Li(s:Rd)(t:Str):Al s (s.find t).2:=by unfold find;split <;>first|exact Al.refl s|exact IU s _
theorem Av(s:Rd)(u:Nat)(n:Node)(hn:n.kids=[]):Al s (s.node u n):=⟨FN s u n,fun h=>QM h u n hn,rfl,rfl,rfl,rfl,rfl,rfl,rfl⟩
theorem FU(s:Rd)(k t:Nat):Al s (s.DR k t):=⟨LG s k t,fun h=>Jb h k _ (fun _=>rfl) (fun _=>rfl),rfl,rfl,rfl,rfl,rfl,rfl,rfl⟩
theorem Kr(s:Rd)(k:Nat)(t:Int):Al s (s.Bv k t):=⟨QO s k t,fun h=>Jb h k _ (fun _=>rfl) (fun _=>rfl),rfl,rfl,rfl,rfl,rfl,rfl,rfl⟩
theorem D7(s:Rd)(k t:Nat):Al s (s.Ar k t):=⟨Gu s k t,fun h=>Jb h k _ (fun _=>rfl) (fun _=>rfl),rfl,rfl,rfl,rfl,rfl,rfl,rfl⟩
theorem FQ{s s':Rd}(h:Al s.enter s'):Al s s'.leave:=by
 have hd:s.enter.deep=s.deep+1:=by unfold enter;dsimp only;split <;>rfl
 have hi:Inv s→Inv s.enter:=fun h=>by unfold enter;dsimp only;split <;>exact EJ h rfl rfl rfl rfl rfl rfl rfl AA
 have he:s.enter.level=s.level∧s.enter.used=s.used∧s.enter.seen=s.seen∧s.enter.mods=s.mods∧s.enter.funcs=s.funcs∧s.enter.ids=s.ids:=by
  unfold enter;dsimp only;split <;>exact⟨rfl,rfl,rfl,rfl,rfl,rfl⟩
 refine⟨((Cz s).trans h.grow).trans (Cy s'),fun x=> ?_, ?_,h.level.trans he.1,h.used.trans he.2.1,h.seen.trans he.2.2.1,h.mods.trans he.2.2.2.1,h.funcs.trans he.2.2.2.2.1,h.ids.trans he.2.2.2.2.2⟩
 ·exact EJ (h.inv (hi x)) rfl rfl rfl rfl rfl rfl rfl AA
 ·show s'.deep-1=s.deep
  rw[h.deep,hd];omega
theorem Nv(s:Rd)(u:Nat)(n:Node):(s.node u n).idAt s.rows.length=s.rows.length+1:=by
 unfold idAt node;dsimp only;split
 ·have:=Ff (k:=u) (f:=fun x:Row=>{x with node:={x.node with kids:=x.node.kids++[s.rows.length+1]}}) (show(s.rows++[⟨s.rows.length+1,n⟩])[s.rows.length]? =some ⟨s.rows.length+1,n⟩ by simp)
  unfold EY;rw[this];simp only[Option.map_some,Option.getD_some]
  split <;>rfl
 ·simp
end Rd
namespace Rd
theorem WY{s a s':Rd}{c:Nat}{t:Str}(A:Al s a)(hr:s.rows.length < a.rows.length)(hcalls:a.calls=s.calls)(hw:a.wants=s.wants)(hc:0 < c∧c≤a.rows.length)
 (B:Al {a with calls:=a.calls++[c],wants:=a.wants++[t]} s'):Al s s':=by
 refine⟨(A.grow.trans (Bp (s:=a) (s':={a with calls:=a.calls++[c],wants:=a.wants++[t]}) rfl AA id rfl)).trans B.grow,fun h=>B.inv ?_,B.deep.trans A.deep,B.level.trans A.level,B.used.trans A.used,B.seen.trans A.seen,B.mods.trans A.mods,B.funcs.trans A.funcs,B.ids.trans A.ids⟩;have ha:=A.inv h;refine⟨ha.mods,ha.funcs,ha.ids, ?_, ?_,ha.used,ha.seen,ha.kids,ha.rid,fun x hx=> ?_⟩
 ·have:=h.calls;simp[hcalls];omega
 ·simp[ha.wants]
 ·rcases List.mem_append.1 hx with hx|hx
  ·exact ha.callr x hx
  ·simp at hx;subst hx;exact hc
theorem Dk(s:Rd)(t:Str):(s.need t).calls=s.calls∧(s.need t).wants=s.wants∧(s.need t).rows=s.rows:=by unfold need;split <;>exact⟨rfl,rfl,rfl⟩
theorem CZ(s:Rd):s.name.calls=s.calls∧s.name.wants=s.wants∧s.name.rows=s.rows:=by unfold name;split <;>exact⟨rfl,rfl,rfl⟩
theorem Nu{s s':Rd}(h:s'.rows=s.rows)(k:Nat):s'.idAt k=s.idAt k:=by unfold idAt;rw[h]
theorem Cn(k:Nat):(nd k).kids=[]:=rfl
theorem EG(k:Nat)(s:Str):(AP k s).kids=[]:=rfl
theorem Mg(k:Nat)(n:Int):(LC k n).kids=[]:=rfl
theorem CJ(f:Nat):(∀s u s',expr f s u=some s'→Al s s')∧(∀s u m s',call f s u m=some s'→Al s s')∧(∀b s n s',args f b s n=some s'→Al s s'):=by
 induction f with
 |zero=>exact⟨fun _ _ _ h=>by simp[expr] at h,fun _ _ _ _ h=>by simp[call] at h,fun _ _ _ _ h=>by simp[args] at h⟩
 |succ f ih=>
   obtain⟨ihe,ihc,iha⟩:=ih;refine⟨fun s u s' h=> ?_,fun s u m s' h=> ?_,fun b s n s' h=> ?_⟩
   ·rw[expr] at h
    by_cases h2:s.text 2≠[]
    ·rw[if_pos h2] at h
     injection h with h;subst h;exact(BS s).trans (Av _ _ _ (Mg _ _))
    rw[if_neg h2] at h;by_cases h1:s.text 1≠[]
    ·rw[if_pos h1] at h
     dsimp only at h;by_cases hd:s.step.next [46]=true
     ·rw[if_pos hd] at h
      exact(BS s).trans (ihc _ _ _ _ h)
     ·rw[if_neg hd] at h
      injection h with h;subst h;exact(((BS s).trans (Av _ _ _ (Cn _))).trans (Li _ _)).trans (FU _ _ _)
    rw[if_neg h1] at h;by_cases ht:s.next I7=true
    ·rw[if_pos ht] at h
     injection h with h;subst h;exact(BS s).trans (Av _ _ _ (Mg _ _))
    rw[if_neg ht] at h;by_cases hf:s.next F6=true
    ·rw[if_pos hf] at h
     injection h with h;subst h;exact(BS s).trans (Av _ _ _ (Cn _))
    rw[if_neg hf] at h;by_cases hr:s.next I8=true
    ·rw[if_pos hr] at h
     injection h with h;subst h;exact(BS s).trans (Av _ _ _ (Cn _))
    rw[if_neg hr] at h;by_cases hn:s.next [33]=true∨s.next [45]=true
    ·rw[if_pos hn] at h
     dsimp only at h;generalize hk:(if s.next [33]=true then 16 else 17)=kind at h;by_cases hb:(s.step.node u (nd kind)).enter.bad=true
     ·rw[if_pos hb] at h
      injection h with h;subst h;exact((BS s).trans (Av _ _ _ (Cn _))).trans (FQ (Al.refl _))
     ·rw[if_neg hb] at h
      cases he:expr f (s.step.node u (nd kind)).enter s.rows.length with
      |none=>rw[he] at h;simp at h
      |some s1=>
        rw[he] at h;injection h with h;subst h;exact((BS s).trans (Av _ _ _ (Cn _))).trans (FQ (ihe _ _ _ he))
    rw[if_neg hn] at h;by_cases hp:s.next [40]=true
    ·rw[if_pos hp] at h
     dsimp only at h;by_cases hb:(s.step.node u (nd 18)).enter.bad=true
     ·rw[if_pos hb] at h
      injection h with h;subst h;exact((BS s).trans (Av _ _ _ (Cn _))).trans (FQ (Al.refl _))
     ·rw[if_neg hb] at h
      cases he:expr f (s.step.node u (nd 18)).enter s.rows.length with
      |none=>rw[he] at h;simp at h
      |some s1=>
        rw[he] at h;dsimp only at h;have e1:Al (s.step.node u (nd 18)).enter ((if opOf (s1.text 4)=0 then(s1.Bv s.rows.length (opOf (s1.text 4):Nat)).setBad else s1.Bv s.rows.length (opOf (s1.text 4):Nat)).step):=by
         refine(ihe _ _ _ he).trans (Al.trans ?_ (BS _));split
         ·exact(Kr _ _ _).trans (GZ _)
         ·exact Kr _ _ _
        cases he2:expr f ((if opOf (s1.text 4)=0 then(s1.Bv s.rows.length (opOf (s1.text 4):Nat)).setBad else s1.Bv s.rows.length (opOf (s1.text 4):Nat)).step) s.rows.length with
        |none=>rw[he2] at h;simp at h
        |some s2=>
          rw[he2] at h;injection h with h;subst h;exact((BS s).trans (Av _ _ _ (Cn _))).trans (FQ ((e1.trans (ihe _ _ _ he2)).trans (Ao _ _)))
    rw[if_neg hp] at h;injection h with h;subst h;exact GZ s
   ·rw[call] at h
    try dsimp only at h
    have hrn:((s.node u (nd 19)).need [46]).name.rows=(s.node u (nd 19)).rows:=(CZ _).2.2.trans (Dk _ _).2.2;have hid:((s.node u (nd 19)).need [46]).name.idAt s.rows.length=s.rows.length+1:=(Nu hrn _).trans (Nv s u _);have A:Al s ((s.node u (nd 19)).need [46]).name:=((Av s u _ (Cn _)).trans (Ao _ _)).trans (Co _);have hl:((s.node u (nd 19)).need [46]).name.rows.length=s.rows.length+1:=by rw[hrn,BI]
    refine WY (c:=((s.node u (nd 19)).need [46]).name.idAt s.rows.length) (t:=m++[32]++((s.node u (nd 19)).need [46]).text 1) A (by omega) ((CZ _).1.trans (Dk _ _).1) ((CZ _).2.1.trans (Dk _ _).2.1) (by rw[hid,hl];omega) ?_;generalize({((s.node u (nd 19)).need [46]).name with calls:=((s.node u (nd 19)).need [46]).name.calls++[((s.node u (nd 19)).need [46]).name.idAt s.rows.length],wants:=((s.node u (nd 19)).need [46]).name.wants++[m++[32]++((s.node u (nd 19)).need [46]).text 1]}:Rd)=b at h⊢;by_cases hb:b.enter.bad=true
    ·rw[if_pos hb] at h
     injection h with h;subst h;exact FQ (Al.refl _)
    ·rw[if_neg hb] at h
     cases he:args f true (b.enter.need [40]) s.rows.length with
     |none=>rw[he] at h;simp at h
     |some s1=>
       rw[he] at h;injection h with h;subst h;exact FQ ((Ao _ _).trans (iha _ _ _ _ he))
   ·rw[args] at h
    by_cases hb:s.bad=true
    ·rw[if_pos hb] at h
     injection h with h;subst h;exact Al.refl _
    rw[if_neg hb] at h;by_cases hn:s.next [41]=true
    ·rw[if_pos hn] at h
     injection h with h;subst h;exact BS _
    rw[if_neg hn] at h;cases he:expr f (if b=true then s else s.need [44]) n with
    |none=>rw[he] at h;simp at h
    |some s1=>
      rw[he] at h;refine Al.trans ?_ ((ihe _ _ _ he).trans (iha _ _ _ _ h));split
      ·exact Al.refl _
      ·exact Ao _ _
end Rd
namespace Rd
structure Bw (s s':Rd):Prop where
 grow:Grow s s'
 inv:Inv s→Inv s'
 deep:s'.deep=s.deep
 level:s'.level=s.level
 mods:s'.mods=s.mods
 funcs:s'.funcs=s.funcs
 ids:s'.ids=s.ids
theorem Al.s{a b:Rd}(h:Al a b):Bw a b:=⟨h.grow,h.inv,h.deep,h.level,h.mods,h.funcs,h.ids⟩
theorem Bw.refl(s:Rd):Bw s s:=(Al.refl s).s
theorem Bw.trans{a b c:Rd}(h:Bw a b)(k:Bw b c):Bw a c:=
 ⟨h.grow.trans k.grow,fun x=>k.inv (h.inv x),k.deep.trans h.deep,k.level.trans h.level,k.mods.trans h.mods,k.funcs.trans h.funcs,k.ids.trans h.ids⟩
theorem EU(s:Rd)(e:Nat):(s.fault e).rows=s.rows∧(s.fault e).mods=s.mods∧(s.fault e).funcs=s.funcs∧(s.fault e).ids=s.ids∧(s.fault e).calls=s.calls∧(s.fault e).wants=s.wants∧(s.fault e).used=s.used∧(s.fault e).seen=s.seen∧(s.fault e).deep=s.deep∧(s.fault e).level=s.level:=by
 unfold fault;split <;>exact⟨rfl,rfl,rfl,rfl,rfl,rfl,rfl,rfl,rfl,rfl⟩
theorem QL{s:Rd}(h:Inv s)(t:Str)(b:F5)(hu:s.used.length < s.rows.length):Inv {s with used:=s.used++[t],seen:=s.seen++[b]}:=
 ⟨h.mods,h.funcs,h.ids,h.calls,h.wants,by simp;omega,by simp;exact h.seen,h.kids,h.rid,h.callr⟩
theorem QN{s:Rd}(h:Inv s)(t:Str)(k:Nat)(hu:s.used.length < s.rows.length):Inv (s.declare t k):=by
 unfold declare;dsimp only;split
 ·obtain⟨e1,_,_,_,_,_,e7,e8,_,_⟩:=EU s 10
  have hf:=(IU s 10).inv h;exact QL hf t _ (by rw[e1,e7];exact hu)
 ·exact QL h t _ hu
theorem FL(s:Rd)(t:Str)(k:Nat):(s.declare t k).deep=s.deep∧(s.declare t k).level=s.level∧(s.declare t k).mods=s.mods∧(s.declare t k).funcs=s.funcs∧(s.declare t k).ids=s.ids∧(s.declare t k).rows=s.rows:=by
 unfold declare;dsimp only;split
 ·obtain⟨e1,e2,e3,e4,_,_,_,_,e9,e10⟩:=EU s 10
  exact⟨e9,e10,e2,e3,e4,e1⟩
 ·exact⟨rfl,rfl,rfl,rfl,rfl,rfl⟩
theorem Gm{s a:Rd}(A:Al s a)(hr:s.rows.length < a.rows.length)(t:Str)(k:Nat):Bw s (a.declare t k):=by
 obtain⟨d1,d2,d3,d4,d5,d6⟩:=FL a t k;exact⟨A.grow.trans (FK a t k),fun h=>QN (A.inv h) t k (by rw[A.used];have:=h.used;omega),d1.trans A.deep,d2.trans A.level,d3.trans A.mods,d4.trans A.funcs,d5.trans A.ids⟩
theorem JA(s:Rd)(n:Nat):Grow s {s with level:=n}:=Bp rfl AA id rfl
theorem Jn{s:Rd}(h:Inv s)(n:Nat):Inv {s with level:=n}:=EJ h rfl rfl rfl rfl rfl rfl rfl AA
theorem Rq(s:Rd):s.enter.deep=s.deep+1∧s.enter.level=s.level∧s.enter.mods=s.mods∧s.enter.funcs=s.funcs∧s.enter.ids=s.ids:=by
 unfold enter;dsimp only;split <;>exact⟨rfl,rfl,rfl,rfl,rfl⟩
theorem Ug{s:Rd}(h:Inv s):Inv s.enter:=by unfold enter;dsimp only;split <;>exact EJ h rfl rfl rfl rfl rfl rfl rfl AA
theorem WG{s:Rd}(h:Inv s):Inv s.leave.shut:=EJ h rfl rfl rfl rfl rfl rfl rfl (List.length_filter_le _ _)
def head(s:Rd)(u:Nat):Rd:=({(s.node u (nd 5)) with level:=(s.node u (nd 5)).level+1}:Rd)
theorem PR{s s1:Rd}{u:Nat}(h:Bw (s.head u).enter s1):Bw s s1.leave.shut:=by
 have hn:=Av s u (nd 5) (Cn 5);obtain⟨e1,e2,e3,e4,e5⟩:=Rq (s.head u);refine⟨hn.grow.trans ((JA _ _).trans ((Cz _).trans (h.grow.trans ((Cy _).trans (Nw _))))),fun x=>WG (h.inv (Ug (Jn (hn.inv x) _))), ?_, ?_, ?_, ?_, ?_⟩
 ·show s1.deep-1=s.deep
  rw[h.deep,e1];show(s.node u (nd 5)).deep+1-1=s.deep;rw[hn.deep];omega
 ·show s1.level-1=s.level
  rw[h.level,e2];show(s.node u (nd 5)).level+1-1=s.level;rw[hn.level];omega
 ·show s1.mods=s.mods
  rw[h.mods,e3];exact hn.mods
 ·show s1.funcs=s.funcs
  rw[h.funcs,e4];exact hn.funcs
 ·show s1.ids=s.ids
  rw[h.ids,e5];exact hn.ids
theorem ED(f:Nat):(∀s u s',stmt f s u=some s'→Bw s s')∧(∀s u s',block f s u=some s'→Bw s s')∧(∀s n s',stmts f s n=some s'→Bw s s'):=by
 induction f with
 |zero=>exact⟨fun _ _ _ h=>by simp[stmt] at h,fun _ _ _ h=>by simp[block] at h,fun _ _ _ h=>by simp[stmts] at h⟩
 |succ f ih=>
   obtain⟨ihs,ihb,ihl⟩:=ih;have E:=CJ f;refine⟨fun s u s' h=> ?_,fun s u s' h=> ?_,fun s n s' h=> ?_⟩
   ·rw[stmt] at h
    try dsimp only at h
    by_cases h1:s.next wLet=true
    ·rw[if_pos h1] at h
     generalize hx:((s.step.name.node u (AP 6 (s.step.text 1))).typed.2.Ar s.rows.length (s.step.name.node u (AP 6 (s.step.text 1))).typed.1).need [61]=a at h;have A:Al s a:=by
      rw[←hx];exact((((BS s).trans (Co _)).trans (Av _ _ _ (EG _ _))).trans (Fh _)).trans ((D7 _ _ _).trans (Ao _ _))
     have hr:s.rows.length < a.rows.length:=by
      have g1:Grow (s.step.name.node u (AP 6 (s.step.text 1))) a:=by
       rw[←hx];exact(Ml _).trans ((Gu _ _ _).trans (CV _ _))
      have g2:=g1.len;rw[BI] at g2;have g3:=((grow_step s).trans (Iw _)).len;omega
     cases he:expr f a s.rows.length with
     |none=>rw[he] at h;simp at h
     |some b=>
       rw[he] at h;injection h with h;subst h;have B:=E.1 _ _ _ he;exact(Gm (A.trans B) (AR hr B.grow.len) _ _).trans (Ao _ _).s
    rw[if_neg h1] at h;by_cases h2:s.next wIf=true
    ·rw[if_pos h2] at h
     cases he:expr f (s.step.node u (nd 8)) s.rows.length with
     |none=>rw[he] at h;simp at h
     |some a=>
       rw[he] at h;dsimp only at h;cases hb:block f a s.rows.length with
       |none=>rw[hb] at h;simp at h
       |some b=>
         rw[hb] at h;exact(((BS s).trans (Av _ _ _ (Cn _))).trans (E.1 _ _ _ he)).s.trans ((ihb _ _ _ hb).trans ((Ao _ _).s.trans (ihb _ _ _ h)))
    rw[if_neg h2] at h;by_cases h3:s.next Gh=true
    ·rw[if_pos h3] at h
     cases he:expr f (s.step.node u (nd 9)) s.rows.length with
     |none=>rw[he] at h;simp at h
     |some a=>
       rw[he] at h;exact(((BS s).trans (Av _ _ _ (Cn _))).trans (E.1 _ _ _ he)).s.trans (ihb _ _ _ h)
    rw[if_neg h3] at h;by_cases h4:s.next Gi=true
    ·rw[if_pos h4] at h
     cases he:expr f (s.step.node u (nd 11)) s.rows.length with
     |none=>rw[he] at h;simp at h
     |some a=>
       rw[he] at h;injection h with h;subst h;exact((((BS s).trans (Av _ _ _ (Cn _))).trans (E.1 _ _ _ he)).trans (Ao _ _)).s
    rw[if_neg h4] at h;by_cases h5:s.next wDo=true
    ·rw[if_pos h5] at h
     generalize hx:(s.step.node u (nd 12))=a at h;cases he:call f a.name s.rows.length (a.text 1) with
     |none=>rw[he] at h;simp at h
     |some b=>
       rw[he] at h;injection h with h;subst h;have A:Al s a:=by rw[←hx];exact(BS s).trans (Av _ _ _ (Cn _))
       exact(((A.trans (Co _)).trans (E.2.1 _ _ _ _ he)).trans (Ao _ _)).s
    rw[if_neg h5] at h;generalize hx:(s.name.node u (nd 7))=a at h;have A:Al s a:=by rw[←hx];exact(Co s).trans (Av _ _ _ (Cn _))
    cases he:expr f (((a.find (s.text 1)).2.DR s.rows.length (a.find (s.text 1)).1).need [61]) s.rows.length with
    |none=>rw[he] at h;simp at h
    |some b=>
      rw[he] at h;injection h with h;subst h;exact(((((A.trans (Li _ _)).trans (FU _ _ _)).trans (Ao _ _)).trans (E.1 _ _ _ he)).trans (Ao _ _)).s
   ·rw[block] at h
    try dsimp only at h
    change (if (s.head u).enter.bad=true then some (s.head u).enter.leave.shut else(stmts f ((s.head u).enter.need [123]) s.rows.length).map (fun r=>r.leave.shut))=some s' at h;by_cases hb:(s.head u).enter.bad=true
    ·rw[if_pos hb] at h
     injection h with h;subst h;exact PR (Bw.refl _)
    ·rw[if_neg hb] at h
     cases he:stmts f ((s.head u).enter.need [123]) s.rows.length with
     |none=>rw[he] at h;simp at h
     |some a=>
       rw[he] at h;injection h with h;subst h;exact PR ((Ao _ _).s.trans (ihl _ _ _ he))
   ·rw[stmts] at h
    by_cases hb:s.bad=true
    ·rw[if_pos hb] at h
     injection h with h;subst h;exact Bw.refl _
    rw[if_neg hb] at h;by_cases hn:s.next [125]=true
    ·rw[if_pos hn] at h
     injection h with h;subst h;exact(BS _).s
    rw[if_neg hn] at h;cases he:stmt f s n with
    |none=>rw[he] at h;simp at h
    |some a=>
      rw[he] at h;exact(ihs _ _ _ he).trans (ihl _ _ _ h)
end Rd
namespace Rd
theorem Im:∀(f:Nat) (b:Bool) (s:Rd) (k:Nat) (s':Rd),params f b s k=some s'→Bw s s':=by
 intro f
 induction f with
 |zero=>intro b s k s' h;simp[params] at h
 |succ f ih=>
   intro b s k s' h;rw[params] at h;by_cases hb:s.bad=true
   ·rw[if_pos hb] at h;injection h with h;subst h;exact Bw.refl _
   rw[if_neg hb] at h;by_cases hn:s.next [41]=true
   ·rw[if_pos hn] at h;injection h with h;subst h;exact(BS _).s
   rw[if_neg hn] at h;dsimp only at h;have A0:Al s (if b=true then s else s.need [44]):=by split <;>first|exact Al.refl _|exact Ao _ _
   generalize(if b=true then s else s.need [44])=r at h A0;have hl:(r.name.node k (AP 4 (r.text 1))).rows.length=r.rows.length+1:=by rw[BI,(CZ _).2.2]
   have A:Al s ((r.name.node k (AP 4 (r.text 1))).typed.2.Ar r.rows.length (r.name.node k (AP 4 (r.text 1))).typed.1):=
    ((A0.trans (Co _)).trans (Av _ _ _ (EG _ _))).trans ((Fh _).trans (D7 _ _ _))
   have hr:s.rows.length < ((r.name.node k (AP 4 (r.text 1))).typed.2.Ar r.rows.length (r.name.node k (AP 4 (r.text 1))).typed.1).rows.length:=by
    have g1:=((Ml (r.name.node k (AP 4 (r.text 1)))).trans (Gu _ r.rows.length (r.name.node k (AP 4 (r.text 1))).typed.1)).len;have g2:=A0.grow.len;omega
   exact(Gm A hr _ _).trans (ih _ _ _ _ h)
theorem Ll:∀(f:Nat) (s:Rd) (n:Nat) (s':Rd),body f s n=some s'→Bw s s':=by
 intro f
 induction f with
 |zero=>intro s n s' h;simp[body] at h
 |succ f ih=>
   intro s n s' h;rw[body] at h;by_cases hb:s.bad=true∨s.next BQ=true
   ·rw[if_pos hb] at h;injection h with h;subst h;exact Bw.refl _
   rw[if_neg hb] at h;cases he:stmt f s n with
   |none=>rw[he] at h;simp at h
   |some a=>
     rw[he] at h;exact((ED f).1 _ _ _ he).trans (ih _ _ _ h)
structure EM (s s':Rd):Prop where
 grow:Grow s s'
 inv:Inv s→Inv s'
 deep:s'.deep=s.deep
 mods:s'.mods=s.mods
theorem Bw.f{a b:Rd}(h:Bw a b):EM a b:=⟨h.grow,h.inv,h.deep,h.mods⟩
theorem EM.refl(s:Rd):EM s s:=(Bw.refl s).f
theorem EM.trans{a b c:Rd}(h:EM a b)(k:EM b c):EM a c:=⟨h.grow.trans k.grow,fun x=>k.inv (h.inv x),k.deep.trans h.deep,k.mods.trans h.mods⟩
def Fe(s:Rd)(t:Str)(k:Nat):Rd:={s with funcs:=s.funcs++[t],ids:=s.ids++[s.idAt k],used:=[],seen:=[],level:=0}
theorem Sm{s a:Rd}(A:EM s a)(hf:a.funcs=s.funcs)(hr:s.rows.length < a.rows.length)(t:Str)(k:Nat):EM s (a.Fe t k):=by
 refine⟨A.grow.trans (Bp rfl AA id rfl),fun h=> ?_,A.deep,A.mods⟩;have ha:=A.inv h;exact⟨ha.mods,by show(a.funcs++[t]).length≤_;rw[hf];have:=h.funcs;simp only[List.length_append,List.length_singleton];show _≤a.rows.length;omega,by show(a.ids++[_]).length=(a.funcs++[t]).length;simp[ha.ids],ha.calls,ha.wants,by simp[Fe],by simp[Fe],ha.kids,ha.rid,ha.callr⟩
theorem KL(s:Rd)(b:Bool):Al s (if b=true then s.fault 10 else s):=by split <;>first|exact IU _ _|exact Al.refl _
theorem Sj(f:Nat)(s:Rd)(u:Nat)(m:Str)(s':Rd)(h:func f s u m=some s'):EM s s':=by
 unfold func at h;dsimp only at h;have A1:Al s (s.need C8).name:=(Ao _ _).trans (Co _);generalize(s.need C8).text 1=t at h;generalize(s.need C8).name=a at h A1;have A2:Al s (if inL a.funcs (m++[32]++t)=true then a.fault 10 else a):=A1.trans (KL _ _);generalize(if inL a.funcs (m++[32]++t)=true then a.fault 10 else a)=b at h A2;change (match params f true (((b.node u (AP 3 t)).Fe (m++[32]++t) b.rows.length).need [40]) b.rows.length with
  |none=>none
  |some r=>_)=some s' at h
 have A3:=A2.trans (Av b u (AP 3 t) (EG _ _));have hl:s.rows.length < (b.node u (AP 3 t)).rows.length:=by rw[BI];have:=A2.grow.len;omega
 have A4:EM s ((b.node u (AP 3 t)).Fe (m++[32]++t) b.rows.length):=Sm A3.s.f A3.funcs hl _ _;generalize(b.node u (AP 3 t)).Fe (m++[32]++t) b.rows.length=c at h A4;cases hp:params f true (c.need [40]) b.rows.length with
 |none=>rw[hp] at h;simp at h
 |some p=>
   rw[hp] at h;dsimp only at h;have A5:EM s p:=A4.trans ((Ao _ _).s.trans (Im _ _ _ _ _ hp)).f;have A6:EM s (((p.typed.2.Ar b.rows.length p.typed.1).node b.rows.length (nd 5)).need [123]):=
    A5.trans ((((Fh p).trans (D7 _ _ _)).trans (Av _ _ _ (Cn _))).trans (Ao _ _)).s.f
   generalize((p.typed.2.Ar b.rows.length p.typed.1).node b.rows.length (nd 5)).need [123]=q at h A6;cases hq:body f q (p.typed.2.Ar b.rows.length p.typed.1).rows.length with
   |none=>rw[hq] at h;simp at h
   |some v=>
     rw[hq] at h;dsimp only at h;have A7:=A6.trans (Ll _ _ _ _ hq).f;cases hx:expr f ((v.need BQ).node (p.typed.2.Ar b.rows.length p.typed.1).rows.length (nd 10)) (v.need BQ).rows.length with
     |none=>rw[hx] at h;simp at h
     |some x=>
       rw[hx] at h;injection h with h;subst h;exact A7.trans (((((Ao v BQ).trans (Av _ _ _ (Cn _))).trans ((CJ f).1 _ _ _ hx)).trans (Ao _ _)).trans (Ao _ _)).s.f
end Rd
namespace Rd
theorem Gw(f:Nat):∀(g:Nat) (s:Rd) (m:Nat) (t:Str) (s':Rd),BX f g s m t=some s'→EM s s':=by
 intro g
 induction g with
 |zero=>intro s m t s' h;simp[BX] at h
 |succ g ih=>
   intro s m t s' h;rw[BX] at h;by_cases hb:s.bad=true
   ·rw[if_pos hb] at h;injection h with h;subst h;exact EM.refl _
   rw[if_neg hb] at h;by_cases hn:s.next [125]=true
   ·rw[if_pos hn] at h;injection h with h;subst h;exact(BS _).s.f
   rw[if_neg hn] at h;cases he:func f s m t with
   |none=>rw[he] at h;simp at h
   |some a=>
     rw[he] at h;exact(Sj _ _ _ _ _ he).trans (ih _ _ _ _ h)
structure MInv (s:Rd):Prop where
 inv:Inv s
 lt:s.mods.length < s.rows.length
theorem Lh{s a:Rd}(h:MInv s)(e:Al s a):MInv a:=⟨e.inv h.inv,by rw[e.mods];exact AR h.lt e.grow.len⟩
theorem Nl{s:Rd}(h:MInv s)(t:Str):Inv {s with mods:=s.mods++[t]}:=
 ⟨by simp;exact h.lt,h.inv.funcs,h.inv.ids,h.inv.calls,h.inv.wants,h.inv.used,h.inv.seen,h.inv.kids,h.inv.rid,h.inv.callr⟩
theorem Ki{s:Rd}(h:Inv s)(u:Nat)(n:Node)(hn:n.kids=[]):MInv (s.node u n):=⟨QM h u n hn,by rw[BI];have:=h.mods;show s.mods.length < _;omega⟩
theorem SX{s a:Rd}(h:MInv s)(e:EM s a):MInv a:=⟨e.inv h.inv,by rw[e.mods];exact AR h.lt e.grow.len⟩
theorem IK(f:Nat):∀(g:Nat) (s:Rd) (root:Nat) (s':Rd),Bo f g s root=some s'→Grow s s'∧s'.deep=s.deep∧(MInv s→MInv s'):=by
 intro g
 induction g with
 |zero=>intro s r s' h;simp[Bo] at h
 |succ g ih=>
   intro s root s' h;rw[Bo] at h;by_cases hb:s.bad=true∨s.L.length≤s.at_
   ·rw[if_pos hb] at h;injection h with h;subst h;exact⟨Grow.refl _,rfl,id⟩
   rw[if_neg hb] at h;dsimp only at h;have A1:Al s (s.need Cb).name:=(Ao _ _).trans (Co _);generalize(s.need Cb).text 1=t at h;generalize(s.need Cb).name=a at h A1;have A2:Al s (if inL a.mods t=true then a.fault 10 else a):=A1.trans (KL _ _);generalize(if inL a.mods t=true then a.fault 10 else a)=b at h A2;generalize hc:({b with mods:=b.mods++[t]}:Rd)=c at h;have gc:Grow b c:=by rw[←hc];exact Bp rfl AA id rfl
   have dc:c.deep=b.deep:=by rw[←hc]
   cases he:BX f f ((c.node root (AP 2 t)).need [123]) b.rows.length t with
   |none=>rw[he] at h;simp at h
   |some d=>
     rw[he] at h;obtain⟨g1,d1,m1⟩:=ih _ _ _ h;have F:=Gw _ _ _ _ _ _ he;have N:=Av c root (AP 2 t) (EG _ _);have D:=Ao (c.node root (AP 2 t)) [123];refine⟨A2.grow.trans (gc.trans (N.grow.trans (D.grow.trans (F.grow.trans g1)))), ?_,fun hm=>m1 (SX (Lh (Ki ?_ _ _ (EG _ _)) D) F)⟩
     ·rw[d1,F.deep,D.deep,N.deep,dc,A2.deep]
     ·rw[←hc];exact Nl (Lh hm A2) t
theorem Sc:∀(is:List Nat) (ws:List Str) (s:Rd),Al s (link is ws s):=by
 intro is
 induction is with
 |nil=>intro ws s;cases ws <;>exact Al.refl _
 |cons i is ih=>
   intro ws s;cases ws with
   |nil=>exact Al.refl _
   |cons t ws=>
     rw[link];refine Al.trans ?_ (ih ws _);refine Al.trans ?_ (FU _ _ _)
     split <;>first|exact IU _ _|exact Al.refl _
end Rd
namespace Rd
def mu(s:Rd):Nat:=if s.bad=true then 0 else s.L.length-s.at_+1
theorem YR{s:Rd}(h:s.bad=true):s.mu=0:=by unfold mu;rw[if_pos h]
theorem Lg{s:Rd}(h:¬s.bad=true):s.mu=s.L.length-s.at_+1:=by unfold mu;rw[if_neg h]
theorem F9{s:Rd}(h:¬s.bad=true):1≤s.mu:=by rw[Lg h];omega
def Q(d e:Nat)(s s':Rd):Prop:=s'.mu≤s.mu-d∧s'.rows.length≤s.rows.length+e∧s'.at_+2*s'.mu≤s.at_+2*s.mu
def W(d e:Nat)(s s':Rd):Prop:=s'.mu≤s.mu-d∧s'.rows.length+3*s'.mu≤s.rows.length+3*s.mu+e∧s'.at_+2*s'.mu≤s.at_+2*s.mu
theorem ES{s s':Rd}(hL:s'.L=s.L)(ha:s'.at_=s.at_)(hb:s.bad=true→s'.bad=true)(hr:s'.rows.length=s.rows.length):Q 0 0 s s':=by
 have h:s'.mu≤s.mu:=by
  unfold mu;rw[hL,ha];by_cases h1:s.bad=true
  ·rw[if_pos h1,if_pos (hb h1)];omega
  ·rw[if_neg h1];split <;>omega
 refine⟨by omega,by omega,by rw[ha];omega⟩
theorem Tx{s:Rd}{k:Nat}(h:s.text k≠[]):¬s.bad=true∧s.at_ < s.L.length:=by
 unfold text at h;by_cases hb:s.bad=true
 ·rw[if_pos hb] at h;exact absurd rfl h
 ·rw[if_neg hb] at h
  refine⟨hb, ?_⟩;cases hg:s.L[s.at_]? with
  |none=>rw[hg] at h;exact absurd rfl h
  |some t=>exact(Ai.1 hg).1
theorem GL{s:Rd}{k:Nat}(h:s.text k≠[]):s.step.mu+1=s.mu∧s.step.at_=s.at_+1∧s.step.rows.length=s.rows.length:=by
 obtain⟨hb,ha⟩:=Tx h;refine⟨?_,rfl,rfl⟩;rw[Lg hb,Lg (s:=s.step) hb];show s.L.length-(s.at_+1)+1+1=s.L.length-s.at_+1;omega
theorem VW(s:Rd):s.step.mu≤s.mu∧s.step.at_=s.at_+1∧s.step.rows.length=s.rows.length:=by
 refine⟨?_,rfl,rfl⟩;unfold mu;show(if s.bad=true then 0 else s.L.length-(s.at_+1)+1)≤_
 split <;>omega
theorem UZ{s:Rd}{t:Str}(ht:t≠[])(h:s.next t=true):∃k,s.text k≠[]:=by
 unfold next at h;rw[Bool.or_eq_true] at h;rcases h with h|h
 ·exact⟨3,by rw[beq_iff_eq.1 h];exact ht⟩
 ·exact⟨4,by rw[beq_iff_eq.1 h];exact ht⟩
theorem Bn{s:Rd}{t:Str}(ht:t≠[])(h:s.next t=true):s.step.mu+1=s.mu∧s.step.at_=s.at_+1∧s.step.rows.length=s.rows.length:=by
 obtain⟨k,hk⟩:=UZ ht h;exact GL hk
theorem Jo(s:Rd):s.setBad.mu=0∧s.setBad.rows.length=s.rows.length∧s.setBad.at_=s.at_:=⟨YR rfl,rfl,rfl⟩
theorem Cq(s:Rd){t:Str}(ht:t≠[]):Q 1 0 s (s.need t):=by
 unfold need;split
 ·rename_i h
  obtain⟨h1,h2,h3⟩:=Bn ht h;exact⟨by omega,by omega,by omega⟩
 ·obtain⟨h1,h2,h3⟩:=Jo s
  exact⟨by omega,by omega,by omega⟩
theorem JX(s:Rd):Q 1 0 s s.name:=by
 unfold name;split
 ·obtain⟨h1,h2,h3⟩:=Jo s
  exact⟨by omega,by omega,by omega⟩
 ·rename_i h
  obtain⟨h1,h2,h3⟩:=GL h;exact⟨by omega,by omega,by omega⟩
theorem OV(s:Rd):Q 1 0 s s.typed.2:=by
 unfold typed;split
 ·rename_i h
  obtain⟨h1,h2,h3⟩:=Bn (by decide) h;show Q 1 0 s s.step;exact⟨by omega,by omega,by omega⟩
 ·exact Cq s (by decide)
theorem Cx(s:Rd)(u:Nat)(n:Node):(s.node u n).mu=s.mu∧(s.node u n).rows.length=s.rows.length+1∧(s.node u n).at_=s.at_:=⟨rfl,BI s u n,rfl⟩
theorem KC(s:Rd)(e:Nat):Q 0 0 s (s.fault e):=by
 unfold fault;split
 ·exact ES rfl rfl id rfl
 ·exact ES rfl rfl id rfl
theorem WV(s:Rd)(t:Str):Q 0 0 s (s.find t).2:=by
 unfold find;split
 ·exact ES rfl rfl id rfl
 ·exact KC s _
theorem KZ(s:Rd)(k t:Nat):Q 0 0 s (s.Ar k t):=ES rfl rfl id (by simp[Ar])
theorem MB(s:Rd)(k t:Nat):Q 0 0 s (s.DR k t):=ES rfl rfl id (by simp[DR])
theorem VZ(s:Rd)(k:Nat)(t:Int):Q 0 0 s (s.Bv k t):=ES rfl rfl id (by simp[Bv])
theorem OH(s:Rd)(t:Str)(k:Nat):Q 0 0 s (s.declare t k):=by
 unfold declare;dsimp only;split
 ·have h:=KC s 10
  exact⟨h.1,h.2.1,h.2.2⟩
 ·exact ES rfl rfl id rfl
theorem Lj(s:Rd):Q 0 0 s s.enter:=by
 unfold enter;dsimp only;split
 ·exact ES rfl rfl (fun _=>rfl) rfl
 ·exact ES rfl rfl id rfl
theorem Fv(s:Rd):s.leave.mu=s.mu∧s.leave.rows=s.rows∧s.leave.at_=s.at_:=⟨rfl,rfl,rfl⟩
theorem Vr:opOf []=0:=by decide
theorem N9(f:Nat):(∀s u,3*s.mu+1≤f→∃s',expr f s u=some s'∧W 1 0 s s')∧(∀s u m,3*s.mu+3≤f→∃s',call f s u m=some s'∧W 1 1 s s')∧
 (∀b s n,3*s.mu+2≤f→∃s',args f b s n=some s'∧W 0 0 s s'):=by
 induction f with
 |zero=>exact⟨fun s _ h=>by omega,fun s _ _ h=>by omega,fun _ s _ h=>by omega⟩
 |succ f ih=>
   obtain⟨ihe,ihc,iha⟩:=ih;refine⟨fun s u hf=> ?_,fun s u m hf=> ?_,fun b s n hf=> ?_⟩
   ·rw[expr]
    by_cases h2:s.text 2≠[]
    ·rw[if_pos h2]
     obtain⟨a1,a2,a3⟩:=GL h2;obtain⟨b1,b2,b3⟩:=Cx s.step u (LC 13 (CL (s.text 2)));exact⟨_,rfl,by omega,by omega,by omega⟩
    rw[if_neg h2];by_cases h1:s.text 1≠[]
    ·rw[if_pos h1]
     try dsimp only
     obtain⟨a1,a2,a3⟩:=GL h1;by_cases hd:s.step.next [46]=true
     ·rw[if_pos hd]
      obtain⟨s',e,c1,c2,c3⟩:=ihc s.step u (s.text 1) (by omega);exact⟨s',e,by omega,by omega,by omega⟩
     ·rw[if_neg hd]
      obtain⟨b1,b2,b3⟩:=Cx s.step u (nd 15);obtain⟨c1,c2,c3⟩:=WV (s.step.node u (nd 15)) (s.text 1);obtain⟨d1,d2,d3⟩:=MB ((s.step.node u (nd 15)).find (s.text 1)).2 s.step.rows.length ((s.step.node u (nd 15)).find (s.text 1)).1;exact⟨_,rfl,by omega,by omega,by omega⟩
    rw[if_neg h1];by_cases ht:s.next I7=true
    ·rw[if_pos ht]
     obtain⟨a1,a2,a3⟩:=Bn (by decide) ht;obtain⟨b1,b2,b3⟩:=Cx s.step u (LC 14 1);exact⟨_,rfl,by omega,by omega,by omega⟩
    rw[if_neg ht];by_cases hfa:s.next F6=true
    ·rw[if_pos hfa]
     obtain⟨a1,a2,a3⟩:=Bn (by decide) hfa;obtain⟨b1,b2,b3⟩:=Cx s.step u (nd 14);exact⟨_,rfl,by omega,by omega,by omega⟩
    rw[if_neg hfa];by_cases hr:s.next I8=true
    ·rw[if_pos hr]
     obtain⟨a1,a2,a3⟩:=Bn (by decide) hr;obtain⟨b1,b2,b3⟩:=Cx s.step u (nd 20);exact⟨_,rfl,by omega,by omega,by omega⟩
    rw[if_neg hr];by_cases hn:s.next [33]=true∨s.next [45]=true
    ·rw[if_pos hn]
     have hst:s.step.mu+1=s.mu∧s.step.at_=s.at_+1∧s.step.rows.length=s.rows.length:=by
      rcases hn with h|h
      ·exact Bn (by decide) h
      ·exact Bn (by decide) h
     obtain⟨a1,a2,a3⟩:=hst
     try dsimp only
     generalize(if s.next [33]=true then 16 else 17)=kind;obtain⟨b1,b2,b3⟩:=Cx s.step u (nd kind);obtain⟨c1,c2,c3⟩:=Lj (s.step.node u (nd kind));by_cases hb:(s.step.node u (nd kind)).enter.bad=true
     ·rw[if_pos hb]
      obtain⟨d1,d2,d3⟩:=Fv (s.step.node u (nd kind)).enter;exact⟨_,rfl,by omega,by rw[d2];omega,by omega⟩
     ·rw[if_neg hb]
      obtain⟨s',e,e1,e2,e3⟩:=ihe (s.step.node u (nd kind)).enter s.rows.length (by omega);rw[e];obtain⟨d1,d2,d3⟩:=Fv s';exact⟨_,rfl,by omega,by rw[d2];omega,by omega⟩
    rw[if_neg hn];by_cases hp:s.next [40]=true
    ·rw[if_pos hp]
     obtain⟨a1,a2,a3⟩:=Bn (by decide) hp
     try dsimp only
     obtain⟨b1,b2,b3⟩:=Cx s.step u (nd 18);obtain⟨c1,c2,c3⟩:=Lj (s.step.node u (nd 18));by_cases hb:(s.step.node u (nd 18)).enter.bad=true
     ·rw[if_pos hb]
      obtain⟨d1,d2,d3⟩:=Fv (s.step.node u (nd 18)).enter;exact⟨_,rfl,by omega,by rw[d2];omega,by omega⟩
     ·rw[if_neg hb]
      obtain⟨s1,e,e1,e2,e3⟩:=ihe (s.step.node u (nd 18)).enter s.rows.length (by omega);rw[e]
      try dsimp only
      obtain⟨g1,g2,g3⟩:=VZ s1 s.rows.length (opOf (s1.text 4):Nat);have hmid:∀m,m=(if opOf (s1.text 4)=0 then(s1.Bv s.rows.length (opOf (s1.text 4):Nat)).setBad else s1.Bv s.rows.length (opOf (s1.text 4):Nat)).step→
       m.mu≤s1.mu∧m.rows.length≤s1.rows.length∧m.at_+2*m.mu≤s1.at_+2*s1.mu+1:=by
       intro m hm;subst hm;by_cases h0:opOf (s1.text 4)=0
       ·rw[if_pos h0]
        obtain⟨k1,k2,k3⟩:=Jo (s1.Bv s.rows.length (opOf (s1.text 4):Nat));obtain⟨l1,l2,l3⟩:=VW (s1.Bv s.rows.length (opOf (s1.text 4):Nat)).setBad;exact⟨by omega,by omega,by omega⟩
       ·rw[if_neg h0]
        have h4:s1.text 4≠[]:=fun hh=>by rw[hh] at h0;exact h0 Vr
        obtain⟨l1,l2,l3⟩:=GL (s:=s1.Bv s.rows.length (opOf (s1.text 4):Nat)) (k:=4) h4;exact⟨by omega,by omega,by omega⟩
      obtain⟨m1,m2,m3⟩:=hmid _ rfl;generalize(if opOf (s1.text 4)=0 then(s1.Bv s.rows.length (opOf (s1.text 4):Nat)).setBad else s1.Bv s.rows.length (opOf (s1.text 4):Nat)).step=m at m1 m2 m3⊢;obtain⟨s2,n,n1,n2,n3⟩:=ihe m s.rows.length (by omega);rw[n];obtain⟨o1,o2,o3⟩:=Cq s2 (t:=[41]) (by decide);obtain⟨d1,d2,d3⟩:=Fv (s2.need [41]);exact⟨_,rfl,by omega,by rw[d2];omega,by omega⟩
    rw[if_neg hp];obtain⟨k1,k2,k3⟩:=Jo s;exact⟨_,rfl,by omega,by omega,by omega⟩
   ·rw[call]
    try dsimp only
    obtain⟨a1,a2,a3⟩:=Cx s u (nd 19);obtain⟨b1,b2,b3⟩:=Cq (s.node u (nd 19)) (t:=[46]) (by decide);obtain⟨c1,c2,c3⟩:=JX ((s.node u (nd 19)).need [46]);have hq:∀(cl:List Nat) (wl:List Str),Q 0 0 ((s.node u (nd 19)).need [46]).name {((s.node u (nd 19)).need [46]).name with calls:=cl,wants:=wl}:=fun _ _=>ES rfl rfl id rfl;obtain⟨d1,d2,d3⟩:=hq (((s.node u (nd 19)).need [46]).name.calls++[((s.node u (nd 19)).need [46]).name.idAt s.rows.length]) (((s.node u (nd 19)).need [46]).name.wants++[m++[32]++((s.node u (nd 19)).need [46]).text 1]);generalize({((s.node u (nd 19)).need [46]).name with calls:=((s.node u (nd 19)).need [46]).name.calls++[((s.node u (nd 19)).need [46]).name.idAt s.rows.length],wants:=((s.node u (nd 19)).need [46]).name.wants++[m++[32]++((s.node u (nd 19)).need [46]).text 1]}:Rd)=b at d1 d2 d3⊢;obtain⟨e1,e2,e3⟩:=Lj b;by_cases hb:b.enter.bad=true
    ·rw[if_pos hb]
     obtain⟨g1,g2,g3⟩:=Fv b.enter;exact⟨_,rfl,by omega,by rw[g2];omega,by omega⟩
    ·rw[if_neg hb]
     obtain⟨k1,k2,k3⟩:=Cq b.enter (t:=[40]) (by decide);have:=F9 hb;obtain⟨s1,e,l1,l2,l3⟩:=iha true (b.enter.need [40]) s.rows.length (by omega);rw[e];obtain⟨g1,g2,g3⟩:=Fv s1;exact⟨_,rfl,by omega,by rw[g2];omega,by omega⟩
   ·rw[args]
    by_cases hb:s.bad=true
    ·rw[if_pos hb]
     exact⟨_,rfl,by omega,by omega,by omega⟩
    rw[if_neg hb];by_cases hn:s.next [41]=true
    ·rw[if_pos hn]
     obtain⟨a1,a2,a3⟩:=Bn (by decide) hn;exact⟨_,rfl,by omega,by omega,by omega⟩
    rw[if_neg hn];have hq:Q 0 0 s (if b=true then s else s.need [44]):=by
     split
     ·exact⟨by omega,by omega,by omega⟩
     ·obtain⟨k1,k2,k3⟩:=Cq s (t:=[44]) (by decide)
      exact⟨by omega,by omega,by omega⟩
    obtain⟨a1,a2,a3⟩:=hq;have:=F9 hb;obtain⟨s1,e,b1,b2,b3⟩:=ihe (if b=true then s else s.need [44]) n (by omega);rw[e]
    try dsimp only
    obtain⟨s2,e2,c1,c2,c3⟩:=iha false s1 n (by omega);exact⟨s2,e2,by omega,by omega,by omega⟩
theorem UB(f:Nat):(∀s u,3*s.mu+3≤f→∃s',stmt f s u=some s'∧W 1 (if s.bad=true then 1 else 0) s s')∧(∀s u,3*s.mu+3≤f→∃s',block f s u=some s'∧W 0 1 s s')∧
 (∀s n,3*s.mu+4≤f→∃s',stmts f s n=some s'∧W 0 0 s s'):=by
 induction f with
 |zero=>exact⟨fun s _ h=>by omega,fun s _ h=>by omega,fun s _ h=>by omega⟩
 |succ f ih=>
   obtain⟨ihs,ihb,ihl⟩:=ih;obtain⟨ihe,ihc,_⟩:=N9 f;refine⟨fun s u hf=> ?_,fun s u hf=> ?_,fun s n hf=> ?_⟩
   ·rw[stmt]
    try dsimp only
    have hw:(0:Nat)≤(if s.bad=true then 1 else 0):=Nat.zero_le _;generalize hwe:(if s.bad=true then 1 else 0)=wx at hw⊢;by_cases h1:s.next wLet=true
    ·rw[if_pos h1]
     obtain⟨a1,a2,a3⟩:=Bn (by decide) h1;obtain⟨b1,b2,b3⟩:=JX s.step;obtain⟨c1,c2,c3⟩:=Cx s.step.name u (AP 6 (s.step.text 1));obtain⟨d1,d2,d3⟩:=OV (s.step.name.node u (AP 6 (s.step.text 1)));obtain⟨e1,e2,e3⟩:=KZ (s.step.name.node u (AP 6 (s.step.text 1))).typed.2 s.rows.length (s.step.name.node u (AP 6 (s.step.text 1))).typed.1;obtain⟨g1,g2,g3⟩:=Cq ((s.step.name.node u (AP 6 (s.step.text 1))).typed.2.Ar s.rows.length (s.step.name.node u (AP 6 (s.step.text 1))).typed.1) (t:=[61]) (by decide);generalize(((s.step.name.node u (AP 6 (s.step.text 1))).typed.2.Ar s.rows.length (s.step.name.node u (AP 6 (s.step.text 1))).typed.1).need [61])=a at g1 g2 g3⊢;obtain⟨b,e,k1,k2,k3⟩:=ihe a s.rows.length (by omega);rw[e];obtain⟨l1,l2,l3⟩:=OH b (s.step.text 1) s.rows.length;obtain⟨m1,m2,m3⟩:=Cq (b.declare (s.step.text 1) s.rows.length) (t:=[59]) (by decide);exact⟨_,rfl,by omega,by omega,by omega⟩
    rw[if_neg h1];by_cases h2:s.next wIf=true
    ·rw[if_pos h2]
     obtain⟨a1,a2,a3⟩:=Bn (by decide) h2;obtain⟨c1,c2,c3⟩:=Cx s.step u (nd 8);obtain⟨a,e,k1,k2,k3⟩:=ihe (s.step.node u (nd 8)) s.rows.length (by omega);rw[e]
     try dsimp only
     obtain⟨b,e2,l1,l2,l3⟩:=ihb a s.rows.length (by omega);rw[e2]
     try dsimp only
     obtain⟨m1,m2,m3⟩:=Cq b (t:=Jg) (by decide);obtain⟨c,e4,n1,n2,n3⟩:=ihb (b.need Jg) s.rows.length (by omega);exact⟨c,e4,by omega,by omega,by omega⟩
    rw[if_neg h2];by_cases h3:s.next Gh=true
    ·rw[if_pos h3]
     obtain⟨a1,a2,a3⟩:=Bn (by decide) h3;obtain⟨c1,c2,c3⟩:=Cx s.step u (nd 9);obtain⟨a,e,k1,k2,k3⟩:=ihe (s.step.node u (nd 9)) s.rows.length (by omega);rw[e]
     try dsimp only
     obtain⟨b,e2,l1,l2,l3⟩:=ihb a s.rows.length (by omega);exact⟨b,e2,by omega,by omega,by omega⟩
    rw[if_neg h3];by_cases h4:s.next Gi=true
    ·rw[if_pos h4]
     obtain⟨a1,a2,a3⟩:=Bn (by decide) h4;obtain⟨c1,c2,c3⟩:=Cx s.step u (nd 11);obtain⟨a,e,k1,k2,k3⟩:=ihe (s.step.node u (nd 11)) s.rows.length (by omega);rw[e];obtain⟨m1,m2,m3⟩:=Cq a (t:=[59]) (by decide);exact⟨a.need [59],rfl,by omega,by omega,by omega⟩
    rw[if_neg h4];by_cases h5:s.next wDo=true
    ·rw[if_pos h5]
     obtain⟨a1,a2,a3⟩:=Bn (by decide) h5;obtain⟨c1,c2,c3⟩:=Cx s.step u (nd 12);obtain⟨d1,d2,d3⟩:=JX (s.step.node u (nd 12));obtain⟨a,e,k1,k2,k3⟩:=ihc (s.step.node u (nd 12)).name s.rows.length ((s.step.node u (nd 12)).text 1) (by omega);rw[e];obtain⟨m1,m2,m3⟩:=Cq a (t:=[59]) (by decide);exact⟨a.need [59],rfl,by omega,by omega,by omega⟩
    rw[if_neg h5];have hx:s.mu=0→wx=1:=fun h0=>by
     rw[←hwe];by_cases hb:s.bad=true
     ·rw[if_pos hb]
     ·have:=F9 hb;omega
    obtain⟨a1,a2,a3⟩:=JX s;obtain⟨c1,c2,c3⟩:=Cx s.name u (nd 7);obtain⟨d1,d2,d3⟩:=WV (s.name.node u (nd 7)) (s.text 1);obtain⟨e1,e2,e3⟩:=MB ((s.name.node u (nd 7)).find (s.text 1)).2 s.rows.length ((s.name.node u (nd 7)).find (s.text 1)).1;obtain⟨g1,g2,g3⟩:=Cq (((s.name.node u (nd 7)).find (s.text 1)).2.DR s.rows.length ((s.name.node u (nd 7)).find (s.text 1)).1) (t:=[61]) (by decide);generalize((((s.name.node u (nd 7)).find (s.text 1)).2.DR s.rows.length ((s.name.node u (nd 7)).find (s.text 1)).1).need [61])=a at g1 g2 g3⊢;obtain⟨b,e,k1,k2,k3⟩:=ihe a s.rows.length (by omega);rw[e];obtain⟨m1,m2,m3⟩:=Cq b (t:=[59]) (by decide);refine⟨b.need [59],rfl,by omega, ?_,by omega⟩;by_cases h0:s.mu=0
    ·have:=hx h0;omega
    ·omega
   ·rw[block]
    try dsimp only
    obtain⟨a1,a2,a3⟩:=Cx s u (nd 5);have hq:Q 0 0 (s.node u (nd 5)) ({(s.node u (nd 5)) with level:=(s.node u (nd 5)).level+1}:Rd):=ES rfl rfl id rfl;obtain⟨b1,b2,b3⟩:=hq;generalize({(s.node u (nd 5)) with level:=(s.node u (nd 5)).level+1}:Rd)=b at b1 b2 b3⊢;obtain⟨c1,c2,c3⟩:=Lj b;by_cases hb:b.enter.bad=true
    ·rw[if_pos hb]
     obtain⟨d1,d2,d3⟩:=Fv b.enter;exact⟨_,rfl,by show b.enter.leave.mu≤_;omega,by show b.enter.leave.rows.length+3*b.enter.leave.mu≤_;rw[d2];omega,by show b.enter.leave.at_+2*b.enter.leave.mu≤_;omega⟩
    ·rw[if_neg hb]
     have:=F9 hb;obtain⟨k1,k2,k3⟩:=Cq b.enter (t:=[123]) (by decide);obtain⟨a,e,l1,l2,l3⟩:=ihl (b.enter.need [123]) s.rows.length (by omega);rw[e];obtain⟨d1,d2,d3⟩:=Fv a;exact⟨_,rfl,by show a.leave.mu≤_;omega,by show a.leave.rows.length+3*a.leave.mu≤_;rw[d2];omega,by show a.leave.at_+2*a.leave.mu≤_;omega⟩
   ·rw[stmts]
    by_cases hb:s.bad=true
    ·rw[if_pos hb]
     exact⟨_,rfl,by omega,by omega,by omega⟩
    rw[if_neg hb];by_cases hn:s.next [125]=true
    ·rw[if_pos hn]
     obtain⟨a1,a2,a3⟩:=Bn (by decide) hn;exact⟨_,rfl,by omega,by omega,by omega⟩
    rw[if_neg hn];have:=F9 hb;obtain⟨a,e,k1,k2,k3⟩:=ihs s n (by omega);rw[if_neg hb] at k2;rw[e]
    try dsimp only
    obtain⟨b,e2,l1,l2,l3⟩:=ihl a n (by omega);exact⟨b,e2,by omega,by omega,by omega⟩
theorem Pn:∀(f:Nat) (b:Bool) (s:Rd) (k:Nat),s.mu+1≤f→∃s',params f b s k=some s'∧W 0 0 s s':=by
 intro f
 induction f with
 |zero=>intro b s k h;omega
 |succ f ih=>
   intro b s k hf;rw[params];by_cases hb:s.bad=true
   ·rw[if_pos hb]
    exact⟨_,rfl,by omega,by omega,by omega⟩
   rw[if_neg hb];by_cases hn:s.next [41]=true
   ·rw[if_pos hn]
    obtain⟨a1,a2,a3⟩:=Bn (by decide) hn;exact⟨_,rfl,by omega,by omega,by omega⟩
   rw[if_neg hn]
   try dsimp only
   have hm:=F9 hb;have hq:Q 0 0 s (if b=true then s else s.need [44]):=by
    split
    ·exact⟨by omega,by omega,by omega⟩
    ·obtain⟨k1,k2,k3⟩:=Cq s (t:=[44]) (by decide)
     exact⟨by omega,by omega,by omega⟩
   have hx:(if b=true then s else s.need [44]).mu=0→(if b=true then s else s.need [44]).mu < s.mu:=fun h=>by omega
   obtain⟨z1,z2,z3⟩:=hq;generalize(if b=true then s else s.need [44])=r at z1 z2 z3 hx⊢;obtain⟨b1,b2,b3⟩:=JX r;obtain⟨c1,c2,c3⟩:=Cx r.name k (AP 4 (r.text 1));obtain⟨d1,d2,d3⟩:=OV (r.name.node k (AP 4 (r.text 1)));obtain⟨e1,e2,e3⟩:=KZ (r.name.node k (AP 4 (r.text 1))).typed.2 r.rows.length (r.name.node k (AP 4 (r.text 1))).typed.1;obtain⟨l1,l2,l3⟩:=OH ((r.name.node k (AP 4 (r.text 1))).typed.2.Ar r.rows.length (r.name.node k (AP 4 (r.text 1))).typed.1) (r.text 1) r.rows.length;obtain⟨s',e,m1,m2,m3⟩:=ih false (((r.name.node k (AP 4 (r.text 1))).typed.2.Ar r.rows.length (r.name.node k (AP 4 (r.text 1))).typed.1).declare (r.text 1) r.rows.length) k (by omega);exact⟨s',e,by omega,by omega,by omega⟩
theorem U8:∀(f:Nat) (s:Rd) (n:Nat),3*s.mu+4≤f→∃s',body f s n=some s'∧W 0 0 s s':=by
 intro f
 induction f with
 |zero=>intro s n h;omega
 |succ f ih=>
   intro s n hf;rw[body];by_cases hb:s.bad=true∨s.next BQ=true
   ·rw[if_pos hb]
    exact⟨_,rfl,by omega,by omega,by omega⟩
   rw[if_neg hb];have hbb:¬s.bad=true:=fun h=>hb (.inl h);have:=F9 hbb;obtain⟨a,e,k1,k2,k3⟩:=(UB f).1 s n (by omega);rw[if_neg hbb] at k2;rw[e]
   try dsimp only
   obtain⟨b,e2,l1,l2,l3⟩:=ih a n (by omega);exact⟨b,e2,by omega,by omega,by omega⟩
theorem Uk(f:Nat)(s:Rd)(u:Nat)(m:Str)(hb:¬s.bad=true)(hf:3*s.mu+4≤f):∃s',func f s u m=some s'∧W 1 0 s s':=by
 unfold func
 try dsimp only
 have hm:=F9 hb;obtain⟨a1,a2,a3⟩:=Cq s (t:=C8) (by decide);obtain⟨b1,b2,b3⟩:=JX (s.need C8);generalize(s.need C8).text 1=t;generalize(s.need C8).name=a at b1 b2 b3⊢;have hq:Q 0 0 a (if inL a.funcs (m++[32]++t)=true then a.fault 10 else a):=by
  split
  ·exact KC a 10
  ·exact⟨by omega,by omega,by omega⟩
 obtain⟨c1,c2,c3⟩:=hq;generalize(if inL a.funcs (m++[32]++t)=true then a.fault 10 else a)=b at c1 c2 c3⊢;change∃s',(match params f true (((b.node u (AP 3 t)).Fe (m++[32]++t) b.rows.length).need [40]) b.rows.length with
  |none=>none
  |some r=>_)=some s'∧_
 obtain⟨d1,d2,d3⟩:=Cx b u (AP 3 t);have hq2:Q 0 0 (b.node u (AP 3 t)) ((b.node u (AP 3 t)).Fe (m++[32]++t) b.rows.length):=ES rfl rfl id rfl;obtain⟨e1,e2,e3⟩:=hq2;generalize(b.node u (AP 3 t)).Fe (m++[32]++t) b.rows.length=c at e1 e2 e3⊢;obtain⟨g1,g2,g3⟩:=Cq c (t:=[40]) (by decide);obtain⟨p,hp,k1,k2,k3⟩:=Pn f true (c.need [40]) b.rows.length (by omega);rw[hp]
 try dsimp only
 obtain⟨l1,l2,l3⟩:=OV p;obtain⟨m1,m2,m3⟩:=KZ p.typed.2 b.rows.length p.typed.1;obtain⟨n1,n2,n3⟩:=Cx (p.typed.2.Ar b.rows.length p.typed.1) b.rows.length (nd 5);obtain⟨o1,o2,o3⟩:=Cq ((p.typed.2.Ar b.rows.length p.typed.1).node b.rows.length (nd 5)) (t:=[123]) (by decide);generalize((p.typed.2.Ar b.rows.length p.typed.1).node b.rows.length (nd 5)).need [123]=q at o1 o2 o3⊢;obtain⟨v,hv,p1,p2,p3⟩:=U8 f q (p.typed.2.Ar b.rows.length p.typed.1).rows.length (by omega);rw[hv]
 try dsimp only
 obtain⟨q1,q2,q3⟩:=Cq v (t:=BQ) (by decide);obtain⟨r1,r2,r3⟩:=Cx (v.need BQ) (p.typed.2.Ar b.rows.length p.typed.1).rows.length (nd 10);obtain⟨x,hx,s1,s2,s3⟩:=(N9 f).1 ((v.need BQ).node (p.typed.2.Ar b.rows.length p.typed.1).rows.length (nd 10)) (v.need BQ).rows.length (by omega);rw[hx];obtain⟨t1,t2,t3⟩:=Cq x (t:=[59]) (by decide);obtain⟨u1,u2,u3⟩:=Cq (x.need [59]) (t:=[125]) (by decide);exact⟨_,rfl,by omega,by omega,by omega⟩
theorem Ms(f:Nat):∀(g:Nat) (s:Rd) (m:Nat) (t:Str),3*s.mu+4≤f→s.mu+1≤g→∃s',BX f g s m t=some s'∧W 0 0 s s':=by
 intro g
 induction g with
 |zero=>intro s m t h h2;omega
 |succ g ih=>
   intro s m t hf hg;rw[BX];by_cases hb:s.bad=true
   ·rw[if_pos hb]
    exact⟨_,rfl,by omega,by omega,by omega⟩
   rw[if_neg hb];by_cases hn:s.next [125]=true
   ·rw[if_pos hn]
    obtain⟨a1,a2,a3⟩:=Bn (by decide) hn;exact⟨_,rfl,by omega,by omega,by omega⟩
   rw[if_neg hn];have:=F9 hb;obtain⟨a,e,k1,k2,k3⟩:=Uk f s m t hb hf;rw[e]
   try dsimp only
   obtain⟨b,e2,l1,l2,l3⟩:=ih a m t (by omega) (by omega);exact⟨b,e2,by omega,by omega,by omega⟩
theorem NI(f:Nat):∀(g:Nat) (s:Rd) (root:Nat),3*s.mu+4≤f→s.mu+1≤g→∃s',Bo f g s root=some s'∧W 0 0 s s':=by
 intro g
 induction g with
 |zero=>intro s r h h2;omega
 |succ g ih=>
   intro s root hf hg;rw[Bo];by_cases hb:s.bad=true∨s.L.length≤s.at_
   ·rw[if_pos hb]
    exact⟨_,rfl,by omega,by omega,by omega⟩
   rw[if_neg hb]
   try dsimp only
   have hbb:¬s.bad=true:=fun h=>hb (.inl h);have:=F9 hbb;obtain⟨a1,a2,a3⟩:=Cq s (t:=Cb) (by decide);obtain⟨b1,b2,b3⟩:=JX (s.need Cb);generalize(s.need Cb).text 1=t;generalize(s.need Cb).name=a at b1 b2 b3⊢;have hq:Q 0 0 a (if inL a.mods t=true then a.fault 10 else a):=by
    split
    ·exact KC a 10
    ·exact⟨by omega,by omega,by omega⟩
   obtain⟨c1,c2,c3⟩:=hq;generalize(if inL a.mods t=true then a.fault 10 else a)=b at c1 c2 c3⊢;have hq2:Q 0 0 b ({b with mods:=b.mods++[t]}:Rd):=ES rfl rfl id rfl;obtain⟨d1,d2,d3⟩:=hq2;generalize({b with mods:=b.mods++[t]}:Rd)=c at d1 d2 d3⊢;obtain⟨e1,e2,e3⟩:=Cx c root (AP 2 t);obtain⟨g1,g2,g3⟩:=Cq (c.node root (AP 2 t)) (t:=[123]) (by decide);obtain⟨d,hd,k1,k2,k3⟩:=Ms f f ((c.node root (AP 2 t)).need [123]) b.rows.length t (by omega) (by omega);rw[hd]
   try dsimp only
   obtain⟨x,hx,l1,l2,l3⟩:=ih d root (by omega) (by omega);exact⟨x,hx,by omega,by omega,by omega⟩
theorem YT:∀(is:List Nat) (ws:List Str) (s:Rd),Q 0 0 s (link is ws s):=by
 intro is
 induction is with
 |nil=>intro ws s;cases ws <;>exact⟨by simp[link],by simp[link],by simp[link]⟩
 |cons i is ih=>
   intro ws s;cases ws with
   |nil=>exact⟨by simp[link],by simp[link],by simp[link]⟩
   |cons t ws=>
     rw[link]
     try dsimp only
     have hq:Q 0 0 s (if lastOf s.funcs s.ids t=0 then s.fault 9 else s):=by
      split
      ·exact KC s 9
      ·exact⟨by omega,by omega,by omega⟩
     obtain⟨a1,a2,a3⟩:=hq;obtain⟨b1,b2,b3⟩:=MB (if lastOf s.funcs s.ids t=0 then s.fault 9 else s) (i-1) (lastOf s.funcs s.ids t);obtain⟨c1,c2,c3⟩:=ih ws ((if lastOf s.funcs s.ids t=0 then s.fault 9 else s).DR (i-1) (lastOf s.funcs s.ids t));exact⟨by omega,by omega,by omega⟩
theorem Od(f:Nat)(l:List Tok)(hf:3*l.length+10≤f):∃s',program f (BP l)=some s'∧s'.rows.length≤3*l.length+4∧s'.at_≤2*l.length+2:=by
 unfold program
 try dsimp only
 have h0:(BP l).mu=l.length+1:=Lg (by simp[BP]);have h1:(BP l).rows.length=0:=rfl;have h2:(BP l).at_=0:=rfl;obtain⟨a1,a2,a3⟩:=Cx (BP l) 0 (nd 1);obtain⟨s1,e,b1,b2,b3⟩:=NI f f ((BP l).node 0 (nd 1)) (BP l).rows.length (by omega) (by omega);rw[e];obtain⟨c1,c2,c3⟩:=YT s1.calls s1.wants s1;exact⟨_,rfl,by omega,by omega⟩
end Rd
end Hg
