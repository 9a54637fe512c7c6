/-
  A part of the proof.
-/
import Derived.Test.YtfgnfpdfohjopaaGreatDoorKgBH
set_option linter.all false
namespace Hg
open Go.Proofs.YtfgnfpdfohjopaaGreatDoor (idxI)
def F3(id:Nat):List Row→Nat×Int
 |[]=>(0,0)
 |r::rows=>if 0≤idxI r.node.kids id∧((F3 id rows).1=0∨r.id < (F3 id rows).1) then(r.id,idxI r.node.kids id) else F3 id rows
theorem Jd(id:Nat):∀(rows:List Row),(∀r∈rows,r.id≠0)→
 ((F3 id rows).1=0∧(F3 id rows).2=0∧∀r∈rows,idxI r.node.kids id < 0)∨
 ((F3 id rows).1≠0∧(∃r∈rows,r.id=(F3 id rows).1∧idxI r.node.kids id=(F3 id rows).2∧0≤(F3 id rows).2)∧∀r∈rows,0≤idxI r.node.kids id→(F3 id rows).1≤r.id)
 |[],_=> .inl ⟨rfl,rfl,fun r h=>by simp at h⟩
 |r::rows,h0=>by
   have ih:=Jd id rows (fun x hx=>h0 x (List.mem_cons_of_mem _ hx));rw[F3];generalize F3 id rows=b at ih;obtain⟨p,k⟩:=b;dsimp only at ih⊢;have hr0:=h0 r (by simp);by_cases hc:0≤idxI r.node.kids id∧(p=0∨r.id < p)
   ·rw[if_pos hc]
    right;refine⟨hr0,⟨r,by simp,rfl,rfl,hc.1⟩,fun x hx h=> ?_⟩;rcases List.mem_cons.1 hx with e|hx
    ·subst e;exact AA
    ·rcases ih with⟨h1,h2,h3⟩|⟨h1,h2,h3⟩
     ·have:=h3 x hx;omega
     ·have:=h3 x hx h
      show r.id≤x.id;omega
   ·rw[if_neg hc]
    rcases ih with⟨h1,h2,h3⟩|⟨h1,⟨x,hx,h2⟩,h3⟩
    ·left
     refine⟨h1,h2,fun x hx=> ?_⟩;rcases List.mem_cons.1 hx with e|hx
     ·subst e;omega
     ·exact h3 x hx
    ·right
     refine⟨h1,⟨x,List.mem_cons_of_mem _ hx,h2⟩,fun y hy h=> ?_⟩;rcases List.mem_cons.1 hy with e|hy
     ·subst e;omega
     ·exact h3 y hy h
structure EZ (rows:List Row):Prop where
 nodup:(rows.map Row.id).Nodup
 zero:∀r∈rows,r.id≠0
 top:∀r∈rows,r.id < 18446744073709551616
theorem Be{rows:List Row}(h:EZ rows){i:Nat}{n:Node}:rowM rows i=some n↔∃r∈rows,r.id=i∧r.node=n:=by
 unfold rowM;constructor
 ·intro he
  cases hf:rows.find? (fun r=>r.id==i) with
  |none=>rw[hf] at he;cases he
  |some r=>
    rw[hf] at he;injection he with he;exact⟨r,List.mem_of_find?_eq_some hf,by simpa using List.find?_some hf,he⟩
 ·rintro⟨r,hr,rfl,rfl⟩
  rw[QR rows h.nodup r hr];rfl
theorem ER{rows:List Row}(h:EZ rows):rowM rows 0=none:=by
 cases hm:rowM rows 0 with
 |none=>rfl
 |some n=>
   obtain⟨r,hr,h0,_⟩:=(Be h).1 hm;exact absurd h0 (h.zero r hr)
def parR(rows:List Row)(id:Nat):Nat×Int:=F3 id rows
def abvL(rows:List Row):Nat→Nat→Nat
 |0,_=>0
 |f+1,id=>if id=0 then 0 else match rowM rows id with
   |none=>0
   |some n=>if n.kind=3 then id else abvL rows f (parR rows id).1
def abvR(rows:List Row)(id:Nat):Nat:=abvL rows (id+1) id
structure TrM (M:Nat→Option Node) (n:Nat):Prop where
 dom:∀i,(M i).isSome=true↔1≤i∧i≤n
 kid:∀i a,M i=some a→∀k∈a.kids,i < k∧k≤n
 nodup:∀i a,M i=some a→a.kids.Nodup
 par:∀i j a b k,M i=some a→M j=some b→k∈a.kids→k∈b.kids→i=j
 has:∀k,2≤k→k≤n→∃i a,M i=some a∧k∈a.kids
theorem Ae(l:List Row)(id:Nat):ndAt (rowM l) id=AO l id:=by
 unfold ndAt rowM AO;cases l.find? fun r=>r.id==id with
 |none=>rfl
 |some r=>rfl
theorem Tr.ids{l:List Row}(h:Tr l):l.map Row.id=List.range' 1 l.length:=by
 apply List.ext_getElem
 ·simp
 ·intro k h1 h2
  simp only[List.getElem_map,List.getElem_range',Nat.one_mul];have hk:k < l.length:=by simpa using h1
  rw[h.rid k l[k] (AY hk)];omega
theorem Tr.rows{l:List Row}(h:Tr l)(hl:l.length≤20000):EZ l:=by
 have hi:=h.ids;have hm:∀r∈l,1≤r.id∧r.id≤l.length:=fun r hr=>by
  obtain⟨k,hk,rfl⟩:=List.getElem_of_mem hr;rw[h.rid k l[k] (AY hk)];omega
 refine⟨by rw[hi];exact List.nodup_range',fun r hr=>by have:=hm r hr;omega,fun r hr=>by have:=hm r hr;omega⟩
theorem Tr.get{l:List Row}(h:Tr l)(hl:l.length≤20000){i:Nat}{a:Node}:rowM l i=some a↔∃r,l[i-1]? =some r∧1≤i∧r.node=a:=by
 rw[Be (h.rows hl)];constructor
 ·rintro⟨r,hr,hid,hn⟩
  obtain⟨k,hk,rfl⟩:=List.getElem_of_mem hr;have h0:=h.rid k l[k] (AY hk);subst hid;refine⟨l[k], ?_,by omega,hn⟩;rw[h0,Nat.add_sub_cancel];exact AY hk
 ·rintro⟨r,hr,h1,hn⟩
  exact⟨r,List.mem_of_getElem? hr,by rw[h.rid _ _ hr];omega,hn⟩
theorem Tr.trM{l:List Row}(h:Tr l)(hl:l.length≤20000)(h0:0 < l.length):TrM (rowM l) l.length:=by
 have hp:((l.flatMap fun r=>r.node.kids)).Nodup:=h.perm.nodup_iff.2 List.nodup_range';have hpw:=List.pairwise_flatMap.1 (show List.Pairwise (· ≠ ·) (l.flatMap fun r=>r.node.kids) from hp);refine⟨fun i=> ?_,fun i a hi k hk=> ?_,fun i a hi=> ?_,fun i j a b k hi hj ha hb=> ?_,fun k h2 hn=> ?_⟩
 ·constructor
  ·intro hs
   obtain⟨a,ha⟩:=Option.isSome_iff_exists.1 hs;obtain⟨r,hr,h1,_⟩:=(h.get hl).1 ha;have:=(Ai.1 hr).1;omega
  ·rintro⟨h1,h2⟩
   have:rowM l i=some (l[i-1]'(by omega)).node:=(h.get hl).2 ⟨_,AY (by omega),h1,rfl⟩;rw[this];rfl
 ·obtain⟨r,hr,h1,rfl⟩:=(h.get hl).1 hi
  have:=h.up _ _ hr k hk;omega
 ·obtain⟨r,hr,h1,rfl⟩:=(h.get hl).1 hi
  exact hpw.1 r (List.mem_of_getElem? hr)
 ·obtain⟨r,hr,h1,rfl⟩:=(h.get hl).1 hi
  obtain⟨q,hq,h2,rfl⟩:=(h.get hl).1 hj;have e1:=(Ai.1 hr);have e2:=(Ai.1 hq);obtain⟨l1,rfl⟩:=e1;obtain⟨l2,rfl⟩:=e2;rcases Nat.lt_trichotomy (i-1) (j-1) with hlt|heq|hlt
  ·exact absurd rfl ((List.pairwise_iff_getElem.1 hpw.2) (i-1) (j-1) l1 l2 hlt k ha k hb)
  ·omega
  ·exact absurd rfl ((List.pairwise_iff_getElem.1 hpw.2) (j-1) (i-1) l2 l1 hlt k hb k ha)
 ·have hm:k∈l.flatMap fun r=>r.node.kids:=h.perm.mem_iff.2 (by rw[List.mem_range'_1];omega)
  obtain⟨r,hr,hk⟩:=List.mem_flatMap.1 hm;obtain⟨i,hi,rfl⟩:=List.getElem_of_mem hr;exact⟨i+1,l[i].node,(h.get hl).2 ⟨l[i],by rw[Nat.add_sub_cancel];exact AY hi,by omega,rfl⟩,hk⟩
section
variable {M:Nat→Option Node} {n:Nat} (hT:TrM M n) (hn:n≤20000) {H:Nat→Nat→Prop}
 (hH0:∀i,¬H 0 i) (hHs:∀j i a,M i=some a→H (j+1) i→∀k∈a.kids,H j k)
structure Lv (M:Nat→Option Node) (n:Nat) (H:Nat→Nat→Prop) (Dn:Nat→Prop) (pre:List Nat) (deep:List (Nat×Nat)):Prop where
 vis:∀i,(gl deep i).isSome=true↔i=1∨(∃p a,Dn p∧M p=some a∧i∈a.kids)∨i∈pre
 keys:(deep.map Prod.fst).Nodup
 bnd:∀p∈deep,1≤p.1∧p.1≤n
 dep:∀i d,gl deep i=some d→1≤d∧H (201-d) i
theorem Db(l:List (Nat×Nat))(i:Nat):(gl l i).isSome=true↔i∈l.map Prod.fst:=by
 induction l with
 |nil=>simp[gl]
 |cons p l ih=>
   obtain⟨k,v⟩:=p;rw[Eg];by_cases e:k=i
   ·subst e;simp
   ·rw[if_neg (by simpa using e)]
    simp only[List.map_cons,List.mem_cons,ih];constructor
    ·exact fun h=> .inr h
    ·rintro(h|h)
     ·exact absurd h.symm e
     ·exact h
theorem MQ:∀(n:Nat) (l:List Nat),l.Nodup→(∀x∈l,1≤x∧x≤n)→l.length≤n:=fun n l hd hb=>by
 have:l.length≤(List.range' 1 n).length:=by
  have:=List.Nodup.length_le_of_subset hd (l₂:=List.range' 1 n) (fun x hx=>by rw[List.mem_range'_1];have:=hb x hx;omega);exact this
 simpa using this
include hT hn hH0 hHs in
theorem PO{id:Nat}{nd:Node}(hid:M id=some nd){Dn:Nat→Prop}(hD:¬Dn id):
 ∀(ks pre:List Nat) (deep:List (Nat×Nat)) (next:List Nat),nd.kids=pre++ks→Lv M n H Dn (next) deep→(∀k∈ks,k∉next)→(gl deep id).isSome=true→next.length < deep.length→
   ∃deep',Jk M id ks deep next=some (deep',next++ks)∧Lv M n H Dn (next++ks) deep'∧(next++ks).length < deep'.length
 |[],pre,deep,next,hk,hL,_,hv,hlen=>⟨deep,by simp[Jk],by simpa using hL,by simpa using hlen⟩
 |k::ks,pre,deep,next,hk,hL,hnx,hv,hlen=>by
   have hkm:k∈nd.kids:=by rw[hk];simp
   obtain⟨hk1,hkn⟩:=hT.kid id nd hid k hkm;have hidp:=(hT.dom id).1 (by rw[hid];rfl);have hknew:(gl deep k).isSome=false:=by
    cases h:(gl deep k).isSome with
    |false=>rfl
    |true=>
      rcases(hL.vis k).1 h with h|⟨p,a,hp,ha,hka⟩|h
      ·omega
      ·exact absurd (hT.par p id a nd k ha hid hka hkm ▸ hp) hD
      ·exact absurd h (hnx k (by simp))
   have hMk:(M k).isNone=false:=by
    have:=(hT.dom k).2 (by omega);cases hm:M k with
    |none=>rw[hm] at this;cases this
    |some _=>rfl
   obtain⟨d0,hd0⟩:=Option.isSome_iff_exists.1 hv;obtain⟨hd1,hdH⟩:=hL.dep id d0 hd0;have hd200:d0 < 200:=by
    rcases Nat.lt_or_ge d0 200 with h|h
    ·exact h
    ·exfalso
     rcases Nat.lt_or_ge 200 d0 with h2|h2
     ·rw[show 201-d0=0 by omega] at hdH
      exact hH0 id hdH
     ·rw[show 201-d0=0+1 by omega] at hdH
      exact hH0 k (hHs 0 id nd hid hdH k hkm)
   have hkey:k∉deep.map Prod.fst:=fun h=>by rw[(Db deep k).2 h] at hknew;cases hknew
   have hdl:deep.length+1≤n:=by
    have:=MQ n (k::deep.map Prod.fst) (List.nodup_cons.2 ⟨hkey,hL.keys⟩) (fun x hx=>by
     rcases List.mem_cons.1 hx with e|e
     ·subst e;omega
     ·obtain⟨p,hp,rfl⟩:=List.mem_map.1 e
      exact hL.bnd p hp)
    simpa using this
   unfold Jk;rw[if_neg (by rw[hknew,hMk,hd0];simp;omega),hd0];have hL':Lv M n H Dn (next++[k]) ((k,(some d0).getD 0+1)::deep):=by
    refine⟨fun i=> ?_,List.nodup_cons.2 ⟨hkey,hL.keys⟩,fun p hp=> ?_,fun i d hi=> ?_⟩
    ·rw[Eg]
     by_cases e:k=i
     ·subst e;simp
     ·rw[if_neg (by simpa using e),hL.vis i]
      constructor
      ·rintro(h|h|h)
       ·exact .inl h
       ·exact .inr (.inl h)
       ·exact .inr (.inr (by simp[h]))
      ·rintro(h|h|h)
       ·exact .inl h
       ·exact .inr (.inl h)
       ·rcases List.mem_append.1 h with h|h
        ·exact .inr (.inr h)
        ·simp at h;exact absurd h.symm e
    ·rcases List.mem_cons.1 hp with e|e
     ·subst e;exact⟨by omega,hkn⟩
     ·exact hL.bnd p e
    ·rw[Eg] at hi
     by_cases e:k=i
     ·subst e
      rw[if_pos (by simp)] at hi;injection hi with hi;subst hi;refine⟨by simp, ?_⟩;show H (201-(d0+1)) k;exact hHs (201-(d0+1)) id nd hid (by rw[show 201-(d0+1)+1=201-d0 by omega];exact hdH) k hkm
     ·rw[if_neg (by simpa using e)] at hi
      exact hL.dep i d hi
   have hkd:(nd.kids).Nodup:=hT.nodup id nd hid;obtain⟨deep',h1,h2,h3⟩:=PO hid hD ks (pre++[k]) ((k,(some d0).getD 0+1)::deep) (next++[k]) (by rw[hk];simp) hL' (fun j hj hm=>by
    rcases List.mem_append.1 hm with h|h
    ·exact hnx j (by simp[hj]) h
    ·simp at h
     subst h;rw[hk] at hkd;have:=(List.nodup_append.1 hkd).2.1;exact(List.nodup_cons.1 this).1 hj) (by
    rw[Eg];by_cases e:k=id
    ·omega
    ·rw[if_neg (by simpa using e)];exact hv) (by simp;omega)
   exact⟨deep',by rw[h1];simp,by simpa using h2,by simpa using h3⟩
def kd(M:Nat→Option Node)(i:Nat):List Nat:=(ndAt M i).kids
theorem GD{M:Nat→Option Node}{p k:Nat}:(∃a,M p=some a∧k∈a.kids)↔k∈kd M p:=by
 unfold kd ndAt;cases h:M p with
 |none=>simp[Node.zero]
 |some a=>simp
include hT hn hH0 hHs in
theorem NQ{Dn:Nat→Prop}:∀(ids done:List Nat) (deep:List (Nat×Nat)),(done++ids).Nodup→(∀i∈ids,¬Dn i∧(gl deep i).isSome=true)→Lv M n H Dn (done.flatMap (kd M)) deep→(done.flatMap (kd M)).length < deep.length→
 ∃deep',FZ M ids deep (done.flatMap (kd M))=some (deep',(done++ids).flatMap (kd M))∧Lv M n H Dn ((done++ids).flatMap (kd M)) deep'∧∀i,(gl deep i).isSome=true→(gl deep' i).isSome=true
 |[],done,deep,hd,hi,hL,hlen=>⟨deep,by simp[FZ],by simpa using hL,fun i h=>h⟩
 |id::ids,done,deep,hd,hi,hL,hlen=>by
   obtain⟨hD,hv⟩:=hi id (by simp);have hid:∃nd,M id=some nd:=by
    have:=hL.bnd;obtain⟨d,hg⟩:=Option.isSome_iff_exists.1 hv;have hm:=(Db deep id).1 hv;obtain⟨p,hp,rfl⟩:=List.mem_map.1 hm;exact Option.isSome_iff_exists.1 ((hT.dom p.1).2 (hL.bnd p hp))
   obtain⟨nd,hid⟩:=hid;have hkd:kd M id=nd.kids:=by unfold kd ndAt;rw[hid];rfl
   have hnot:id∉done:=by
    intro h;have:=(List.nodup_append.1 hd).2.2 id h id (by simp);exact this rfl
   obtain⟨deep1,h1,h2,h3⟩:=PO hT hn hH0 hHs hid hD nd.kids [] deep (done.flatMap (kd M)) rfl hL (fun k hk hm=>by
    obtain⟨q,hq,hkq⟩:=List.mem_flatMap.1 hm;obtain⟨b,hb,hkb⟩:=GD.2 hkq;exact hnot (hT.par q id b nd k hb hid hkb hk ▸ hq)) hv hlen
   have e:done.flatMap (kd M)++nd.kids=(done++[id]).flatMap (kd M):=by rw[List.flatMap_append];simp[hkd]
   rw[e] at h1 h2 h3;have hmono:∀i,(gl deep i).isSome=true→(gl deep1 i).isSome=true:=fun i h=>by
    rw[h2.vis i];rcases(hL.vis i).1 h with h|h|h
    ·exact .inl h
    ·exact .inr (.inl h)
    ·exact .inr (.inr (by rw[←e];exact List.mem_append_left _ h))
   obtain⟨deep',k1,k2,k3⟩:=NQ ids (done++[id]) deep1 (by simpa using hd) (fun i h=>⟨(hi i (by simp[h])).1,hmono i (hi i (by simp[h])).2⟩) h2 h3;refine⟨deep', ?_,by simpa using k2,fun i h=>k3 i (hmono i h)⟩;unfold FZ;rw[show(M id).isNone=false by rw[hid];rfl,if_neg (by simp),show(ndAt M id).kids=nd.kids by unfold ndAt;rw[hid];rfl,h1];simpa using k1
include hT hn hH0 hHs in
theorem R8:∀(m:Nat) (Dl ids:List Nat) (deep:List (Nat×Nat)),n-Dl.length≤m→(Dl++ids).Nodup→(∀i,(gl deep i).isSome=true↔i∈Dl++ids)→Lv M n H (· ∈Dl) [] deep→0 < deep.length→
 ∃R,tRun M (m+2) ids deep=some R∧∀i,(gl R i).isSome=(M i).isSome
 |m,Dl,[],deep,hm,hd,hv,hL,h0=>by
   refine⟨deep,rfl,fun i=> ?_⟩;have hall:∀i,1≤i→i≤n→(gl deep i).isSome=true:=fun i=>by
    induction i using Nat.strongRecOn with
    |_ i ih=>
      intro h1 h2;by_cases e:i=1
      ·exact(hL.vis i).2 (.inl e)
      ·obtain⟨p,a,ha,hk⟩:=hT.has i (by omega) h2
       have hlt:=(hT.kid p a ha i hk).1;have hp:=(hT.dom p).1 (by rw[ha];rfl);have:=(hv p).1 (ih p hlt hp.1 (by omega));exact(hL.vis i).2 (.inr (.inl ⟨p,a,by simpa using this,ha,hk⟩))
   rw[Bool.eq_iff_iff];constructor
   ·intro h
    have hm:=(Db deep i).1 h;obtain⟨p,hp,rfl⟩:=List.mem_map.1 hm;exact(hT.dom p.1).2 (hL.bnd p hp)
   ·intro h
    have:=(hT.dom i).1 h;exact hall i this.1 this.2
 |m,Dl,id::ids,deep,hm,hd,hv,hL,h0=>by
   have hbnd:∀x∈Dl++(id::ids),1≤x∧x≤n:=fun x hx=>by
    have:=(Db deep x).1 ((hv x).2 hx);obtain⟨p,hp,rfl⟩:=List.mem_map.1 this;exact hL.bnd p hp
   have hlen:=MQ n _ hd hbnd;simp only[List.length_append,List.length_cons] at hlen;have hdis:∀i∈id::ids,i∉Dl:=fun i hi h=>(List.nodup_append.1 hd).2.2 i h i hi rfl;obtain⟨deep',h1,h2,h3⟩:=NQ hT hn hH0 hHs (Dn:=(· ∈Dl)) (id::ids) [] deep (by simpa using(List.nodup_append.1 hd).2.1) (fun i hi=>⟨hdis i hi,(hv i).2 (List.mem_append_right _ hi)⟩) hL h0;simp only[List.nil_append,List.flatMap_nil] at h1 h2;cases m with
   |zero=>exfalso;omega
   |succ m=>
   have hkn:∀k,k∈(id::ids).flatMap (kd M)→k∉Dl++(id::ids):=fun k hk hm=>by
    obtain⟨q,hq,hkq⟩:=List.mem_flatMap.1 hk;obtain⟨b,hb,hkb⟩:=GD.2 hkq;have h4:=(hT.kid q b hb k hkb).1;have hq1:=(hT.dom q).1 (by rw[hb];rfl);rcases(hL.vis k).1 ((hv k).2 hm) with h|⟨p,a,hp,ha,hka⟩|h
    ·omega
    ·exact hdis q hq (hT.par p q a b k ha hb hka hkb ▸ hp)
    ·simp at h
   have hnd:((id::ids).flatMap (kd M)).Nodup:=by
    refine List.pairwise_flatMap.2 ⟨fun q hq=> ?_, ?_⟩
    ·obtain⟨b,hb⟩:=Option.isSome_iff_exists.1 ((hT.dom q).2 (hbnd q (List.mem_append_right _ hq)))
     have:kd M q=b.kids:=by unfold kd ndAt;rw[hb];rfl
     rw[this];exact hT.nodup q b hb
    ·refine List.Pairwise.imp ?_ (List.nodup_append.1 hd).2.1
     intro p q hpq x hx y hy e;subst e;obtain⟨a,ha,hxa⟩:=GD.2 hx;obtain⟨b,hb,hxb⟩:=GD.2 hy;exact hpq (hT.par p q a b x ha hb hxa hxb)
   have hvis':∀i,(gl deep' i).isSome=true↔i∈(Dl++(id::ids))++(id::ids).flatMap (kd M):=fun i=>by
    rw[h2.vis i,List.mem_append,←hv i,hL.vis i];constructor
    ·rintro(h|h|h)
     ·exact .inl (.inl h)
     ·exact .inl (.inr (.inl h))
     ·exact .inr h
    ·rintro((h|h|h)|h)
     ·exact .inl h
     ·exact .inr (.inl h)
     ·simp at h
     ·exact .inr (.inr h)
   obtain⟨R,hR,hall⟩:=R8 m (Dl++(id::ids)) ((id::ids).flatMap (kd M)) deep' (by simp;omega) (List.nodup_append.2 ⟨hd,hnd,fun a ha b hb e=>hkn b hb (e ▸ ha)⟩) hvis' ⟨fun i=>by
    rw[h2.vis i];constructor
    ·rintro(h|⟨p,a,hp,ha⟩|h)
     ·exact .inl h
     ·exact .inr (.inl ⟨p,a,List.mem_append_left _ hp,ha⟩)
     ·obtain⟨q,hq,hkq⟩:=List.mem_flatMap.1 h
      obtain⟨b,hb,hkb⟩:=GD.2 hkq;exact .inr (.inl ⟨q,b,List.mem_append_right _ hq,hb,hkb⟩)
    ·rintro(h|⟨p,a,hp,ha,hk⟩|h)
     ·exact .inl h
     ·rcases List.mem_append.1 hp with hp|hp
      ·exact .inr (.inl ⟨p,a,hp,ha,hk⟩)
      ·exact .inr (.inr (List.mem_flatMap.2 ⟨p,hp,GD.1 ⟨a,ha,hk⟩⟩))
     ·simp at h,h2.keys,h2.bnd,h2.dep⟩ (by
    have:(gl deep' id).isSome=true:=(hvis' id).2 (by simp);cases deep' with
    |nil=>simp[gl] at this
    |cons _ _=>simp)
   refine⟨R, ?_,hall⟩;show(match FZ M (id::ids) deep [] with|none=>none|some r=>tRun M (m+2) r.2 r.1)=some R;rw[h1];exact hR
end
theorem Gl(l:List Row):∀(rs:List Row) (n m:Nat),Ch l rs n=some m→∀r∈rs,r.node.ref=0∨(atI l r.node.ref).isSome=true
 |[],n,m,h,r,hr=>by simp at hr
 |q::rs,n,m,h,r,hr=>by
   unfold Ch at h;by_cases hc:q.node.ref≠0∧atI l q.node.ref=none
   ·rw[if_pos hc] at h;cases h
   rw[if_neg hc] at h;cases hk:Ci l q.node.kids n with
   |none=>rw[hk] at h;cases h
   |some k=>
     rw[hk] at h;rcases List.mem_cons.1 hr with e|e
     ·subst e
      by_cases h0:r.node.ref=0
      ·exact .inl h0
      ·right
       cases ha:atI l r.node.ref with
       |none=>exact absurd ⟨h0,ha⟩ hc
       |some _=>rfl
     ·exact Gl l rs k m h r e
theorem Qz{l:List Row}(hT:Tr l)(hl:l.length≤20000)(ht:tree l=true)(href:∀r∈l,r.node.ref < 18446744073709551616):∃F R,OL (rowM l) F R:=by
 unfold tree at ht;cases h1:atI l 1 with
 |none=>rw[h1] at ht;cases ht
 |some k=>
   rw[h1] at ht;dsimp only at ht;by_cases hc:(rowAt l k).node.kind≠1∨(walk l 1).length≠l.length
   ·rw[if_pos hc] at ht;cases ht
   rw[if_neg hc] at ht;cases h2:Ch l l 0 with
   |none=>rw[h2] at ht;cases ht
   |some m=>
     rw[h2] at ht;simp only[Bool.and_eq_true,decide_eq_true_eq] at ht;have h0:0 < l.length:=by
      have:=(KN l 1).1 (by rw[h1];rfl);cases l with
      |nil=>simp at this
      |cons _ _=>simp
     have hM:=hT.trM hl h0;have hkids:∀i a,rowM l i=some a→CU l ((atI l i).getD 0)=a.kids:=fun i a ha=>by
      have e:AO l i=a:=by rw[←Ae];unfold ndAt;rw[ha];rfl
      cases hk:atI l i with
      |none=>rw[CS l i hk] at e;subst e;have:=CS l i hk;unfold rowM at ha;rw[J8,hk] at ha;cases ha
      |some j=>rw[DF l i j hk] at e;show(rowAt l j).node.kids=_;rw[e]
     obtain⟨nd,hnd⟩:=Option.isSome_iff_exists.1 ((hM.dom 1).2 (by omega));obtain⟨R,hR,hall⟩:=R8 hM hl (H:=fun j i=>0 < Cu l j i) (fun i h=>by simp[Cu] at h) (fun j i a ha h k hk=>(Ga l j i).1 h k (by rw[hkids i a ha];exact hk))
      l.length [] [1] [(1,1)] (by simp) (by simp) (fun i=>by
       rw[Db];simp) ⟨fun i=>by rw[Db];simp,by simp,fun p hp=>by simp at hp;subst hp;exact⟨AA,h0⟩,fun i d hd=>by
       rw[Eg] at hd;by_cases e:1=i
       ·subst e
        simp at hd;subst hd;exact⟨AA,ht.2⟩
       ·rw[if_neg (by simpa using e)] at hd
        simp[gl] at hd⟩ (by simp)
     refine⟨_,R,⟨nd,hnd, ?_⟩,hR,hall,fun i a ha=> ?_⟩
     ·have e:AO l 1=nd:=by rw[←Ae];unfold ndAt;rw[hnd];rfl
      rw[DF l 1 k h1] at e;rw[←e];exact Classical.byContradiction fun h=>hc (.inl h)
     ·obtain⟨r,hr,hid,rfl⟩:=(Be (hT.rows hl)).1 ha
      refine⟨href r hr, ?_⟩;by_cases h0:r.node.ref=0
      ·exact .inl h0
      ·right
       rcases Gl l l 0 m h2 r hr with h|h
       ·exact absurd h h0
       ·have:=(KN l r.node.ref).1 h
        rw[hT.ids,List.mem_range'_1] at this;exact(hM.dom _).2 (by omega)
theorem Jm{l:List Row}:∀{rs:List Row},CK l rs=true→∀r∈rs,Ce l r=true
 |[],_,r,hr=>by simp at hr
 |q::rs,h,r,hr=>by
   unfold CK at h;by_cases hq:Ce l q=false
   ·rw[if_pos hq] at h;cases h
   rw[if_neg hq] at h;rcases List.mem_cons.1 hr with e|e
   ·subst e;simpa using hq
   ·exact Jm h r e
theorem Fa{l:List Row}:∀{rs:List Row},CY l rs=some true→∀r∈rs,r.node.kind=3→∃d,DI l 201 r.id=some d∧d≤90
 |[],_,r,hr=>by simp at hr
 |q::rs,h,r,hr=>by
   unfold CY at h;intro hk;rcases List.mem_cons.1 hr with e|e
   ·subst e
    rw[if_pos hk] at h;cases hd:DI l 201 r.id with
    |none=>rw[hd] at h;cases h
    |some d=>
      rw[hd] at h;dsimp only at h;by_cases h9:90 < d
      ·rw[if_pos h9] at h;cases h
      ·exact⟨d,rfl,by omega⟩
   ·by_cases h3:q.node.kind=3
    ·rw[if_pos h3] at h
     cases hd:DI l 201 q.id with
     |none=>rw[hd] at h;cases h
     |some d=>
       rw[hd] at h;dsimp only at h;by_cases h9:90 < d
       ·rw[if_pos h9] at h;cases h
       ·rw[if_neg h9] at h;exact Fa h r e hk
    ·rw[if_neg h3] at h;exact Fa h r e hk
theorem Gp{l:List Row}(h:shaped l=some true):tree l=true∧(∀r∈l,Ce l r=true)∧∀r∈l,r.node.kind=3→∃d,DI l 201 r.id=some d∧d≤90:=by
 unfold shaped at h;by_cases h1:tree l=false
 ·rw[if_pos h1] at h;cases h
 rw[if_neg h1] at h;by_cases h2:CK l l=false
 ·rw[if_pos h2] at h;cases h
 rw[if_neg h2] at h;exact⟨by simpa using h1,Jm (by simpa using h2),Fa h⟩
structure Td (l:List Row) (r:Row):Prop where
 lo:1≤r.node.kind
 hi:r.node.kind≤20
 root:r.node.kind=1↔r.id=1
 fit:fits r.node.kind (classes l r.node.kids) (decide (kindOf l (parentOf l r.id).1=3))=true
 named:isNamed r.node.kind=(r.node.name !=[])
 name:isNamed r.node.kind=true→Cj r.node.name=true∧inL words r.node.name=false
 typed:(isNamed r.node.kind && decide (r.node.kind≠2))=(decide (r.node.type=1)||decide (r.node.type=2))
 notype:(isNamed r.node.kind && decide (r.node.kind≠2))=false→r.node.type=0
 ref7:r.node.kind=7∨r.node.kind=15→kindOf l r.node.ref=4∨kindOf l r.node.ref=6
 ref19:r.node.kind=19→kindOf l r.node.ref=3
 ref0:r.node.kind≠7→r.node.kind≠15→r.node.kind≠19→r.node.ref=0
 num13:r.node.kind=13→0≤r.node.num
 num14:r.node.kind=14→0≤r.node.num∧r.node.num≤1
 num18:r.node.kind=18→1≤r.node.num∧r.node.num≤13
 num0:r.node.kind≠13→r.node.kind≠14→r.node.kind≠18→r.node.num=0
theorem Ka{l:List Row}{r:Row}(h:Ce l r=true):Td l r:=by
 unfold Ce at h;dsimp only at h;by_cases h1:r.node.kind < 1∨20 < r.node.kind∨decide (r.node.kind=1)≠decide (r.id=1)∨fits r.node.kind (classes l r.node.kids) (decide (kindOf l (parentOf l r.id).1=3))=false
 ·rw[if_pos h1] at h;cases h
 rw[if_neg h1] at h;by_cases h2:isNamed r.node.kind≠(r.node.name !=[])∨isNamed r.node.kind=true∧(Cj r.node.name=false∨inL words r.node.name=true)
 ·rw[if_pos h2] at h;cases h
 rw[if_neg h2] at h;by_cases h3:(isNamed r.node.kind && decide (r.node.kind≠2))≠(decide (r.node.type=1)||decide (r.node.type=2))∨(isNamed r.node.kind && decide (r.node.kind≠2))=false∧r.node.type≠0
 ·rw[if_pos h3] at h;cases h
 rw[if_neg h3] at h;have a1:1≤r.node.kind:=by omega
 have a2:r.node.kind≤20:=by omega
 have a3:decide (r.node.kind=1)=decide (r.id=1):=Classical.byContradiction fun h=>h1 (.inr (.inr (.inl h)));have a4:fits r.node.kind (classes l r.node.kids) (decide (kindOf l (parentOf l r.id).1=3))=true:=by
  cases hf:fits r.node.kind (classes l r.node.kids) (decide (kindOf l (parentOf l r.id).1=3)) with
  |true=>rfl
  |false=>exact absurd (.inr (.inr (.inr hf))) h1
 have b1:isNamed r.node.kind=(r.node.name !=[]):=Classical.byContradiction fun h=>h2 (.inl h);have b2:isNamed r.node.kind=true→Cj r.node.name=true∧inL words r.node.name=false:=fun hn=>by
  constructor
  ·cases h8:Cj r.node.name with
   |true=>rfl
   |false=>exact absurd (.inr ⟨hn,.inl h8⟩) h2
  ·cases h8:inL words r.node.name with
   |false=>rfl
   |true=>exact absurd (.inr ⟨hn,.inr h8⟩) h2
 have c1:=Classical.byContradiction fun h=>h3 (.inl h);have c2:(isNamed r.node.kind && decide (r.node.kind≠2))=false→r.node.type=0:=fun hn=>Classical.byContradiction fun h=>h3 (.inr ⟨hn,h⟩);have base:∀{p q t u v w x:Prop},p→q→t→u→v→w→x→p∧q∧t∧u∧v∧w∧x:=fun a b c d e f g=>⟨a,b,c,d,e,f,g⟩;have rest:(r.node.kind=7∨r.node.kind=15→kindOf l r.node.ref=4∨kindOf l r.node.ref=6)∧(r.node.kind=19→kindOf l r.node.ref=3)∧(r.node.kind≠7→r.node.kind≠15→r.node.kind≠19→r.node.ref=0)∧(r.node.kind=13→0≤r.node.num)∧(r.node.kind=14→0≤r.node.num∧r.node.num≤1)∧(r.node.kind=18→1≤r.node.num∧r.node.num≤13)∧(r.node.kind≠13→r.node.kind≠14→r.node.kind≠18→r.node.num=0):=by
  by_cases k7:r.node.kind=7∨r.node.kind=15
  ·rw[if_pos k7] at h
   by_cases hk:kindOf l r.node.ref≠4∧kindOf l r.node.ref≠6
   ·rw[if_pos hk] at h;cases h
   ·rw[if_neg hk] at h
    have:=of_decide_eq_true h;exact base (fun _=>by omega) (fun _=>by omega) (fun _ _=>by omega) (fun _=>by omega) (fun _=>by omega) (fun _=>by omega) (fun _ _ _=>this)
  rw[if_neg k7] at h;by_cases k19:r.node.kind=19
  ·rw[if_pos k19] at h
   by_cases hk:kindOf l r.node.ref≠3
   ·rw[if_pos hk] at h;cases h
   ·rw[if_neg hk] at h
    have:=of_decide_eq_true h;exact base (fun _=>by omega) (fun _=>by omega) (fun _ _=>by omega) (fun _=>by omega) (fun _=>by omega) (fun _=>by omega) (fun _ _ _=>this)
  rw[if_neg k19] at h;by_cases hr:r.node.ref≠0
  ·rw[if_pos hr] at h;cases h
  rw[if_neg hr] at h;have hr:r.node.ref=0:=by omega
  by_cases k13:r.node.kind=13
  ·rw[if_pos k13] at h
   have:=of_decide_eq_true h;exact base (fun _=>by omega) (fun _=>by omega) (fun _ _ _=>hr) (fun _=>this) (fun _=>by omega) (fun _=>by omega) (fun _ _ _=>by omega)
  rw[if_neg k13] at h;by_cases k14:r.node.kind=14
  ·rw[if_pos k14] at h
   have:=of_decide_eq_true h;exact base (fun _=>by omega) (fun _=>by omega) (fun _ _ _=>hr) (fun _=>by omega) (fun _=>this) (fun _=>by omega) (fun _ _ _=>by omega)
  rw[if_neg k14] at h;by_cases k18:r.node.kind=18
  ·rw[if_pos k18] at h
   have:=of_decide_eq_true h;exact base (fun _=>by omega) (fun _=>by omega) (fun _ _ _=>hr) (fun _=>by omega) (fun _=>by omega) (fun _=>this) (fun _ _ _=>by omega)
  rw[if_neg k18] at h;have:=of_decide_eq_true h;exact base (fun _=>by omega) (fun _=>by omega) (fun _ _ _=>hr) (fun _=>by omega) (fun _=>by omega) (fun _=>by omega) (fun _ _ _=>this)
 obtain⟨r1,r2,r3,r4,r5,r6,r7⟩:=rest;refine⟨a1,a2,⟨fun h=> ?_,fun h=> ?_⟩,a4,b1,b2,c1,c2,r1,r2,r3,r4,r5,r6,r7⟩
 ·rw[decide_eq_true h] at a3;exact of_decide_eq_true a3.symm
 ·rw[decide_eq_true h] at a3;exact of_decide_eq_true a3
theorem MN{s t:Str}(h:only s t=true){i:Nat}{c:UInt8}(hi:s[i]? =some c):c∈t:=by
 have:=List.all_eq_true.1 h c (List.mem_of_getElem? hi);obtain⟨x,hx,e⟩:=List.any_eq_true.1 this;rw[beq_iff_eq] at e;exact e ▸ hx
theorem LQ(k:Nat):(CW k=77→k=2)∧(CW k=70→k=3)∧(CW k=80→k=4)∧(CW k=66→k=5)∧(CW k=83→stP k)∧(CW k=82→k=10)∧(CW k=69∨CW k=67→exP k)∧(CW k=67→k=19):=by
 have no:∀{a b:UInt8} {p:Prop},a≠b→(a=b→p):=fun h e=>absurd e h;have no2:∀{a b c d:UInt8} {p:Prop},a≠b→c≠d→(a=b∨c=d→p):=fun h h' e=>e.elim (absurd · h) (absurd · h');unfold CW stP exP;by_cases h1:k=19
 ·rw[if_pos h1];subst h1;decide
 rw[if_neg h1];by_cases h2:EI k=true
 ·rw[if_pos h2]
  have:13≤k∧k≤20:=by unfold EI at h2;simpa using h2
  exact⟨no (by decide),no (by decide),no (by decide),no (by decide),no (by decide),no (by decide),fun _=>this,no (by decide)⟩
 rw[if_neg h2];by_cases h3:k=10
 ·rw[if_pos h3];exact⟨no (by decide),no (by decide),no (by decide),no (by decide),no (by decide),fun _=>h3,no2 (by decide) (by decide),no (by decide)⟩
 rw[if_neg h3];by_cases h4:6≤k∧k≤12
 ·rw[if_pos h4];exact⟨no (by decide),no (by decide),no (by decide),no (by decide),fun _=>⟨h4.1,h4.2,h3⟩,no (by decide),no2 (by decide) (by decide),no (by decide)⟩
 rw[if_neg h4];by_cases h5:k=5
 ·rw[if_pos h5];exact⟨no (by decide),no (by decide),no (by decide),fun _=>h5,no (by decide),no (by decide),no2 (by decide) (by decide),no (by decide)⟩
 rw[if_neg h5];by_cases h6:k=4
 ·rw[if_pos h6];exact⟨no (by decide),no (by decide),fun _=>h6,no (by decide),no (by decide),no (by decide),no2 (by decide) (by decide),no (by decide)⟩
 rw[if_neg h6];by_cases h7:k=3
 ·rw[if_pos h7];exact⟨no (by decide),fun _=>h7,no (by decide),no (by decide),no (by decide),no (by decide),no2 (by decide) (by decide),no (by decide)⟩
 rw[if_neg h7];by_cases h8:k=2
 ·rw[if_pos h8];exact⟨fun _=>h8,no (by decide),no (by decide),no (by decide),no (by decide),no (by decide),no2 (by decide) (by decide),no (by decide)⟩
 rw[if_neg h8];exact⟨no (by decide),no (by decide),no (by decide),no (by decide),no (by decide),no (by decide),no2 (by decide) (by decide),no (by decide)⟩
theorem Kn(l:List Row)(n:Node)(i:Nat):kindOf l (n.kids.getD i 0)=kk (rowM l) n i:=by
 unfold kk kindOf;rw[Ae]
theorem KI(l:List Row)(n:Node){i:Nat}(h:i < n.kids.length):(classes l n.kids)[i]? =some (CW (kk (rowM l) n i)):=by
 unfold classes;rw[List.getElem?_map,AY h,←Kn]
 simp[List.getD,AY h]
theorem Sw(l:List Row)(n:Node):(classes l n.kids).length=n.kids.length:=by simp[classes]
theorem QQ{l:List Row}{n:Node}{b:Bool}(h:fits n.kind (classes l n.kids) b=true)(hi:n.kind≤20)(h1:1≤n.kind):CF (rowM l) n:=by
 have inv:=fun i=>LQ (kk (rowM l) n i);have on:∀{t:Str} {i:Nat},only (classes l n.kids) t=true→i < n.kids.length→CW (kk (rowM l) n i)∈t:=fun ho hi=>MN ho (KI l n hi);have tk:∀{t:Str} {i m:Nat},only ((classes l n.kids).take m) t=true→i < m→i < n.kids.length→CW (kk (rowM l) n i)∈t:=fun ho him hi=>MN ho (by rw[List.getElem?_take,if_pos him];exact KI l n hi);have dr:∀{t:Str} {i m:Nat},(classes l n.kids).drop m=t→m≤i→i < n.kids.length→t[i-m]? =some (CW (kk (rowM l) n i)):=fun ho him hi=>by
  rw[←ho,List.getElem?_drop,show _+(_-_)=_ from Nat.add_sub_cancel' him];exact KI l n hi
 have ex:∀{i:Nat},CW (kk (rowM l) n i)∈([69,67]:Str)→exP (kk (rowM l) n i):=fun hm=>(inv _).2.2.2.2.2.2.1 (by simpa using hm);have hlen:=Sw l n;unfold fits at h;unfold CF;by_cases k1:n.kind=1
 ·rw[if_pos k1] at h
  exact .inl ⟨k1,fun i hi=>(inv i).1 (by simpa using on h hi)⟩
 rw[if_neg k1] at h;by_cases k2:n.kind=2
 ·rw[if_pos k2] at h
  exact .inr (.inl ⟨k2,fun i hi=>(inv i).2.1 (by simpa using on h hi)⟩)
 rw[if_neg k2] at h;by_cases k3:n.kind=3
 ·rw[if_pos k3] at h
  simp only[Bool.and_eq_true,decide_eq_true_eq,beq_iff_eq,hlen] at h;obtain⟨⟨ha,hb⟩,hc⟩:=h;refine .inr (.inr (.inl ⟨k3,ha,fun i hi=>(inv i).2.2.1 (by simpa using tk hb hi (by omega)), ?_⟩));have:=dr hc AA (by omega:n.kids.length-1 < n.kids.length);rw[Nat.sub_self] at this;exact(inv _).2.2.2.1 (by simpa using this.symm)
 rw[if_neg k3] at h;by_cases k5:n.kind=5
 ·rw[if_pos k5] at h
  by_cases h0:n.kids.length=0
  ·exact .inr (.inr (.inr (.inl ⟨k5,h0⟩)))
  refine .inr (.inr (.inr (.inr (.inl ⟨k5,by omega, ?_⟩))));cases b with
  |true=>
    rw[if_pos rfl] at h;simp only[Bool.and_eq_true,decide_eq_true_eq,beq_iff_eq,hlen] at h;obtain⟨⟨ha,hb⟩,hc⟩:=h;refine⟨fun i hi=>(inv i).2.2.2.2.1 (by simpa using tk hb hi (by omega)),.inl ?_⟩;have:=dr hc AA (by omega:n.kids.length-1 < n.kids.length);rw[Nat.sub_self] at this;exact(inv _).2.2.2.2.2.1 (by simpa using this.symm)
  |false=>
    rw[if_neg (by simp)] at h;exact⟨fun i hi=>(inv i).2.2.2.2.1 (by simpa using on h (by omega)),.inr ((inv _).2.2.2.2.1 (by simpa using on h (by omega)))⟩
 rw[if_neg k5] at h;by_cases k6:n.kind=6∨n.kind=7∨n.kind=10∨n.kind=11∨n.kind=16∨n.kind=17
 ·rw[if_pos k6] at h
  simp only[Bool.and_eq_true,decide_eq_true_eq,hlen] at h;exact .inr (.inr (.inr (.inr (.inr (.inr (.inr (.inr (.inl ⟨by omega,h.1,ex (on h.2 (by omega))⟩))))))))
 rw[if_neg k6] at h;by_cases k8:n.kind=8
 ·rw[if_pos k8] at h
  simp only[Bool.and_eq_true,decide_eq_true_eq,beq_iff_eq,hlen] at h;obtain⟨⟨ha,hb⟩,hc⟩:=h;have e1:=dr hc (Nat.le_refl 1) (by omega:1 < n.kids.length);have e2:=dr hc (by omega:1≤2) (by omega:2 < n.kids.length);exact .inr (.inr (.inr (.inr (.inr (.inl ⟨k8,ha,ex (tk hb (by omega) (by omega)),(inv _).2.2.2.1 (by simpa using e1.symm),(inv _).2.2.2.1 (by simpa using e2.symm)⟩)))))
 rw[if_neg k8] at h;by_cases k9:n.kind=9
 ·rw[if_pos k9] at h
  simp only[Bool.and_eq_true,decide_eq_true_eq,beq_iff_eq,hlen] at h;obtain⟨⟨ha,hb⟩,hc⟩:=h;have e1:=dr hc (Nat.le_refl 1) (by omega:1 < n.kids.length);exact .inr (.inr (.inr (.inr (.inr (.inr (.inl ⟨k9,ha,ex (tk hb (by omega) (by omega)),(inv _).2.2.2.1 (by simpa using e1.symm)⟩))))))
 rw[if_neg k9] at h;by_cases k12:n.kind=12
 ·rw[if_pos k12] at h
  rw[beq_iff_eq] at h;have hl1:n.kids.length=1:=by rw[←hlen,h];rfl
  have e0:=KI l n (by omega:0 < n.kids.length);rw[h] at e0;exact .inr (.inr (.inr (.inr (.inr (.inr (.inr (.inl ⟨k12,hl1,(inv _).2.2.2.2.2.2.2 (by simpa using e0.symm)⟩)))))))
 rw[if_neg k12] at h;by_cases k18:n.kind=18
 ·rw[if_pos k18] at h
  simp only[Bool.and_eq_true,decide_eq_true_eq,hlen] at h;exact .inr (.inr (.inr (.inr (.inr (.inr (.inr (.inr (.inr (.inl ⟨k18,h.1,ex (on h.2 (by omega)),ex (on h.2 (by omega))⟩)))))))))
 rw[if_neg k18] at h;by_cases k19:n.kind=19
 ·rw[if_pos k19] at h
  exact .inr (.inr (.inr (.inr (.inr (.inr (.inr (.inr (.inr (.inr (.inl ⟨k19,fun i hi=>ex (on h hi)⟩))))))))))
 rw[if_neg k19] at h;have h0:=of_decide_eq_true h;rw[hlen] at h0;exact .inr (.inr (.inr (.inr (.inr (.inr (.inr (.inr (.inr (.inr (.inr ⟨by omega,h0⟩))))))))))
end Hg
namespace Go.Proofs.YtfgnfpdfohjopaaGreatDoor
open Hg (Row Node rowM EZ Be ER F3 Jd parR abvL abvR)
theorem Ed{rows:List Row}(h:EZ rows)(id:Nat):Du (rowM rows) id (fun i=>i < Ah) (parR rows id).1 (parR rows id).2:=by
 unfold parR;rcases Jd id rows h.zero with⟨h1,h2,h3⟩|⟨h1,⟨r,hr,h2,h4,h5⟩,h3⟩
 ·left
  refine⟨h1,h2,fun i nd _ hm=> ?_⟩;obtain⟨r,hr,rfl,rfl⟩:=(Be h).1 hm;exact h3 r hr
 ·right
  refine⟨h1, ?_,⟨r.node,(Be h).2 ⟨r,hr,h2,rfl⟩,h4,h5⟩,fun i nd _ hm h0=> ?_⟩
  ·have:=h.top r hr
   show _ < 18446744073709551616;omega
  ·obtain⟨x,hx,rfl,rfl⟩:=(Be h).1 hm
   exact h3 x hx h0
theorem Gr{rows:List Row}(h:EZ rows):LY (rowM rows) (parR rows):=⟨ER h,Ed h⟩
def DecR(rows:List Row):Prop:=∀r∈rows,(parR rows r.id).1 < r.id∨(parR rows r.id).1=0
theorem VC{rows:List Row}(h:EZ rows)(hd:DecR rows):∀(f id:Nat),id < f→JM (rowM rows) 3 id (abvL rows f id):=by
 intro f
 induction f with
 |zero=>intro id h;omega
 |succ f ih=>
   intro id hid;rw[abvL];by_cases h0:id=0
   ·rw[if_pos h0,h0];exact .zero
   ·rw[if_neg h0]
    cases hm:rowM rows id with
    |none=>exact .none id hm
    |some n=>
      dsimp only;by_cases hk:n.kind=3
      ·rw[if_pos hk];exact .hit id n h0 hm hk
      ·rw[if_neg hk]
       refine .step id n _ _ _ h0 hm hk (Ed h id) (ih _ ?_);obtain⟨r,hr,rfl,_⟩:=(Be h).1 hm;rcases hd r hr with e|e <;>omega
theorem Xz{rows:List Row}(hd:DecR rows)(h:EZ rows):∀(f id:Nat),id < f→abvL rows f id=0∨∃r∈rows,r.id=abvL rows f id:=by
 intro f
 induction f with
 |zero=>intro id h;omega
 |succ f ih=>
   intro id hid;rw[abvL];by_cases h0:id=0
   ·rw[if_pos h0];exact .inl rfl
   ·rw[if_neg h0]
    cases hm:rowM rows id with
    |none=>exact .inl rfl
    |some n=>
      dsimp only;obtain⟨r,hr,hi,_⟩:=(Be h).1 hm;by_cases hk:n.kind=3
      ·rw[if_pos hk];exact .inr ⟨r,hr,hi⟩
      ·rw[if_neg hk]
       exact ih _ (by have:=hd r hr;rw[hi] at this;omega)
theorem He{rows:List Row}(h:EZ rows)(hd:DecR rows)(hk:∀r∈rows,r.node.kind≤255):Tf (rowM rows) (abvR rows):=by
 refine⟨ER h,fun i n hm=> ?_,fun i n p k hm hp=> ?_,fun id _=>VC h hd _ _ (Nat.lt_succ_self _),fun id=> ?_⟩
 ·obtain⟨r,hr,_,rfl⟩:=(Be h).1 hm
  exact hk r hr
 ·obtain⟨e,_⟩:=hp.unique (Ed h i)
  obtain⟨r,hr,rfl,_⟩:=(Be h).1 hm;rw[e];exact hd r hr
 ·unfold abvR
  rcases Xz hd h (id+1) id (Nat.lt_succ_self _) with e|⟨r,hr,e⟩
  ·rw[e];decide
  ·rw[←e];exact h.top r hr
end Go.Proofs.YtfgnfpdfohjopaaGreatDoor
namespace Hg
open Go.Proofs.YtfgnfpdfohjopaaGreatDoor (idxI Du Ed Ah)
theorem BG{M:Nat→Option Node}{i:Nat}{a:Node}(h:M i=some a):ndAt M i=a:=by unfold ndAt;rw[h];rfl
theorem EA(ids:List Nat)(id:Nat):0≤idxI ids id↔id∈ids:=by
 unfold idxI;cases h:ids.findIdx? (· ==id) with
 |none=>
   simp only[List.findIdx?_eq_none_iff] at h;constructor
   ·intro h';exact absurd h' (by decide)
   ·intro hm;have:=h id hm;simp at this
 |some k=>
   obtain⟨hk,he,_⟩:=List.findIdx?_eq_some_iff_getElem.1 h;constructor
   ·intro _
    have:ids[k]=id:=by simpa using he
    exact this ▸ List.getElem_mem hk
   ·intro _;exact Int.natCast_nonneg k
theorem ML{l:List Row}(hT:Tr l)(hl:l.length≤20000)(h0:0 < l.length){p k:Nat}{a:Node}(hp:rowM l p=some a)(hk:k∈a.kids):(parR l k).1=p∧(parR l k).2=idxI a.kids k:=by
 have hM:=hT.trM hl h0;rcases Ed (hT.rows hl) k with⟨h1,_,h3⟩|⟨h1,_,⟨b,hb,he,h5⟩,h6⟩
 ·have hpl:=(hM.dom p).1 (by rw[hp];rfl)
  have:=h3 p a (by show p < 18446744073709551616;omega) hp;have h4:=(EA a.kids k).2 hk;omega
 ·have hkb:k∈b.kids:=(EA b.kids k).1 (by rw[he];exact h5)
  have:=hM.par _ _ _ _ _ hp hb hk hkb;subst this;rw[hp] at hb;obtain rfl:=Option.some.inj hb;exact⟨rfl,he.symm⟩
theorem JD:∀(l:List Row) (id:Nat),(∃r∈l,id∈r.node.kids)→∃r∈l,id∈r.node.kids∧(parentOf l id).1=r.id
 |[],id,h=>by obtain⟨r,hr,_⟩:=h;simp at hr
 |q::rs,id,h=>by
   unfold parentOf;cases hf:q.node.kids.findIdx? (· ==id) with
   |some k=>
     obtain⟨hk,he,_⟩:=List.findIdx?_eq_some_iff_getElem.1 hf;exact⟨q,by simp,(by simpa using he:q.node.kids[k]=id) ▸ List.getElem_mem hk,rfl⟩
   |none=>
     simp only[List.findIdx?_eq_none_iff] at hf;obtain⟨r,hr,hid⟩:=h;rcases List.mem_cons.1 hr with e|e
     ·subst e;have:=hf id hid;simp at this
     ·obtain⟨r',h1,h2,h3⟩:=JD rs id ⟨r,e,hid⟩
      exact⟨r',List.mem_cons_of_mem _ h1,h2,h3⟩
theorem JE:∀(l:List Row) (id:Nat),(∀r∈l,id∉r.node.kids)→(parentOf l id).1=0
 |[],_,_=>rfl
 |q::rs,id,h=>by
   unfold parentOf;rw[show q.node.kids.findIdx? (· ==id)=none from List.findIdx?_eq_none_iff.2 fun x hx=>by
    have:=h q (by simp);simp;exact fun e=>this (e ▸ hx)]
   exact JE rs id fun r hr=>h r (List.mem_cons_of_mem _ hr)
theorem Pm{l:List Row}(hT:Tr l)(hl:l.length≤20000)(h0:0 < l.length)(id:Nat):(parentOf l id).1=(parR l id).1:=by
 by_cases h:∃r∈l,id∈r.node.kids
 ·obtain⟨r,hr,hk,he⟩:=JD l id h
  rw[he];exact(ML hT hl h0 ((Be (hT.rows hl)).2 ⟨r,hr,rfl,rfl⟩) hk).1.symm
 ·rw[JE l id fun r hr hk=>h ⟨r,hr,hk⟩]
  rcases Ed (hT.rows hl) id with⟨h1,_,_⟩|⟨h1,_,⟨b,hb,he,h5⟩,_⟩
  ·exact h1.symm
  ·obtain⟨r,hr,_,rfl⟩:=(Be (hT.rows hl)).1 hb
   exact absurd ⟨r,hr,(EA _ _).1 (by rw[he];exact h5)⟩ h
theorem Md(M:Nat→Option Node)(ks:List Nat)(k:Nat):Ht M (ks++[k])=((ndAt M k).kind==10):=by unfold Ht;rw[List.foldl_append];rfl
theorem SI{l:List Row}(hT:Tr l)(hl:l.length≤20000)(h0:0 < l.length){r:Row}(hr:r∈l)(ho:Td l r)(h5:r.node.kind=5):JC (rowM l) (parR l) r.id r.node=true:=by
 have hf:=ho.fit;have e1:kindOf l (parentOf l r.id).1=(ndAt (rowM l) (parR l r.id).1).kind:=by rw[Pm hT hl h0];unfold kindOf;rw[Ae]
 rw[e1] at hf;unfold JC;unfold fits at hf;rw[if_neg (by omega),if_neg (by omega),if_neg (by omega),if_pos h5] at hf;have hlen:=Sw l r.node;rw[beq_iff_eq];rcases List.eq_nil_or_concat r.node.kids with hn|⟨ks,k,hn⟩
 ·rw[hn] at hlen⊢
  by_cases hb:(ndAt (rowM l) (parR l r.id).1).kind=3
  ·rw[if_pos (by simpa using hb)] at hf
   simp only[Bool.and_eq_true,decide_eq_true_eq] at hf;have:=hf.1.1;rw[hn] at this
   simp[classes] at this
  ·show false=_
   simpa using hb
 ·rw[List.concat_eq_append] at hn
  rw[hn,Md];have hkl:ks.length < r.node.kids.length:=by rw[hn];simp
  have hkk:kk (rowM l) r.node ks.length=(ndAt (rowM l) k).kind:=by unfold kk;rw[hn];simp
  have hc:=KI l r.node hkl;rw[hkk] at hc;have inv:=LQ (ndAt (rowM l) k).kind;by_cases hb:(ndAt (rowM l) (parR l r.id).1).kind=3
  ·rw[if_pos (by simpa using hb)] at hf
   simp only[Bool.and_eq_true,decide_eq_true_eq,beq_iff_eq,hlen] at hf;have h1:=hf.2;have h2:(List.drop (r.node.kids.length-1) (classes l r.node.kids))[0]? =some (82:UInt8):=by rw[h1];rfl
   rw[List.getElem?_drop,show r.node.kids.length-1+0=ks.length by rw[hn];simp,hc] at h2;injection h2 with h2;rw[inv.2.2.2.2.2.1 h2,hb];rfl
  ·rw[if_neg (by simpa using hb)] at hf
   have h2:=MN hf hc;have h3:=inv.2.2.2.2.1 (by simpa using h2);rw[beq_eq_false_iff_ne.2 h3.2.2,beq_eq_false_iff_ne.2 hb]
theorem KF{l:List Row}{D:Nat→Option Nat}{E:Nat→Nat}{kind:Nat}:∀(ks:List Nat) (m d:Nat),(∀k∈ks,∀d,D k=some d→E k=d)→DV l D kind ks m=some d→
 ks.foldl (fun m k=>max m (E k+(if kindOf l k=5∧kind≠3 then 1 else 0))) m+ownD kind=d
 |[],m,d,hE,h=>by
   unfold DV at h;injection h with h;subst h;simp only[List.foldl_nil];unfold ownD;by_cases hk:16≤kind∧kind≤19
   ·rw[if_pos (by omega),if_pos hk]
   ·rw[if_neg (by omega),if_neg hk];rfl
 |k::ks,m,d,hE,h=>by
   unfold DV at h;cases hd:D k with
   |none=>rw[hd] at h;cases h
   |some e=>
     rw[hd] at h;dsimp only at h;have:=KF ks _ d (fun k hk=>hE k (List.mem_cons_of_mem _ hk)) h;rw[List.foldl_cons,hE k (by simp) e hd];rw[←this]
     congr 2
     by_cases hc:kindOf l k=5∧kind≠3
     ·rw[if_pos hc,if_pos hc]
     ·rw[if_neg hc,if_neg hc];rfl
theorem OE{l:List Row}:∀(f id d:Nat),DI l f id=some d→De (rowM l) f id=d
 |0,id,d,h=>by cases h
 |f+1,id,d,h=>by
   unfold DI at h;rw[IW];cases hM:rowM l id with
   |none=>
     have e:AO l id=Node.zero:=by rw[←Ae];unfold ndAt;rw[hM];rfl
     unfold kindOf at h;rw[e] at h;simpa[DV,Node.zero] using h
   |some a=>
     rw[if_neg (by simp)];have e:AO l id=a:=by rw[←Ae];exact BG hM
     have h2:=KF (E:=fun k=>De (rowM l) f k) _ _ d (fun k _ d hd=>OE f k d hd) h;rw[←h2,Nat.add_comm];have ek:kindOf l id=(ndAt (rowM l) id).kind:=by unfold kindOf;rw[Ae]
     rw[ek,←Ae];have ef:EL (rowM l) f (ndAt (rowM l) id).kind=fun m k=>max m (De (rowM l) f k+if kindOf l k=5∧(ndAt (rowM l) id).kind≠3 then 1 else 0):=by
      funext m k
      unfold EL kindOf;rw[Ae]
     rw[ef]
theorem Ih{l:List Row}:∀(f:Nat) (s out r:List Nat),Dv l f s out=some r→∃xs,wk (rowM l) f s out.reverse=some xs∧r=out++xs.map Prod.fst
 |0,s,out,r,h=>by cases h
 |f+1,[],out,r,h=>by
   injection h with h;subst h;exact⟨[],rfl,by simp⟩
 |f+1,i::s,out,r,h=>by
   unfold Dv at h;rw[Ea];unfold rowM;rw[J8];cases ha:atI l i with
   |none=>
     rw[ha] at h;exact Ih f s out r h
   |some k=>
     rw[ha] at h;dsimp only at h;have hk:∃q,l[k]? =some q:=by
      unfold atI at ha;obtain⟨hk,_⟩:=List.findIdx?_eq_some_iff_getElem.1 ha;exact⟨l[k],AY hk⟩
     obtain⟨q,hq⟩:=hk;rw[Option.bind_some,hq];simp only[Option.map_some];by_cases hi:isIn out i=true
     ·rw[if_pos hi] at h
      rw[if_pos (by unfold isIn at hi;simpa using hi)];exact Ih f s out r h
     ·rw[if_neg hi] at h
      rw[if_neg (by unfold isIn at hi;simpa using hi)];have ek:CU l k=q.node.kids:=by unfold CU rowAt;simp[List.getD,hq]
      obtain⟨xs,h1,h2⟩:=Ih f (CU l k++s) (out++[i]) r h;rw[ek] at h1;refine⟨(i,q.node)::xs, ?_,by rw[h2];simp⟩;rw[show i::out.reverse=(out++[i]).reverse by simp];show((wk (rowM l) f (q.node.kids++s) (out++[i]).reverse).map _)=_;rw[h1];rfl
theorem R6(l:List Row)(id:Nat):∃xs,wk (rowM l) (BZ l+2) [id] []=some xs∧walk l id=xs.map Prod.fst:=by
 obtain⟨xs,h1,h2⟩:=Ih _ _ _ _ (OT l id);exact⟨xs,h1,by simpa using h2⟩
def visible(l:List Row)(k:Nat):Bool:=kindOf l k==6||kindOf l k==4
def Vd(l:List Row)(fn n id:Nat)(seen:List Nat):Prop:=∃v v',Dc l fn n v id seen=some v'∧v'.hidden=false∧v'.wrong=false
def YB(V:Vis→Nat→List Nat→Option Vis):Prop:=∀v k s v',V v k s=some v'→(v'.hidden=false→v.hidden=false)∧(v'.wrong=false→v.wrong=false)
theorem FD{l:List Row}{V:Vis→Nat→List Nat→Option Vis}(hV:YB V):∀(ks s:List Nat) (v v':Vis),EC l V ks s v=some v'→(v'.hidden=false→v.hidden=false)∧(v'.wrong=false→v.wrong=false)
 |[],s,v,v',h=>by injection h with h;subst h;exact⟨id,id⟩
 |k::ks,s,v,v',h=>by
   unfold EC at h;cases h1:V v k s with
   |none=>rw[h1] at h;cases h
   |some w=>
     rw[h1] at h;obtain⟨a,b⟩:=FD hV ks _ w v' h;obtain⟨c,d⟩:=hV _ _ _ _ h1;exact⟨fun h=>c (a h),fun h=>d (b h)⟩
theorem Fq(l:List Row)(fn:Nat):∀n,YB (Dc l fn n)
 |0,v,k,s,v',h=>by cases h
 |n+1,v,k,s,v',h=>by
   unfold Dc at h;obtain⟨a,b⟩:=FD (Fq l fn n) _ _ _ _ h;refine⟨fun h=> ?_,fun h=> ?_⟩
   ·have:=a h;simp at this;exact this.1
   ·have:=b h;simp at this;exact this.1
theorem Kw{l:List Row}{fn n:Nat}:∀(ks s:List Nat) (v v':Vis),EC l (Dc l fn n) ks s v=some v'→v'.hidden=false→v'.wrong=false→
 ∀j k,ks[j]? =some k→Vd l fn n k (s++(ks.take j).filter (visible l))
 |[],s,v,v',h,_,_,j,k,hk=>by simp at hk
 |q::ks,s,v,v',h,hh,hw,j,k,hk=>by
   unfold EC at h;cases h1:Dc l fn n v q s with
   |none=>rw[h1] at h;cases h
   |some w=>
     rw[h1] at h;have hm:=FD (Fq l fn n) _ _ _ _ h;cases j with
     |zero=>
       simp at hk;subst hk;exact⟨v,w,by simpa using h1,hm.1 hh,hm.2 hw⟩
     |succ j=>
       have:=Kw ks _ w v' h hh hw j k (by simpa using hk);rw[List.take_succ_cons,List.filter_cons];by_cases hc:kindOf l q=6∨kindOf l q=4
       ·rw[if_pos hc] at this
        rw[if_pos (by unfold visible;simpa using hc)];simpa using this
       ·rw[if_neg hc] at this
        rw[if_neg (by unfold visible;simpa using hc)];exact this
theorem Vd.node{l:List Row}{fn n id:Nat}{seen:List Nat}(h:Vd l fn (n+1) id seen):((AO l id).kind=7∨(AO l id).kind=15→(AO l id).ref∈seen)∧Bh l (AO l id) fn=false∧
 ∀j k,(AO l id).kids[j]? =some k→Vd l fn n k (seen++((AO l id).kids.take j).filter (visible l)):=by
 obtain⟨v,v',h,hh,hw⟩:=h;unfold Dc at h;obtain⟨a,b⟩:=FD (Fq l fn n) _ _ _ _ h;have a:=a hh;have b:=b hw;simp at a b;refine⟨fun hk=> ?_,b.2,Kw _ _ _ _ h hh hw⟩;have:=a.2 hk;unfold isIn at this;simpa using this
theorem KT{l:List Row}:∀(fs:List Nat) (fn:List Str) (a:Alls) (r:List Str×Alls),Dm l fs fn a=some r→r.2.clash=false→r.2.vis.hidden=false→r.2.vis.wrong=false→
 a.clash=false∧a.vis.hidden=false∧a.vis.wrong=false∧r.1=fn++fs.map (fun f=>(AO l f).name)∧∀f∈fs,twice (DT l f)=false∧Vd l f 201 f []
 |[],fn,a,r,h,hc,hh,hw=>by
   injection h with h;subst h;exact⟨hc,hh,hw,by simp,fun f hf=>by simp at hf⟩
 |f::fs,fn,a,r,h,hc,hh,hw=>by
   unfold Dm at h;cases hv:Dc l f 201 a.vis f [] with
   |none=>rw[hv] at h;cases h
   |some v=>
     rw[hv] at h;obtain⟨h1,h2,h3,h4,h5⟩:=KT fs _ _ r h hc hh hw;simp only[Bool.or_eq_false_iff] at h1;obtain⟨m1,m2⟩:=Fq l f 201 _ _ _ _ hv;refine⟨h1.1,m1 h2,m2 h3,by rw[h4];simp,fun g hg=> ?_⟩;rcases List.mem_cons.1 hg with e|e
     ·subst e;exact⟨h1.2,_,v,hv,h2,h3⟩
     ·exact h5 g e
theorem LV{l:List Row}:∀(ms:List Nat) (mn:List Str) (a:Alls) (r:List Str×Alls),Ei l ms mn a=some r→r.2.clash=false→r.2.vis.hidden=false→r.2.vis.wrong=false→
 a.clash=false∧a.vis.hidden=false∧a.vis.wrong=false∧r.1=mn++ms.map (fun m=>(AO l m).name)∧∀m∈ms,twice ((AO l m).kids.map fun f=>(AO l f).name)=false∧∀f∈(AO l m).kids,twice (DT l f)=false∧Vd l f 201 f []
 |[],mn,a,r,h,hc,hh,hw=>by
   injection h with h;subst h;exact⟨hc,hh,hw,by simp,fun f hf=>by simp at hf⟩
 |m::ms,mn,a,r,h,hc,hh,hw=>by
   unfold Ei at h;cases hv:Dm l (AO l m).kids [] a with
   |none=>rw[hv] at h;cases h
   |some p=>
     obtain⟨fs,b⟩:=p;rw[hv] at h;obtain⟨h1,h2,h3,h4,h5⟩:=LV ms _ _ r h hc hh hw;simp only[Bool.or_eq_false_iff] at h1;obtain⟨k1,k2,k3,k4,k5⟩:=KT _ _ _ _ hv h1.1 h2 h3;refine⟨k1,k2,k3,by rw[h4];simp,fun g hg=> ?_⟩;rcases List.mem_cons.1 hg with e|e
     ·subst e
      refine⟨?_,k5⟩;have k4:fs=[]++(AO l g).kids.map fun f=>(AO l f).name:=k4;rw[List.nil_append] at k4;rw[←k4];exact h1.2
     ·exact h5 g e
theorem Fs{l:List Row}(h:Ec l=some 0):shaped l=some true∧twice ((AO l 1).kids.map fun m=>(AO l m).name)=false∧
 (∀m∈(AO l 1).kids,twice ((AO l m).kids.map fun f=>(AO l f).name)=false∧∀f∈(AO l m).kids,twice (DT l f)=false∧Vd l f 201 f [])∧JY l≠0:=by
 unfold Ec at h;cases hs:shaped l with
 |none=>rw[hs] at h;cases h
 |some b=>
   rw[hs] at h;cases b with
   |false=>simp at h
   |true=>
     simp only at h;cases ha:KP l with
     |none=>rw[ha] at h;cases h
     |some a=>
       rw[ha] at h;injection h with h;by_cases c1:a.clash=true
       ·rw[if_pos c1] at h;cases h
       rw[if_neg c1] at h;by_cases c2:a.vis.hidden=true
       ·rw[if_pos c2] at h;cases h
       rw[if_neg c2] at h;by_cases c3:a.vis.wrong=true
       ·rw[if_pos c3] at h;cases h
       rw[if_neg c3] at h;by_cases c4:JY l=0
       ·rw[if_pos c4] at h;cases h
       unfold KP at ha;cases hm:Ei l (AO l 1).kids [] ⟨false,⟨false,false⟩⟩ with
       |none=>rw[hm] at ha;cases ha
       |some p=>
         obtain⟨mods,b⟩:=p;rw[hm] at ha;injection ha with ha;subst ha;have c1:(b.clash||twice mods)=false:=by simpa using c1
         simp only[Bool.or_eq_false_iff] at c1;obtain⟨_,_,_,h4,h5⟩:=LV _ _ _ _ hm c1.1 (by simpa using c2) (by simpa using c3);have h4:mods=[]++(AO l 1).kids.map fun m=>(AO l m).name:=h4;rw[List.nil_append] at h4;exact⟨rfl,by rw[←h4];exact c1.2,h5,c4⟩
theorem Hy{s:List Str}(h:twice s=false):s.Nodup:=by
 unfold twice at h;rw[List.any_eq_false] at h;refine List.pairwise_iff_getElem.2 fun i j hi hj hij e=> ?_;have:=h j (by simpa using hj);apply this;unfold inL;rw[List.any_eq_true];refine⟨s[i], ?_, ?_⟩
 ·rw[List.mem_take_iff_getElem]
  exact⟨i,by omega,rfl⟩
 ·simp[List.getD,AY hj,e]
open Go.Proofs.YtfgnfpdfohjopaaGreatDoor (Gr He DecR KV KU IA FM LD)
structure Rt (l:List Row):Prop where
 tr:Tr l
 len:l.length≤20000
 name:∀r∈l,r.node.name.length≤1000000
 num:∀r∈l,r.node.num≤9223372036854775807
 right:Ec l=some 0
section
variable {l:List Row} (h:Rt l)
include h
theorem Rt.shaped:shaped l=some true:=(Fs h.right).1
theorem Rt.pos:0 < l.length:=by
 have ht:=(Gp h.shaped).1;unfold tree at ht;cases l with
 |nil=>simp[atI] at ht
 |cons _ _=>simp
theorem Rt.trM:TrM (rowM l) l.length:=h.tr.trM h.len h.pos
theorem Rt.rows:EZ l:=h.tr.rows h.len
theorem Rt.row{i:Nat}{a:Node}(ha:rowM l i=some a):∃r∈l,r.id=i∧r.node=a∧Td l r:=by
 obtain⟨r,hr,h1,h2⟩:=(Be h.rows).1 ha;exact⟨r,hr,h1,h2,Ka ((Gp h.shaped).2.1 r hr)⟩
theorem Rt.kids{i:Nat}{a:Node}(ha:rowM l i=some a):CF (rowM l) a:=by
 obtain⟨r,_,_,rfl,ho⟩:=h.row ha;exact QQ ho.fit ho.hi ho.lo
theorem Rt.kidK{i:Nat}{a:Node}(ha:rowM l i=some a){j k:Nat}(hj:a.kids[j]? =some k):
 (kindOf l k=6→a.kind=5)∧(kindOf l k=4→a.kind=3)∧(a.kind=1→kindOf l k=2)∧(a.kind=2→kindOf l k=3)∧(3≤a.kind→4≤kindOf l k):=by
 obtain⟨hlt,he⟩:=Ai.1 hj;have hk:kindOf l k=kk (rowM l) a j:=by rw[←Kn];simp[List.getD,hj]
 rw[hk];obtain⟨r,_,_,rfl,ho⟩:=h.row ha;have hlo:=ho.lo;have hhi:=ho.hi;have hK:=h.kids ha;unfold CF at hK;rcases hK with⟨a1,a2⟩|⟨a1,a2⟩|⟨a1,a2,a3,a4⟩|⟨a1,a2⟩|⟨a1,a2,a3,a4⟩|⟨a1,a2,a3,a4,a5⟩|⟨a1,a2,a3,a4⟩|⟨a1,a2,a3⟩|⟨a1,a2,a3⟩|⟨a1,a2,a3,a4⟩|⟨a1,a2⟩|⟨a1,a2⟩
 ·have:=a2 j hlt;omega
 ·have:=a2 j hlt;omega
 ·by_cases e:j=r.node.kids.length-1
  ·rw[e,a4];omega
  ·have:=a3 j (by omega);omega
 ·omega
 ·by_cases e:j=r.node.kids.length-1
  ·rw[e];unfold stP at a4;omega
  ·have:=a3 j (by omega);unfold stP at this;omega
 ·unfold exP at a3
  match j,hlt with
  |0,_=>omega
  |1,_=>omega
  |2,_=>omega
  |n+3,hlt=>omega
 ·unfold exP at a3
  match j,hlt with
  |0,_=>omega
  |1,_=>omega
  |n+2,hlt=>omega
 ·obtain rfl:j=0:=by omega
  omega
 ·obtain rfl:j=0:=by omega
  unfold exP at a3;omega
 ·unfold exP at a3 a4
  match j,hlt with
  |0,_=>omega
  |1,_=>omega
  |n+2,hlt=>omega
 ·have:=a2 j hlt;unfold exP at this;omega
 ·omega
def Te(l:List Row)(id:Nat)(A:List Nat):Prop:=∀F seen out,id < F→(∀i∈seen,id < i)→El (rowM l) (parR l) F id seen out=some (A++out)
def kSum(l:List Row)(i:Nat):Nat:=((List.range i).flatMap (kd (rowM l))).length
omit h in
theorem Nq(l:List Row)(i:Nat):kSum l (i+1)=kSum l i+(kd (rowM l) i).length:=by unfold kSum;rw[List.range_succ,List.flatMap_append];simp
omit h in
theorem Xk(l:List Row){i j:Nat}(hij:i≤j):kSum l i≤kSum l j:=by
 obtain⟨k,rfl⟩:=Nat.exists_eq_add_of_le hij;clear hij
 induction k with
 |zero=>exact AA
 |succ k ih=>rw[←Nat.add_assoc,Nq];omega
theorem Rt.kLe(i:Nat):kSum l i≤20000:=by
 have hM:=h.trM;refine AC (MQ l.length _ ?_ fun x hx=> ?_) h.len
 ·refine List.pairwise_flatMap.2 ⟨fun q _=> ?_, ?_⟩
  ·cases hq:rowM l q with
   |none=>unfold kd ndAt;rw[hq];exact List.Pairwise.nil
   |some b=>unfold kd;rw[BG hq];exact hM.nodup q b hq
  ·refine List.Pairwise.imp ?_ (List.nodup_range (n:=i))
   intro p q hpq x hx y hy e;subst e;obtain⟨a,ha,hxa⟩:=GD.2 hx;obtain⟨b,hb,hxb⟩:=GD.2 hy;exact hpq (hM.par p q a b x ha hb hxa hxb)
 ·obtain⟨q,_,hk⟩:=List.mem_flatMap.1 hx
  obtain⟨b,hb,hkb⟩:=GD.2 hk;have:=hM.kid q b hb x hkb;have:=(hM.dom q).1 (by rw[hb];rfl);omega
theorem Rt.Qn{p k:Nat}{a:Node}{A:List Nat}(ha:rowM l p=some a)(hk:k∈a.kids)(hA:Te l p A):Te l k (A++Jq (rowM l) a (idxI a.kids k).toNat):=by
 obtain⟨e1,e2⟩:=ML h.tr h.len h.pos ha hk;have hlt:=(h.trM.kid p a ha k hk).1;intro F seen out hF hs;cases F with
 |zero=>omega
 |succ F=>
   unfold El;rw[if_neg (fun hm=>by have:=hs k hm;omega),e1,ha];dsimp only;rw[e2,hA F _ _ (by omega) (fun i hi=>by
    rcases List.mem_cons.1 hi with e|e
    ·omega
    ·have:=hs i e;omega)]
   rw[List.append_assoc]
theorem Rt.anc:∀id,∃A,Te l id A∧A.length≤kSum l id:=by
 intro id
 induction id using Nat.strongRecOn with
 |_ id ih=>
 rcases Ed h.rows id with⟨h1,_,h3⟩|⟨h1,_,⟨b,hb,he,h5⟩,_⟩
 ·refine⟨[],fun F seen out hF hs=> ?_,Nat.zero_le _⟩
  cases F with
  |zero=>omega
  |succ F=>
    unfold El;rw[if_neg (fun hm=>by have:=hs id hm;omega),h1,ER h.rows];rfl
 ·have hk:id∈b.kids:=(EA _ _).1 (by rw[he];exact h5)
  have hlt:=(h.trM.kid _ b hb id hk).1;obtain⟨A,hA,hlen⟩:=ih _ hlt;refine⟨_,h.Qn hb hk hA, ?_⟩;have h7:(Jq (rowM l) b (idxI b.kids id).toNat).length≤b.kids.length:=by
   unfold Jq;refine AC (List.length_filter_le _ _) ?_;rw[List.length_take];omega
  have h8:=Nq l (parR l id).1;have h9:=Xk l (show(parR l id).1+1≤id from hlt);rw[show kd (rowM l) (parR l id).1=b.kids by unfold kd;rw[BG hb]] at h8;rw[List.length_append];omega
theorem Rt.inFn:∀x a,rowM l x=some a→3≤a.kind→∃m S fn A,Vd l fn (m+1) x S∧Te l x A∧A.length≤20000∧(∀y∈S,y∈A)∧(∀f,x < f→abvL l f x=fn):=by
 intro x
 induction x using Nat.strongRecOn with
 |_ x ih=>
 intro a ha h3;have hM:=h.trM;have hx:=(hM.dom x).1 (by rw[ha];rfl);have hx2:2≤x:=by
  rcases Nat.lt_or_ge 1 x with e|e
  ·exact e
  ·exfalso
   obtain rfl:x=1:=by omega
   obtain⟨r,_,h1,rfl,ho⟩:=h.row ha;have:=ho.root.2 h1;omega
 obtain⟨p,b,hb,hk⟩:=hM.has x hx2 hx.2;have hlt:=(hM.kid p b hb x hk).1;obtain⟨j,hj⟩:=List.getElem?_of_mem hk;have hkx:kindOf l x=a.kind:=by unfold kindOf;rw[←Ae,BG ha]
 obtain⟨k6,k4,k1,k2,k5⟩:=h.kidK hb hj;rw[hkx] at k6 k4 k1 k2 k5;have hp1:=(hM.dom p).1 (by rw[hb];rfl);have hb1:1≤b.kind:=by obtain⟨r,_,_,rfl,ho⟩:=h.row hb;exact ho.lo
 rcases Nat.lt_or_ge b.kind 3 with hb3|hb3
 ·have hb2:b.kind=2:=by
   rcases Nat.lt_or_ge b.kind 2 with e|e
   ·have:=k1 (by omega);omega
   ·omega
  have hp2:2≤p:=by
   rcases Nat.lt_or_ge 1 p with e|e
   ·exact e
   ·exfalso
    obtain rfl:p=1:=by omega
    obtain⟨r,_,h1,rfl,ho⟩:=h.row hb;have:=ho.root.2 h1;omega
  obtain⟨q,c,hc,hkp⟩:=hM.has p hp2 hp1.2;obtain⟨i,hi⟩:=List.getElem?_of_mem hkp;have hkp':kindOf l p=b.kind:=by unfold kindOf;rw[←Ae,BG hb]
  obtain⟨c6,c4,c1,c2,c5⟩:=h.kidK hc hi;rw[hkp',hb2] at c6 c4 c1 c2 c5;have hc1:c.kind=1:=by
   have:1≤c.kind:=by obtain⟨r,_,_,rfl,ho⟩:=h.row hc;exact ho.lo
   rcases Nat.lt_or_ge c.kind 3 with e|e
   ·rcases Nat.lt_or_ge c.kind 2 with e2|e2
    ·omega
    ·have:=c2 (by omega);omega
   ·have:=c5 e;omega
  have hq1:q=1:=by obtain⟨r,_,h1,rfl,ho⟩:=h.row hc;rw[←h1];exact ho.root.1 hc1
  subst hq1;have hm:p∈(AO l 1).kids:=by rw[←Ae,BG hc];exact hkp
  have hf:x∈(AO l p).kids:=by rw[←Ae,BG hb];exact hk
  obtain⟨A,hA,hAl⟩:=h.anc x;have hS:=h.kLe x;refine⟨200,[],x,A,((Fs h.right).2.2.1 p hm).2 x hf|>.2,hA,by omega,fun y hy=>by simp at hy,fun f hf=> ?_⟩;cases f with
  |zero=>omega
  |succ f=>
    unfold abvL;rw[if_neg (by omega),ha];dsimp only;rw[if_pos (k2 hb2)]
 ·obtain⟨m,S,fn,A,hV,hA,hAl,hSA,hab⟩:=ih p hlt b hb hb3
  have hn:=hV.node;have eb:AO l p=b:=by rw[←Ae,BG hb]
  rw[eb] at hn;have hV2:=hn.2.2 j x hj;obtain⟨m2,rfl⟩:∃k,m=k+1:=by
   cases m with
   |zero=>obtain⟨v,v',hh,_⟩:=hV2;cases hh
   |succ k=>exact⟨k,rfl⟩
  have hij:(idxI b.kids x).toNat=j:=by
   have hnd:=hM.nodup p b hb;unfold idxI;cases hfi:b.kids.findIdx? (· ==x) with
   |none=>
     simp only[List.findIdx?_eq_none_iff] at hfi;have:=hfi x hk;simp at this
   |some i=>
     obtain⟨hi,he,_⟩:=List.findIdx?_eq_some_iff_getElem.1 hfi;obtain⟨hjl,hje⟩:=Ai.1 hj;have:b.kids[i]=b.kids[j]:=by rw[hje];simpa using he
     show i=j;rcases Nat.lt_trichotomy i j with e|e|e
     ·exact absurd this (List.pairwise_iff_getElem.1 hnd i j hi hjl e)
     ·exact e
     ·exact absurd this.symm (List.pairwise_iff_getElem.1 hnd j i hjl hi e)
  have hA2:=h.Qn hb hk hA;rw[hij] at hA2;obtain⟨A',hA',hAl'⟩:=h.anc x;have hS:=h.kLe x;have e1:=hA2 (x+1) [] [] (by omega) (fun i hi=>by simp at hi);have e2:=hA' (x+1) [] [] (by omega) (fun i hi=>by simp at hi);rw[e1] at e2;have e3:=Option.some.inj e2;rw[List.append_nil,List.append_nil] at e3;refine⟨m2,_,fn,_,hV2,hA2,by rw[e3];omega,fun y hy=> ?_,fun f hf=> ?_⟩
  ·rcases List.mem_append.1 hy with e|e
   ·exact List.mem_append_left _ (hSA y e)
   ·refine List.mem_append_right _ ?_
    unfold Jq;obtain⟨ht,hv⟩:=List.mem_filter.1 e;refine List.mem_filter.2 ⟨ht, ?_⟩;have hym:=List.mem_of_mem_take ht;obtain⟨i,hi⟩:=List.getElem?_of_mem hym;obtain⟨y6,y4,_,_,_⟩:=h.kidK hb hi;unfold DC;rw[Ae];show _=true;unfold visible at hv;unfold kindOf at hv y6 y4;simp only[Bool.or_eq_true,beq_iff_eq,Bool.and_eq_true,decide_eq_true_eq] at hv⊢;rcases hv with e|e
    ·exact .inl ⟨y6 e,e⟩
    ·exact .inr ⟨y4 e,e⟩
  ·cases f with
   |zero=>omega
   |succ f=>
     unfold abvL;have hk3:¬a.kind=3:=by have:=k5 hb3;omega
     rw[if_neg (by omega),ha];dsimp only;rw[if_neg hk3,(ML h.tr h.len h.pos hb hk).1];exact hab f (by omega)
end
theorem PI(l:List Row)(id:Nat):typeOf l id=Bt (rowM l) id:=by
 unfold typeOf Bt;simp only[Ae];by_cases h1:(AO l id).kind=13∨(AO l id).kind=17∨(AO l id).kind=20
 ·rw[if_pos h1,if_pos h1]
 rw[if_neg h1,if_neg h1];by_cases h2:(AO l id).kind=14∨(AO l id).kind=16
 ·rw[if_pos h2,if_pos h2]
 rw[if_neg h2,if_neg h2];by_cases h3:(AO l id).kind=18
 ·rw[if_pos h3,if_pos h3]
  by_cases h4:5 < (AO l id).num
  ·rw[if_pos h4,if_neg (by omega)]
  ·rw[if_neg h4,if_pos (by omega)]
 rw[if_neg h3,if_neg h3]
theorem Dh{l:List Row}{n:Node}{i want:Nat}(h:CP l n i want=false):Bt (rowM l) (n.kids.getD i 0)=want:=by
 unfold CP at h;rw[←PI];simpa using h
theorem LB{l:List Row}{n:Node}:∀(p:List Nat) (i:Nat),EE l n i p=false→∀j t,p[j]? =some t→Bt (rowM l) (n.kids.getD (i+j) 0)=t
 |[],i,_,j,t,ht=>by simp at ht
 |x::p,i,h,j,t,ht=>by
   unfold EE at h;simp only[Bool.or_eq_false_iff] at h;cases j with
   |zero=>simp at ht;subst ht;exact Dh h.1
   |succ j=>
     have:=LB p (i+1) h.2 j t (by simpa using ht);rw[show i+(j+1)=i+1+j by omega];exact this
theorem FI(l:List Row)(id kind:Nat)(hk:kind≠0):CO (rowM l) id kind=(AO l id).kids.filter fun k=>kindOf l k==kind:=by
 unfold CO;rw[Ae]
 congr 1
 funext k
 unfold isK kindOf;rw[←Ae];unfold ndAt;cases rowM l k with
 |none=>simp[Node.zero,Ne.symm hk]
 |some a=>rfl
theorem MK(l:List Row)(f:Nat):BF l f=(CO (rowM l) f 4).map fun p=>(ndAt (rowM l) p).type:=by
 unfold BF;rw[FI l f 4 (by decide)];refine List.map_congr_left fun k _=> ?_;rw[Ae]
section
variable {l:List Row} (h:Rt l)
include h
theorem Rt.okT{x:Nat}{a:Node}(ha:rowM l x=some a):okT (rowM l) (abvR l) (x,a)=true:=by
 rw[Oh];dsimp only;obtain⟨r,hr,hid,hra,ho⟩:=h.row ha;have hlo:=ho.lo;have hhi:=ho.hi;rw[hra] at hlo hhi;by_cases h3:3≤a.kind
 ·obtain⟨m,S,fn,A,hV,_,_,_,hab⟩:=h.inFn x a ha h3
  have hn:=hV.node.2.1;rw[←Ae,BG ha] at hn;have habv:abvR l x=fn:=hab (x+1) (Nat.lt_succ_self _);unfold Bh at hn;unfold Bj;have one:∀{t:Nat},Bt (rowM l) (a.kids.getD 0 0)=t→∀(i u:Nat),([t]:List Nat)[i]? =some u→Bt (rowM l) (a.kids.getD i 0)=u:=fun e i u hu=>by
   cases i with
   |zero=>simp at hu;rw[←hu];exact e
   |succ i=>simp at hu
  by_cases k6:a.kind=6
  ·rw[if_pos k6] at hn⊢;exact⟨fun e=>by omega,one (Dh hn)⟩
  rw[if_neg k6] at hn⊢;by_cases k7:a.kind=7
  ·rw[if_pos k7] at hn⊢;exact⟨fun e=>by omega,one (by rw[Ae];exact Dh hn)⟩
  rw[if_neg k7] at hn⊢;by_cases k8:a.kind=8∨a.kind=9∨a.kind=16
  ·rw[if_pos k8] at hn⊢;exact⟨fun e=>by omega,one (Dh hn)⟩
  rw[if_neg k8] at hn⊢;by_cases k10:a.kind=10
  ·rw[if_pos k10] at hn;rw[if_neg (by omega),if_pos k10]
   exact⟨fun e=>by omega,one (by rw[habv,Ae];exact Dh hn)⟩
  rw[if_neg k10] at hn;by_cases k17:a.kind=17
  ·rw[if_pos k17] at hn⊢;exact⟨fun e=>by omega,one (Dh hn)⟩
  rw[if_neg k17] at hn⊢;rw[if_neg k10];by_cases k18:a.kind=18
  ·rw[if_pos k18] at hn⊢
   refine⟨fun e=>by omega, ?_⟩;simp only[Bool.or_eq_false_iff] at hn;obtain⟨n0,n1⟩:=hn;have n0:=Dh n0;have n1:=Dh n1;unfold JF;have two:∀{t:Nat},Bt (rowM l) (a.kids.getD 0 0)=t→Bt (rowM l) (a.kids.getD 1 0)=t→∀(i u:Nat),([t,t]:List Nat)[i]? =some u→Bt (rowM l) (a.kids.getD i 0)=u:=fun e e' i u hu=>by
    match i,hu with
    |0,hu=>simp at hu;rw[←hu];exact e
    |1,hu=>simp at hu;rw[←hu];exact e'
    |i+2,hu=>simp at hu
   by_cases c1:a.num≤9
   ·rw[if_pos c1]
    rw[if_neg (by omega),if_pos (by omega)] at n0 n1;exact two n0 n1
   ·rw[if_neg c1]
    by_cases c2:a.num≤11
    ·rw[if_pos c2]
     rw[if_pos (by omega)] at n0 n1;rw[PI] at n1;exact two rfl n1
    ·rw[if_neg c2]
     rw[if_neg (by omega),if_neg (by omega)] at n0 n1;exact two n0 n1
  rw[if_neg k18] at hn⊢;by_cases k19:a.kind=19
  ·rw[if_pos k19] at hn⊢
   rw[←MK];by_cases hl:(BF l a.ref).length≠a.kids.length
   ·simp only[if_pos hl] at hn;cases hn
   ·simp only[if_neg hl] at hn
    refine⟨fun _=>Classical.not_not.1 hl,fun i t ht=> ?_⟩;have:=LB _ 0 hn i t ht
    rwa[Nat.zero_add] at this
  rw[if_neg k19];exact⟨fun e=>absurd e k19,fun i t ht=>by simp at ht⟩
 ·unfold Bj
  rw[if_neg (by omega),if_neg (by omega),if_neg (by omega),if_neg (by omega),if_neg (by omega),if_neg (by omega),if_neg (by omega)];exact⟨fun e=>by omega,fun i t ht=>by simp at ht⟩
theorem Rt.root:∃a,rowM l 1=some a∧a.kind=1:=by
 obtain⟨a,ha⟩:=Option.isSome_iff_exists.1 ((h.trM.dom 1).2 ⟨AA,h.pos⟩);obtain⟨r,_,h1,rfl,ho⟩:=h.row ha;exact⟨_,ha,ho.root.2 h1⟩
theorem Rt.mods:Cm (rowM l)=(AO l 1).kids:=by
 obtain⟨a,ha,hk⟩:=h.root;unfold Cm;rw[FI l 1 2 (by decide),List.filter_eq_self];intro k hkm;rw[←Ae,BG ha] at hkm;obtain⟨j,hj⟩:=List.getElem?_of_mem hkm;simpa using(h.kidK ha hj).2.2.1 hk
theorem Rt.modKind{m:Nat}(hm:m∈(AO l 1).kids):∃b,rowM l m=some b∧b.kind=2:=by
 obtain⟨a,ha,hk⟩:=h.root;rw[←Ae,BG ha] at hm;obtain⟨j,hj⟩:=List.getElem?_of_mem hm;have h2:=(h.kidK ha hj).2.2.1 hk;have:=h.trM.kid 1 a ha m hm;obtain⟨b,hb⟩:=Option.isSome_iff_exists.1 ((h.trM.dom m).2 (by omega));refine⟨b,hb, ?_⟩;unfold kindOf at h2
 rwa[←Ae,BG hb] at h2
theorem Rt.funcs{m:Nat}(hm:m∈(AO l 1).kids):Br (rowM l) m=(AO l m).kids:=by
 obtain⟨b,hb,hk⟩:=h.modKind hm;unfold Br;rw[FI l m 3 (by decide),List.filter_eq_self];intro k hkm;rw[←Ae,BG hb] at hkm;obtain⟨j,hj⟩:=List.getElem?_of_mem hkm;simpa using(h.kidK hb hj).2.2.2.1 hk
omit h in
theorem Xd{l:List Row}{f:Nat}{xs:List (Nat×Node)}(hw:wk (rowM l) (BZ l+2) [f] []=some xs)(hx:walk l f=xs.map Prod.fst):CE xs=DT l f:=by
 have hm:=JP _ _ _ _ _ hw;unfold CE DT;rw[hx];clear hw hx
 induction xs with
 |nil=>rfl
 |cons x xs ih=>
   have e:AO l x.1=x.2:=by rw[←Ae,BG (hm x (by simp))]
   have ih:=ih fun y hy=>hm y (List.mem_cons_of_mem _ hy);rw[List.map_cons,List.filter_cons,List.filter_cons];unfold kindOf at ih⊢;rw[e];by_cases c:(x.2.kind==4||x.2.kind==6)=true
   ·rw[if_pos c,if_pos c,List.map_cons,List.map_cons,ih,e]
   ·rw[if_neg c,if_neg c,ih]
theorem Rt.Mh:BZ l≤20000:=by
 have:BZ l=(l.flatMap fun r=>r.node.kids).length:=by unfold BZ;rw[List.length_flatMap]
 rw[this,h.tr.perm.length_eq,List.length_range'];have:=h.len;omega
theorem Rt.noClash:Iz (rowM l):=by
 obtain⟨_,h1,h2,_⟩:=Fs h.right;have nm:∀ks:List Nat,ks.map (DK (rowM l))=ks.map fun k=>(AO l k).name:=fun ks=>List.map_congr_left fun k _=>by unfold DK;rw[Ae]
 refine⟨?_,fun m hm=> ?_,fun m hm f hf=> ?_⟩
 ·rw[h.mods,nm];exact Hy h1
 ·rw[h.mods] at hm
  rw[h.funcs hm,nm];exact Hy (h2 m hm).1
 ·rw[h.mods] at hm
  rw[h.funcs hm] at hf;obtain⟨xs,hw,hx⟩:=R6 l f;have:=h.Mh;exact⟨_,xs,hw,by omega,by rw[Xd hw hx];exact Hy ((h2 m hm).2 f hf).1⟩
theorem Rt.dec:DecR l:=fun r hr=>by
 rcases Ed h.rows r.id with⟨h1,_,_⟩|⟨h1,_,⟨b,hb,he,h5⟩,_⟩
 ·exact .inr h1
 ·exact .inl (h.trM.kid _ b hb r.id ((EA _ _).1 (by rw[he];exact h5))).1
theorem Rt.ref{i:Nat}{a:Node}(ha:rowM l i=some a):a.ref=0∨(1≤a.ref∧a.ref≤l.length):=by
 obtain⟨F,R,hK⟩:∃m,Ch l l 0=some m∧True:=by
  have ht:=(Gp h.shaped).1;unfold tree at ht;cases h1:atI l 1 with
  |none=>rw[h1] at ht;cases ht
  |some k=>
    rw[h1] at ht;dsimp only at ht;by_cases hc:(rowAt l k).node.kind≠1∨(walk l 1).length≠l.length
    ·rw[if_pos hc] at ht;cases ht
    rw[if_neg hc] at ht;cases h2:Ch l l 0 with
    |none=>rw[h2] at ht;cases ht
    |some m=>exact⟨m,rfl,trivial⟩
 obtain⟨r,hr,_,rfl,_⟩:=h.row ha;rcases Gl l l 0 F R r hr with e|e
 ·exact .inl e
 ·have:=(KN l r.node.ref).1 e
  rw[h.tr.ids,List.mem_range'_1] at this;exact .inr (by omega)
theorem Rt.parts{i:Nat}{a:Node}(ha:rowM l i=some a):FM (rowM l) a:=by
 have href:=h.ref ha;obtain⟨r,hr,hid,rfl,ho⟩:=h.row ha;have hlen:=h.len;have hnum:=h.num r hr;refine⟨by omega,h.name r hr, ?_⟩;have hlo:=ho.lo;have hhi:=ho.hi;have hno:isNamed r.node.kind=false→r.node.name=[]∧r.node.type=0:=fun e=>by
  have h1:=ho.named;rw[e] at h1;refine⟨by simpa using h1.symm,ho.notype (by rw[e];rfl)⟩
 have nn:r.node.kind≠2→r.node.kind≠3→r.node.kind≠4→r.node.kind≠6→isNamed r.node.kind=false:=fun a b c d=>by unfold isNamed;simp[a,b,c,d]
 have yes:isNamed r.node.kind=true→r.node.name≠[]∧Go.Proofs.YtfgnfpdfohjopaaGreatDoor.LD r.node.name=true:=fun e=>by
  have h1:=ho.named;rw[e] at h1;obtain⟨n1,n2⟩:=ho.name e;refine⟨by simpa using h1.symm, ?_⟩;unfold Go.Proofs.YtfgnfpdfohjopaaGreatDoor.LD;rw[n1,n2];rfl
 have kr:∀k,(ndAt (rowM l) k).kind=kindOf l k:=fun k=>by unfold kindOf;rw[Ae]
 rw[kr];by_cases k2:r.node.kind=2
 ·have y:=yes (by rw[k2];rfl)
  exact .inl ⟨k2,y.1,y.2,ho.notype (by rw[k2];rfl),ho.num0 (by omega) (by omega) (by omega),ho.ref0 (by omega) (by omega) (by omega)⟩
 by_cases k3:r.node.kind=3∨r.node.kind=4∨r.node.kind=6
 ·have hn:isNamed r.node.kind=true:=by rcases k3 with e|e|e <;>rw[e] <;>rfl
  have y:=yes hn;have t:=ho.typed;rw[hn] at t
  simp[k2] at t
  exact .inr (.inl ⟨k3,y.1,y.2,t,ho.num0 (by omega) (by omega) (by omega),ho.ref0 (by omega) (by omega) (by omega)⟩)
 obtain⟨n1,n2⟩:=hno (nn k2 (by omega) (by omega) (by omega));by_cases k7:r.node.kind=7∨r.node.kind=15
 ·have hk:=ho.ref7 k7
  refine .inr (.inr (.inl ⟨k7,n1,n2,ho.num0 (by omega) (by omega) (by omega),fun e=> ?_,hk⟩));rw[e] at hk;have:kindOf l 0=0:=by rw[←kr];unfold ndAt;rw[ER h.rows];rfl
  omega
 by_cases k19:r.node.kind=19
 ·have hk:=ho.ref19 k19
  refine .inr (.inr (.inr (.inl ⟨k19,n1,n2,ho.num0 (by omega) (by omega) (by omega),fun e=> ?_,hk⟩)));rw[e] at hk;have:kindOf l 0=0:=by rw[←kr];unfold ndAt;rw[ER h.rows];rfl
  omega
 have h0:=ho.ref0 (by omega) (by omega) k19;by_cases k13:r.node.kind=13
 ·exact .inr (.inr (.inr (.inr (.inl ⟨k13,n1,n2,⟨ho.num13 k13,hnum⟩,h0⟩))))
 by_cases k14:r.node.kind=14
 ·exact .inr (.inr (.inr (.inr (.inr (.inl ⟨k14,n1,n2,ho.num14 k14,h0⟩)))))
 by_cases k18:r.node.kind=18
 ·exact .inr (.inr (.inr (.inr (.inr (.inr (.inl ⟨k18,n1,n2,ho.num18 k18,h0⟩))))))
 exact .inr (.inr (.inr (.inr (.inr (.inr (.inr ⟨by omega,n1,n2,ho.num0 k13 k14 k18,h0⟩))))))
omit h in
theorem LH(l:List Row)(m:Nat)(mod fn:Str):∀fs:List Nat,GH l m mod fn fs=Hu (rowM l) mod fn m fs
 |[]=>rfl
 |f::fs=>by
   unfold GH Hu DK;rw[List.find?_cons,Ae,Ae];by_cases c:(AO l m).name=mod∧(AO l f).name=fn
   ·rw[if_pos c,c.1,c.2];simp
   ·rw[if_neg c]
    have:((AO l m).name==mod && (AO l f).name==fn)=false:=by
     cases hb:((AO l m).name==mod && (AO l f).name==fn) with
     |false=>rfl
     |true=>simp at hb;exact absurd hb c
    rw[this];have ih:=LH l m mod fn fs;unfold Hu DK at ih;rw[ih,Ae]
theorem Rt.Sk(mod fn:Str):∀ms:List Nat,(∀m∈ms,m∈(AO l 1).kids)→funcOf l mod fn ms=(Fw (rowM l) mod fn ms).getD 0∧∀f,Fw (rowM l) mod fn ms=some f→∃m∈ms,f∈(AO l m).kids
 |[],_=>⟨rfl,fun f hf=>by cases hf⟩
 |m::ms,hm=>by
   obtain⟨ih1,ih2⟩:=Rt.Sk mod fn ms fun x hx=>hm x (List.mem_cons_of_mem _ hx);unfold funcOf Fw;rw[LH,h.funcs (hm m (by simp))];cases hf:Hu (rowM l) mod fn m (AO l m).kids with
   |none=>
     refine⟨ih1,fun f hf=> ?_⟩;obtain⟨x,hx,hx2⟩:=ih2 f hf;exact⟨x,List.mem_cons_of_mem _ hx,hx2⟩
   |some f=>exact⟨rfl,fun g hg=>by injection hg with hg;subst hg;exact⟨m,by simp,N7 hf⟩⟩
theorem Rt.main:∃f b,DL (rowM l)=f∧f≠0∧rowM l f=some b∧b.kind=3∧b.type=1∧BF l f=[]:=by
 have hm:=(Fs h.right).2.2.2;unfold JY at hm;dsimp only at hm;obtain⟨e1,e2⟩:=h.Sk Cg Cg (AO l 1).kids fun m hm=>hm;unfold DL IQ;rw[h.mods];rw[e1] at hm;cases hf:Fw (rowM l) Cg Cg (AO l 1).kids with
 |none=>rw[hf] at hm;simp at hm
 |some f=>
   rw[hf] at hm;simp only[Option.getD_some] at hm⊢;by_cases hc:f=0∨(AO l f).type≠1∨0 < (BF l f).length
   ·rw[if_pos hc] at hm;exact absurd rfl hm
   obtain⟨m,hmm,hfm⟩:=e2 f hf;obtain⟨b,hb,hk⟩:=h.modKind hmm;rw[←Ae,BG hb] at hfm;obtain⟨j,hj⟩:=List.getElem?_of_mem hfm;have h3:=(h.kidK hb hj).2.2.2.1 hk;have:=h.trM.kid m b hb f hfm;obtain⟨c,hcM⟩:=Option.isSome_iff_exists.1 ((h.trM.dom f).2 (by omega));have ec:AO l f=c:=by rw[←Ae,BG hcM]
   have hp:BF l f=[]:=List.eq_nil_of_length_eq_zero (by omega);have ht:c.type=1:=by rw[←ec];omega
   rw[hcM];dsimp only;have hl:(CO (rowM l) f 4).length=0:=by
    have:=hp;rw[MK] at this;simpa using congrArg List.length this
   rw[if_pos ⟨ht,hl⟩];exact⟨f,c,rfl,by omega,hcM,by unfold kindOf at h3;rwa[ec] at h3,ht,hp⟩
theorem Rt.rightOk:∃F xs,KV (rowM l) (parR l) (abvR l) F 20001 xs∧IA (rowM l) (abvR l) xs=0∧wk (rowM l) F [1] []=some xs:=by
 have hlen:=h.len;have hT:=h.trM;have hR:=h.rows;have hs:=Gp h.shaped;obtain⟨xs,hw,hx⟩:=R6 l 1;have hks:=h.Mh;have hm:=JP _ _ _ _ _ hw;have hid:∀x∈xs,1≤x.1∧x.1≤l.length:=fun x hx=>(hT.dom x.1).1 (by rw[hm x hx];rfl);obtain⟨ft,Rt',htree⟩:=Qz h.tr hlen hs.1 (fun r hr=>by
  have:=h.ref ((Be hR).2 ⟨r,hr,rfl,rfl⟩);omega)
 have row:∀x∈xs,∃r∈l,r.id=x.1∧r.node=x.2∧Td l r:=fun x hx=>h.row (hm x hx);obtain⟨mf,mb,m1,m2,_⟩:=h.main;refine⟨BZ l+2,xs,⟨Gr hR,⟨⟨ft,Rt',htree⟩,hw,by omega,fun x hx=> ?_,fun x hx=> ?_,fun x hx=>h.kids (hm x hx),fun x hx=>h.parts (hm x hx),fun x hx=> ?_,fun x hx h5=> ?_,fun x hx h3=> ?_⟩,h.noClash,by omega,fun x hx hk=> ?_,He hR h.dec fun r hr=> ?_,fun i nd hi=> ?_,fun x hx=> ?_,fun x hx h18=> ?_,fun x hx h19=> ?_⟩, ?_,hw⟩
 ·have:=hid x hx;show x.1 < 18446744073709551616;omega
 ·obtain⟨r,_,_,e,ho⟩:=row x hx;rw[←e];exact⟨ho.lo,ho.hi⟩
 ·obtain⟨r,_,e1,e,ho⟩:=row x hx;rw[←e,←e1];exact ho.root
 ·obtain⟨r,hr,e1,e,ho⟩:=row x hx
  rw[←e,←e1];exact SI h.tr hlen h.pos hr ho (by rw[e];exact h5)
 ·obtain⟨r,hr,e1,e,ho⟩:=row x hx
  obtain⟨d,hd,h9⟩:=hs.2.2 r hr (by rw[e];exact h3);rw[←e1,OE 201 r.id d hd];exact h9
 ·obtain⟨m,S,fn,A,hV,hA,hAl,hSA,_⟩:=h.inFn x.1 x.2 (hm x hx) (by omega)
  have h1:=hA 20001 [] [] (by have:=hid x hx;omega) (fun i hi=>by simp at hi);rw[List.append_nil] at h1;have h2:=hV.node.1;rw[←Ae,BG (hm x hx)] at h2;exact⟨A,h1,(EA _ _).2 (hSA _ (h2 (by omega))),by omega⟩
 ·have:=(Ka (hs.2.1 r hr)).hi;omega
 ·have:=h.ref hi;omega
 ·have:=hid x hx;omega
 ·have hk:=h.kids (hm x hx)
  unfold CF at hk;omega
 ·have hk:=h.kids (hm x hx)
  unfold CF at hk;unfold Bj JF;by_cases k6:x.2.kind=6
  ·rw[if_pos k6];simp;omega
  rw[if_neg k6];by_cases k7:x.2.kind=7
  ·rw[if_pos k7];simp;omega
  rw[if_neg k7];by_cases k8:x.2.kind=8∨x.2.kind=9∨x.2.kind=16
  ·rw[if_pos k8];simp;omega
  rw[if_neg k8];by_cases k17:x.2.kind=17
  ·rw[if_pos k17];simp;omega
  rw[if_neg k17];by_cases k10:x.2.kind=10
  ·rw[if_pos k10];simp;omega
  rw[if_neg k10];by_cases k18:x.2.kind=18
  ·rw[if_pos k18]
   split
   ·simp;omega
   ·split <;>(simp;omega)
  rw[if_neg k18,if_neg h19];simp
 ·unfold IA
  rw[if_pos (List.all_eq_true.2 fun x hx=>h.okT (hm x hx)),m1,if_neg m2]
end
end Hg
