/-
  Part of the proof of CheckLists.
-/
import Derived.Test.YtljmibnfmilfbaaGreatDoorKeAT
import Derived.Test.YtljmibnfmilfbaaGreatDoorKeAA
set_option linter.all false
set_option maxHeartbeats 32000000
set_option maxRecDepth 100000
namespace Go.Proofs.YtljmibnfmilfbaaGreatDoor
open Go.RowKit
theorem Ta:(Tryz.prog.info? 182).map (fun i=>(i.zero,i.size,i.bytes))=some (some (.agg #[.string ⟨#[]⟩,.int .u64 0,.int .i64 0]),3,32):=by kernel_rfl
theorem OM(b:Hg.GV):∀u∈AY b,u.oneCell'=true:=by
 intro u hu;simp only[AY,List.mem_cons,List.not_mem_nil,or_false] at hu;rcases hu with rfl|rfl|rfl <;>rfl
theorem PK(rb:Nat)(s:Hg.Rd)(t:List UInt8)(k:Nat)(w:World)(hR:RdAt w rb s)(hu:s.used.length≤10000000)(hs:s.seen.length≤10000000)(hr:s.rows.length≤10000000)(hk:k < s.rows.length):
 Calls Tryz.prog 128 #[.pointer (some ⟨rb,0,none⟩),strV t,.int .i64 (k:Int)] w fun e w'=>e= .returned (.tuple #[])∧RdAt w' rb (s.declare t k)∧Below rb w w':=by
 obtain⟨j0,hj,hj0,hj1,hj2⟩:=info_parts Ta;obtain⟨k0,hk_,hk0,hk1,hk2⟩:=info_parts Lc;have hds:∀s1,(if Hg.inL s.used t then s.fault 10 else s)=s1→s.declare t k={s1 with used:=s1.used++[t],seen:=s1.seen++[⟨t,s1.idAt k,s1.level⟩]}:=by
  intro s1 e;subst e;rfl
 obtain⟨aU,cU,cell11,hU,_,_,_⟩:=hR.Kl;have HU:=zz hU;clear hU;have hlt0:=hR.lt;go_enter Tryz.func128,Tryz.ntmps128
 go_upto_if 11 with(go_at_call 89;refine(O4 w.heap.size _ s.used t _ (Sl.AX HU.out) (by omega)).mono ?_;rintro e w' ⟨rfl,rfl⟩)
 go_cut [] from 11 (fun wx=>RdAt wx rb (if Hg.inL s.used t then s.fault 10 else s)∧Lite rb w wx)
 case first=>
  by_cases hin:Hg.inL s.used t=true
  ·rw[hin]
   go_wp2_with (go_at_call 90;refine(Hu rb s 10 _ hR).mono ?_;rintro e w1 ⟨rfl,hR1,hb1⟩)
   go_meet
   case rel=>exact⟨by rw[if_pos hin];exact hR1,hb1⟩
  ·have hin2:Hg.inL s.used t=false:=by simpa using hin
   rw[hin2];clear hin;go_wp2
   go_meet
   case rel=>exact⟨by rw[hin2];exact hR,Lite.refl _ _⟩
 case rest=>
  obtain⟨hR1,hL1⟩:=hcut;have e1:(if Hg.inL s.used t then s.fault 10 else s).rows.length=s.rows.length∧(if Hg.inL s.used t then s.fault 10 else s).used.length=s.used.length∧(if Hg.inL s.used t then s.fault 10 else s).seen.length=s.seen.length:=by
   obtain⟨e1,_,_,_,_,_,e7,e8,_⟩:=Hg.Rd.Ef s 10;split
   ·rw[e1,e7,e8];exact⟨rfl,rfl,rfl⟩
   ·exact⟨rfl,rfl,rfl⟩
  have hds1:=hds _ rfl;clear hds;generalize(if Hg.inL s.used t then s.fault 10 else s)=s1 at*;obtain⟨er,eu,es⟩:=e1;have hr1:s1.rows.length≤10000000:=by omega
  have hu1:s1.used.length≤10000000:=by omega
  have hs1:s1.seen.length≤10000000:=by omega
  have hk1':k < s1.rows.length:=by omega
  have hds:=zz hds1;have hB0:Below rb w wc:=hL1.below;clear hds1 hR hL1 cell11 er eu es HU;obtain⟨a1,c1,k11,hown1,hrb1,_,hnew1⟩:=hR1.Kl;have HO1:=zz hown1;have HN1:=zz hnew1;have f11:=hR1.frozen 11;have hlt1:=hR1.lt;have hne1:=zz (show some rb≠Value.ownBlock (.slice a1 s1.used.length c1) from fun e=>absurd (hrb1 rb e.symm) (Nat.lt_irrefl _));clear hnew1 hrb1
  go_wp2_with (at_builtin;refine wpList_append_own_at _ rfl (.tmp 18) (.tmp 20) _ rfl (rb+1) 9 k0 _ 1 16 Tryz.underlying41 hk_ hk0 hk1 hk2 rfl (by decide) _ _ _ rfl (HO1.out.alloc _) ⟨_,0,none⟩ 1 1 [strV t] rfl rfl (Af _ _ _) ?_ ?_ ?_ ?_ ?_)
  ·intro u hu;simp only[List.mem_singleton] at hu;subst hu;rfl
  ·unfold maxLen;omega
  ·omega
  ·simp;omega
  intro v1 W1 own1 g1 _ at1;obtain⟨hR2,hB2⟩:=HN1.out _ W1 v1 t ((Below.refl _ _).alloc (Nat.le_refl _) _) own1 g1 (by simpa using at1);have d11:=g1.cell (CR k11 _) hne1.out;have e11:W1.frozen? ⟨rb,11,none⟩=false:=by
   rw[World.frozen?_of_block (a:=⟨rb,11,none⟩) (g1.block rb (by simp;omega) hne1.out)];rw[World.frozen?_of_block (a:=⟨rb,11,none⟩) (Below.heap_alloc wc _ rb hlt1)];exact f11
  obtain⟨q0,z0,rfl⟩:=ownsRow_succ own1;clear own1 g1 at1 HO1 HN1 hne1 k11 f11 hR1 hown1;go_upto_region 3 with fail;generalize World.setCell W1 _ _=W2 at hR2 hB2⊢;have hBw:Below rb w W2:=hB0.trans hB2;have hcid:s1.idAt k=s1.idAt k:=rfl;obtain⟨a2,c2,k12,hown2,hrb2,hneR,hnew2⟩:=hR2.Ui;obtain⟨g,c,k4,hg1,hg2,kid,_,_,_⟩:=hR2.forCell (k:=k) (List.getElem?_eq_getElem hk1');obtain⟨_,_,_,_,k13⟩:=hR2.cell;dsimp only at k12 hown2 hrb2 hneR hnew2 k4 k13 kid;have f12:=hR2.frozen 12;have hlt2:=hR2.lt;have ecid:s1.idAt k=(s1.rows[k]).id:=Mf (List.getElem?_eq_getElem hk1');have HM0:=zz (show some rb≠Value.ownBlock (.slice a2 s1.seen.length c2) from fun e=>absurd (hrb2 rb e.symm) (Nat.lt_irrefl _));have HM3:=zz (show some g≠Value.ownBlock (.slice a2 s1.seen.length c2) from fun e=>hneR g _ _ k4 e.symm);have HO2:=zz hown2;have HN2:=zz hnew2;rw[←ecid] at kid;clear hrb2 hneR hnew2 hown2 hR2 hB0 hB2 d11 e11 ecid;generalize s1.idAt k=cid at*;have hHeld:(fun w'=>w'.cell? ⟨rb,4,none⟩=some (.slice (some ⟨g,0,none⟩) s1.rows.length c)∧w'.cell? ⟨rb,12,none⟩=some (.slice a2 s1.seen.length c2)∧w'.cell? ⟨rb,13,none⟩=some (.int .i64 (s1.level:Int))∧w'.cell? ⟨g,k*7,none⟩=some (.int .u64 (cid:Int))) (World.drew W2):=⟨k4,k12,k13,kid⟩;have hi1:(0:Int)≤(k:Int):=by omega
  have hi2:(k:Int) < (s1.rows.length:Int):=by omega
  refine AR (fun w'=>w'.cell? ⟨rb,4,none⟩=some (.slice (some ⟨g,0,none⟩) s1.rows.length c)∧w'.cell? ⟨rb,12,none⟩=some (.slice a2 s1.seen.length c2)∧w'.cell? ⟨rb,13,none⟩=some (.int .i64 (s1.level:Int))∧w'.cell? ⟨g,k*7,none⟩=some (.int .u64 (cid:Int))) 21 (by kernel_rfl) ?_;refine tz 0 _ _ _ ?_;refine tz 1 _ _ _ ?_;refine tz 2 _ _ _ ?_;refine tz 3 _ _ _ ?_;refine tz 4 _ _ _ ?_;refine tz 5 _ _ _ ?_;refine tz 6 _ _ _ ?_;refine tz 7 _ _ _ ?_;refine tz 8 _ _ _ ?_;refine tz 9 _ _ _ ?_;refine tz 10 _ _ _ ?_;refine tz 11 _ _ _ ?_;refine tz 12 _ _ _ ?_;refine tz 13 _ _ _ ?_;refine tz 14 _ _ _ ?_;refine tz 15 _ _ _ ?_;refine tz 16 _ _ _ ?_;refine tz 17 _ _ _ ?_;refine tz 18 _ _ _ ?_;refine AB (i:=19) rfl (by kernel_rfl) (fun K hK=> ?_);go_simp;generalize hWa:World.drew (World.alloc _ _)=Wa;have hTa:∀j u,(AY ⟨t,cid,s1.level⟩)[j]? =some u→Wa.cell? ((⟨W2.heap.size,0,none⟩:Addr).add j)=some u:=by rw[←hWa];exact Af _ _ _
  have hBa:Below W2.heap.size W2 Wa:=by rw[←hWa];exact((Below.refl _ _).alloc (Nat.le_refl _) _).drew
  clear hWa;refine hK.out _ _ (⟨AC hBa (Nat.le_refl _) hHeld.1,AC hBa (Nat.le_refl _) hHeld.2.1,AC hBa (Nat.le_refl _) hHeld.2.2.1,AC hBa (Nat.le_refl _) hHeld.2.2.2⟩) (fun hHeld=> ?_);clear hK K
  try simp only[Act.put,sA,sB,sC]
  refine AB (i:=20) rfl (by kernel_rfl) (fun K hK=> ?_);refine Ac rfl (.tmp 28) (.tmp 43) _ rfl (rb+1) 182 j0 _ 3 32 Tryz.underlying100 hj hj0 hj1 hj2 rfl (by decide) _ _ _ rfl (own_below HO2.out hBa (Nat.le_refl _)) ⟨_,0,none⟩ 1 1 (AY ⟨t,cid,s1.level⟩) rfl rfl ?_ (OM _) ?_ ?_ ?_ ?_
  ·exact hTa
  ·unfold maxLen;omega
  ·omega
  ·have:=hBa.size;omega
  intro v3 W3 own3 g3 at3;have hFIN:=HN2.out Wa W3 v3 ⟨t,cid,s1.level⟩ hBa own3 g3 at3;refine hK.out _ _ (⟨g3.cell hHeld.1 HM0.out,g3.cell hHeld.2.1 HM0.out,g3.cell hHeld.2.2.1 HM0.out,g3.cell hHeld.2.2.2 HM3.out⟩) (fun hHeld=> ?_);clear hK K
  try simp only[Act.put,sA,sB,sC]
  refine AL (by kernel_rfl) ?_;simp only[List.drop_succ_cons,List.drop_zero];have g12:=(World.frozen?_of_block (a:=⟨rb,12,none⟩) ((g3.block rb (by have:=hBa.size;omega) HM0.out).trans (hBa.block rb (by omega)))).trans f12;have FIN:=zz hFIN;obtain⟨d4,d12,d13,dg⟩:=hHeld;obtain⟨q1,z1,rfl⟩:=ownsRow_succ own3;clear hFIN g3 hBa own3 at3 f12 HO2 HN2 kid hTa k4 k12 k13;go_wp2_with fail;go_end0;rw[hds.out];exact⟨rfl,FIN.out.1,hBw.trans FIN.out.2⟩
theorem RdAt.turnSeen{w w1:World}{rb B:Nat}{s:Hg.Rd}(h:RdAt w rb s)(hb:Below w.heap.size w w1)(hB:w.heap.size≤B)(l:List Hg.GV){v':Value}(ho:w1.ownsRow B 182 3 v' l.length (l.flatMap AY)):
 RdAt (w1.setCell ⟨rb,12,none⟩ v') rb {s with seen:=l}∧Below rb w (w1.setCell ⟨rb,12,none⟩ v'):=by
 have hlt:=h.lt;obtain⟨vL,vR,vM,vF,vI,vC,vW,vU,vS,ks,h1,h2,h3,h4⟩:=h;have hrow:∀b,b≤rb→w1.heap[b]? =w.heap[b]? :=fun b hbl=>hb.block b (by omega);have ho':w1.ownsRow (rb+1) 182 3 v' l.length (l.flatMap AY):=by
  refine⟨ho.1, ?_⟩;rcases ho.2 with hn|⟨g,cap,cur,hv,hbb,rest⟩
  ·exact .inl hn
  ·exact .inr ⟨g,cap,cur,hv,by omega,rest⟩
 have h5:=BD.turn (l1:=[⟨vR,55,7,s.rows.length,AQ s.rows ks⟩,⟨vM,9,1,s.mods.length,s.mods.map strV⟩,⟨vF,9,1,s.funcs.length,s.funcs.map strV⟩,
  ⟨vI,30,1,s.ids.length,s.ids.map idV⟩,⟨vC,30,1,s.calls.length,s.calls.map idV⟩,⟨vW,9,1,s.wants.length,s.wants.map strV⟩,
  ⟨vU,9,1,s.used.length,s.used.map strV⟩]) (o:=⟨vS,182,3,s.seen.length,s.seen.flatMap AY⟩) (l2:=BM s.rows ks) (o':=⟨v',182,3,l.length,l.flatMap AY⟩) h4 ho'
   ⟨hb.os,hb.tape,hb.output,hb.size,fun b hbl _=>hb.block b hbl⟩ (fun g hg=> .inr (by have:=(ho.lt g hg).1;omega))
 have h6:=h5.setCell (p:=⟨rb,12,none⟩) (Nat.lt_succ_self _) v';refine⟨⟨vL,vR,vM,vF,vI,vC,vW,vU,v',ks, ?_, ?_,h3, ?_⟩, ?_⟩
 ·exact heap_setCell_same ((hrow rb (Nat.le_refl _)).trans h1) v'
 ·exact(h2.keep fun p hp=>World.cell?_of_block (hrow p.block (by omega))).setCell (p:=⟨rb,12,none⟩) (Nat.le_refl _) _
 ·simpa[BI] using h6
 ·exact(show Below rb w w1 from hb.mono (Nat.le_of_lt hlt)).setCell (p:=⟨rb,12,none⟩) (Nat.le_refl _) _
def XJ(f:Nat):Prop:=∀(rb:Nat) (s:Hg.Rd) (u:Nat) (s':Hg.Rd) (w:World),Hg.Rd.stmt f s u=some s'→RdAt w rb s→Okk s→s.deep≤90→s.level≤s.deep→Fin_ s'→u < s.rows.length→
 Calls Tryz.prog 129 #[.pointer (some ⟨rb,0,none⟩),.int .i64 (u:Int)] w fun e w'=>e= .returned (.tuple #[])∧RdAt w' rb s'∧Below rb w w'
def NG(f:Nat):Prop:=∀(rb:Nat) (s:Hg.Rd) (u:Nat) (s':Hg.Rd) (w:World),Hg.Rd.block f s u=some s'→RdAt w rb s→Okk s→s.deep≤90→s.level≤s.deep→Fin_ s'→u < s.rows.length→
 Calls Tryz.prog 150 #[.pointer (some ⟨rb,0,none⟩),.int .i64 (u:Int)] w fun e w'=>e= .returned (.tuple #[])∧RdAt w' rb s'∧Below rb w w'
def Yf(rb n:Nat)(sE:Hg.Rd)(f:Nat)(w0:World)(k:Nat)(wr:World):Prop:=
 ∃(t:Hg.Rd),Hg.Rd.stmts k t n=some sE∧RdAt wr rb t∧Okk t∧t.deep≤90∧t.level≤t.deep∧n < t.rows.length∧Below rb w0 wr∧k≤f
def Yt(l:List Hg.GV)(lv:Nat)(w0:World)(v i:Value)(wr:World):Prop:=
 ∃k:Nat,k≤l.length∧i= .int .i64 (k:Int)∧Below w0.heap.size w0 wr∧
   wr.ownsRow w0.heap.size 182 3 v ((l.take k).filter (fun b=>b.deep < lv)).length (((l.take k).filter (fun b=>b.deep < lv)).flatMap AY)
theorem Okk.ss{s a s':Hg.Rd}(h:Okk s)(e:Hg.Rd.Ap s a)(g:Hg.Rd.Grow a s')(hf:Fin_ s'):Okk a:=
 ⟨e.inv h.inv,hf.of g,by rw[e.deep];exact h.deep,by rw[e.level];exact h.level⟩
theorem RdAt.WI{w:World}{rb:Nat}{s:Hg.Rd}(h:RdAt w rb s){x:Int}(n:Nat)(hx:x=(n:Int)):RdAt (w.setCell ⟨rb,13,none⟩ (.int .i64 x)) rb {s with level:=n}:=by
 subst hx;exact h.setLevel n
theorem Qg(l:List Hg.GV)(p:Hg.GV→Bool)(k:Nat)(hk:k < l.length):(l.take (k+1)).filter p=(l.take k).filter p++(if p l[k] then[l[k]] else[]):=by
 rw[List.take_succ_eq_append_getElem hk,List.filter_append]
 congr 1
 by_cases h:p l[k]=true
 ·simp[h]
 ·simp[h]
theorem R7(f:Nat)(ihS:∀g,g≤f→XJ g):NG (f+1):=by
 intro rb s u s' w he hR ho hdp hlv hf hu;rw[Hg.Rd.block] at he
 try dsimp only at he
 change (if (s.head u).enter.bad=true then some (s.head u).enter.leave.shut else(Hg.Rd.stmts f ((s.head u).enter.need [123]) s.rows.length).map (fun r=>r.leave.shut))=some s' at he;have hend:∃sE,s'=sE.leave.shut∧(((s.head u).enter.bad=true∧sE=(s.head u).enter)∨((s.head u).enter.bad=false∧Hg.Rd.stmts f ((s.head u).enter.need [123]) s.rows.length=some sE)):=by
  by_cases hb:(s.head u).enter.bad=true
  ·rw[if_pos hb] at he
   injection he with he;exact⟨_,he.symm,.inl ⟨hb,rfl⟩⟩
  ·rw[if_neg hb] at he
   cases hx:Hg.Rd.stmts f ((s.head u).enter.need [123]) s.rows.length with
   |none=>rw[hx] at he;simp at he
   |some a=>
     rw[hx] at he;injection he with he;exact⟨a,he.symm,.inr ⟨by simpa using hb,rfl⟩⟩
 obtain⟨sE,hsE,hways⟩:=hend;clear he;obtain⟨i0,hi,hz0,hz1,hz2⟩:=info_parts Ta;have hn:=Hg.Rd.Ah s u (Hg.Rd.nd 5) (Hg.Rd.Ch 5);have hst:Hg.Rd.Ap (s.head u).enter sE:=by
  rcases hways with⟨_,e⟩|⟨_,e⟩
  ·rw[e];exact Hg.Rd.Ap.refl _
  ·exact(Hg.Rd.AZ _ _).s.trans ((Hg.Rd.FL f).2.2 _ _ _ e)
 have gE:Hg.Rd.Grow sE s':=by rw[hsE];exact(Hg.Rd.BJ _).trans (Hg.Rd.N9 _)
 have gh:Hg.Rd.Grow (s.head u) sE:=(Hg.Rd.CO _).trans hst.grow;have ho1:Okk (s.node u (Hg.Rd.nd 5)):=ho.es hn ((Hg.Rd.JH _ _).trans (gh.trans gE)) hf;have hlv1:(s.node u (Hg.Rd.nd 5)).level=s.level:=hn.level;have hdp1:(s.node u (Hg.Rd.nd 5)).deep=s.deep:=hn.deep;have hlh:(s.head u).level=s.level+1:=by show(s.node u (Hg.Rd.nd 5)).level+1=_;rw[hlv1]
 have hdh:(s.head u).deep=s.deep:=hdp1;have oh:Okk (s.head u):=⟨Hg.Rd.Jp ho1.inv _,hf.of (gh.trans gE),by rw[hdh];omega,by rw[hlh];omega⟩;have ohe:Okk (s.head u).enter:=oh.enter (by omega) (hst.grow.trans gE) hf;have hnl:s.rows.length < (s.head u).rows.length:=by show _ < (s.node u (Hg.Rd.nd 5)).rows.length;rw[Hg.Rd.Av];omega
 have hlE:sE.level=s.level+1:=by rw[hst.level,Ii,hlh]
 have hdE:sE.deep=s.deep+1:=by rw[hst.deep,CP,hdh]
 have hiE:Hg.Rd.Inv sE:=hst.inv ohe.inv;have hfE:Fin_ sE:=hf.of gE;have hseen:sE.seen.length≤10000000:=by have:=hiE.seen;have:=hiE.used;have:=hfE.rows;omega
 have TN:=fun W h=>zz (Bg (rb:=rb) (s:=s) (under:=u) s.rows.length (Hg.Rd.nd 5) (w:=W) h ho rfl hu rfl);have TQ:=fun W h=>zz (Da (rb:=rb) (s:=s.head u) (w:=W) h oh rfl);go_enter Tryz.func150,Tryz.ntmps150
 go_upto_if 20 with(first
  |(go_at_call 86;refine((TN _ hR).out).mono ?_;rintro e w1 ⟨rfl,hR1,hb1⟩;obtain⟨_,_,_,_,c13⟩:=hR1.cell;have f13:=hR1.frozen 13;rw[hlv1] at c13)
  |(go_at_call 153;refine((TQ _ (hR1.WI (s.level+1) (by omega))).out).mono ?_;rintro e w2 ⟨rfl,hR2,hb2⟩))
 go_cut [] from 20 (fun wx=>RdAt wx rb sE∧Below rb w2 wx)
 case first=>
  rcases hways with⟨hb,e⟩|⟨hb,e⟩
  ·rw[hb]
   rw[←e] at hR2;go_wp2
   go_meet
   case rel=>exact⟨hR2,Below.refl _ _⟩
  ·rw[hb]
   have ohn:Okk ((s.head u).enter.need [123]):=ohe.es (Hg.Rd.AZ _ _) (((Hg.Rd.FL f).2.2 _ _ _ e).grow.trans gE) hf;have hdn:((s.head u).enter.need [123]).deep≤90:=by rw[(Hg.Rd.AZ _ _).deep];exact DZ hb
   have hvn:((s.head u).enter.need [123]).level≤((s.head u).enter.need [123]).deep:=by rw[(Hg.Rd.AZ _ _).deep,(Hg.Rd.AZ _ _).level,CP,Ii,hlh,hdh];omega
   have hln:s.rows.length < ((s.head u).enter.need [123]).rows.length:=Nat.lt_of_lt_of_le hnl (by have:=(Hg.Rd.DC (s.head u).enter [123]).len;rw[Dm] at this;exact this);have TD:=fun W h=>zz (BN (rb:=rb) (s:=(s.head u).enter) (t:=[123]) (w:=W) h ohe);clear hb TN TQ;generalize(s.head u).enter.need [123]=t0 at*
   go_wp2_with (go_at_call 87;refine((TD _ hR2).out).mono ?_;rintro e w3 ⟨rfl,hR3,hb3⟩)
   go_loopg [32] f (fun k _ wr=>Yf rb s.rows.length sE f w3 k wr)
   case atStart=>exact⟨t0,e,hR3,ohn,hdn,hvn,hln,Below.refl _ _,Nat.le_refl _⟩
   case round=>
    obtain⟨t,hargs,hRt,hot,hdt,hvt,hlt,hBt,hkf⟩:=hrel;obtain⟨_,_,c3,_,_⟩:=hRt.cell;cases gk with
    |zero=>simp[Hg.Rd.stmts] at hargs
    |succ k=>
      rw[Hg.Rd.stmts] at hargs;by_cases hbad:t.bad=true
      ·rw[if_pos hbad] at hargs
       injection hargs with hargs;subst hargs;rw[hbad] at c3;clear hbad;go_wp2
       go_meet
       case rel=>exact⟨hRt,hb3.below.trans hBt⟩
      rw[if_neg hbad] at hargs;have hbf:t.bad=false:=by simpa using hbad
      rw[hbf] at c3;clear hbad hbf;by_cases hn:t.next [125]=true
      ·rw[if_pos hn] at hargs
       injection hargs with hargs;have TE:=fun W h=>zz (Cf (rb:=rb) (s:=t) (t:=[125]) (w:=W) h hot hn);rw[hargs] at TE;clear hn
       go_wp2_with (go_at_call 91;refine((TE _ hRt).out).mono ?_;rintro e w7 ⟨rfl,hR7,hb7⟩)
       go_meet
       case rel=>exact⟨hR7,(hb3.below.trans hBt).trans hb7.below⟩
      rw[if_neg hn] at hargs;have hnf:t.next [125]=false:=by simpa using hn
      clear hn;have TE:=fun W h=>zz (Ai (rb:=rb) (s:=t) (t:=[125]) (w:=W) h hot hnf);clear hnf;cases hx:Hg.Rd.stmt k t s.rows.length with
      |none=>rw[hx] at hargs;simp at hargs
      |some t1=>
        rw[hx] at hargs;dsimp only at hargs;have ex:=(Hg.Rd.FL k).1 _ _ _ hx;have ey:=(Hg.Rd.FL k).2.2 _ _ _ hargs;have hft:Fin_ t1:=hfE.of ey.grow;have hot1:Okk t1:=hot.ss ex ey.grow hfE;have TX:=fun W h=>zz (ihS k (by omega) rb t s.rows.length t1 W hx h hot hdt hvt hft hlt)
        go_wp2_with (first
         |(go_at_call 91;refine((TE _ hRt).out).mono ?_;rintro e w7 ⟨rfl,hR7,hb7⟩)
         |(go_at_call 129;refine((TX _ hR7).out).mono ?_;rintro e w8 ⟨rfl,hR8,hb8⟩))
        go_roundg k
        case measure=>omega
        case rel=>exact⟨t1,hargs,hR8,hot1,(by rw[ex.deep];exact hdt),(by rw[ex.level,ex.deep];exact hvt),Nat.lt_of_lt_of_le hlt ex.grow.len,hBt.trans (hb7.below.trans hb8),by omega⟩
 case rest=>
  obtain⟨hRE,hBE⟩:=hcut;have hBw:Below rb w wc:=hb1.trans ((((Below.refl _ _).setCell (p:=⟨rb,13,none⟩) (Nat.le_refl _) _).trans hb2).trans hBE);clear hways TN TQ hR hR1 hR2 hb1 hb2 hBE c13 f13 hn hst gh ho1 oh ohe;obtain⟨_,c2,_,_,c13⟩:=hRE.cell;have f2:=hRE.frozen 2;have f12:=hRE.frozen 12;have f13:=hRE.frozen 13;have HRE:=zz hRE;have hltE:=hRE.lt;rw[hdE] at c2;rw[hlE] at c13;have hR5:RdAt (wc.setCell ⟨rb,2,none⟩ (.int .i64 (s.deep:Int))) rb sE.leave:=hRE.F8 (by omega) (by omega);clear hRE;have hB5:Below rb w (wc.setCell ⟨rb,2,none⟩ (.int .i64 (s.deep:Int))):=hBw.setCell (p:=⟨rb,2,none⟩) (Nat.le_refl _) _;have h5:∃aS cS,wc.cell? ⟨rb,12,none⟩=some (.slice aS sE.seen.length cS)∧∀(k:Nat) (hk:k < sE.seen.length),∃g,aS=some ⟨g,0,none⟩∧
   (wc.setCell ⟨rb,2,none⟩ (.int .i64 (s.deep:Int))).cell? ⟨g,k*3,none⟩=some (strV sE.seen[k].name)∧(wc.setCell ⟨rb,2,none⟩ (.int .i64 (s.deep:Int))).cell? ⟨g,k*3+1,none⟩=some (.int .u64 (sE.seen[k].id:Int))∧
   (wc.setCell ⟨rb,2,none⟩ (.int .i64 (s.deep:Int))).cell? ⟨g,k*3+2,none⟩=some (.int .i64 (sE.seen[k].deep:Int)):=by
   obtain⟨a',c',k12',hs'⟩:=hR5.forSeen;refine⟨a',c', ?_,hs'⟩;rw[World.cell?_setCell_other wc ⟨rb,2,none⟩ ⟨rb,12,none⟩ _ (by simp)] at k12';exact k12'
  obtain⟨aS,cS,k12,hsc⟩:=h5;have HSC:=zz hsc;clear hsc
  go_upto_block 2 with fail
  obtain⟨_,_,_,_,k13⟩:=hR5.cell;have f12:=hR5.frozen 12;have f13:=hR5.frozen 13;have hlt5:=hR5.lt;have k13':(wc.setCell ⟨rb,2,none⟩ (.int .i64 (s.deep:Int))).cell? ⟨rb,13,none⟩=some (.int .i64 ((s.level:Int)+1)):=by
   rw[k13];show some (Value.int .i64 (sE.level:Int))=_;rw[hlE];simp
  clear k13 k12 c2 c13 hBw HRE;generalize World.setCell wc _ _=W5 at*
  go_cut [5] from 36 (fun v wx=>∃n,Below W5.heap.size W5 wx∧wx.ownsRow W5.heap.size 182 3 v n (((sE.seen).filter (fun b=>b.deep < s.level+1)).flatMap AY)∧n=((sE.seen).filter (fun b=>b.deep < s.level+1)).length)
  case first=>
   go_wp2_with fail
   go_loopw [5,48] (fun v i wr=>Yt sE.seen (s.level+1) W5 v i wr) (fun _ i _=>sE.seen.length-(intOf i).toNat)
   case atStart=>exact⟨0,by omega,rfl,Below.refl _ _,by simpa using World.ownsRow_nil _ _ _ _⟩
   case round=>
    obtain⟨k,hk,rfl,hbr,hown⟩:=hrel;have r13:=AC hbr (Nat.le_refl _) k13';by_cases hlt:k < sE.seen.length
    ·obtain⟨g,rfl,d0,d1,d2⟩:=HSC.out k hlt
     have e0:=AC hbr (Nat.le_refl _) d0;have e1:=AC hbr (Nat.le_refl _) d1;have e2:=AC hbr (Nat.le_refl _) d2;have hft:=zz (Qg sE.seen (fun b=>decide (b.deep < s.level+1)) k hlt);have hnl2:((sE.seen.take k).filter (fun b=>decide (b.deep < s.level+1))).length≤10000000:=Nat.le_trans (List.length_filter_le _ _) (by simp;omega);clear d0 d1 d2;have hi1:(0:Int)≤(k:Int):=by omega
     have hi2:(k:Int) < (sE.seen.length:Int):=by omega
     generalize sE.seen[k]=bd at*;have hltr:rb < wr.heap.size:=Nat.lt_of_lt_of_le hlt5 hbr.size;go_upto_region 11 with fail;have qn:∀j u,[strV bd.name,.int .u64 (bd.id:Int),.int .i64 (bd.deep:Int)][j]? =some u→(wr.alloc (.cells #[strV bd.name,.int .u64 (bd.id:Int),.int .i64 (bd.deep:Int)] 182)).cell? ⟨wr.heap.size,j,none⟩=some u:=by
      intro j u hj;rw[cell_of_row _ wr.heap.size j _ 182 (0,0) (heap_alloc_new wr _)];simpa using hj
     have q0:=qn 0 _ rfl;have q1:=qn 1 _ rfl;have q2:=qn 2 _ rfl;have q13:=CR r13 (.cells #[strV bd.name,.int .u64 (bd.id:Int),.int .i64 (bd.deep:Int)] 182);have qb:Below wr.heap.size wr (wr.alloc (.cells #[strV bd.name,.int .u64 (bd.id:Int),.int .i64 (bd.deep:Int)] 182)):=(Below.refl _ _).alloc (Nat.le_refl _) _;clear qn;generalize World.alloc wr _=WB at*;by_cases hq:bd.deep < s.level+1
     ·have hq1:decide ((bd.deep:Int) < (s.level:Int)+1)=true:=by simp;omega
      have hres:=zz (show(sE.seen.take (k+1)).filter (fun b=>decide (b.deep < s.level+1))=(sE.seen.take k).filter (fun b=>decide (b.deep < s.level+1))++[bd] by rw[hft.out];simp[hq]);clear hft
      go_quiet (fail)
      go_wp2_with (at_builtin;refine wpList_append_own_at _ rfl (.tmp 59) (.tmp 61) _ rfl W5.heap.size 182 i0 _ 3 32 Tryz.underlying100 hi hz0 hz1 hz2 rfl (by decide) _ _ _ rfl ((own_below hown (below_drewN qb nq) (Nat.le_refl _)).alloc _) ⟨_,0,none⟩ 1 1 (AY bd) rfl rfl (Af _ _ _) ?_ ?_ ?_ ?_ ?_)
      ·exact OM _
      ·unfold maxLen;omega
      ·omega
      ·have:=hbr.size;have:=qb.size;simp;omega
      intro v2 w2 hown2 hg2 _ _;have hb2:Below W5.heap.size W5 w2:=((hbr.trans ((below_drewN qb nq).mono hbr.size)).alloc (by have:=hbr.size;have:=qb.size;simp;omega) _).grown hg2 (by have:=hbr.size;have:=qb.size;simp;omega) (fun q hq=>(hown.lt q hq).1);clear q0 q1 q2 q13 hg2;go_wp2;go_roundw
      case rel=>
       refine⟨k+1,by omega,by go_num,hb2, ?_⟩;rw[hres.out,List.flatMap_append,List.length_append];simpa using hown2
      case measure=>simp[intOf];omega
     ·have hq1:decide ((bd.deep:Int) < (s.level:Int)+1)=false:=by simp;omega
      have hres:=zz (show(sE.seen.take (k+1)).filter (fun b=>decide (b.deep < s.level+1))=(sE.seen.take k).filter (fun b=>decide (b.deep < s.level+1)) by rw[hft.out];simp[hq]);clear hft
      go_quiet (fail)
      go_wp2;go_roundw
      case rel=>
       refine⟨k+1,by omega,by go_num,hbr.trans ((below_drewN qb nq).mono hbr.size), ?_⟩;rw[hres.out];exact own_below hown (below_drewN qb nq) (Nat.le_refl _)
      case measure=>simp[intOf];omega
    ·obtain rfl:k=sE.seen.length:=by omega
     rw[List.take_length] at hown;go_wp2
     go_meet
     case rel=>exact⟨_,hbr,hown,rfl⟩
  case rest=>
   obtain⟨n,hbx,hownx,rfl⟩:=hcut;obtain⟨hRx,hBx⟩:=hR5.turnSeen hbx (Nat.le_refl _) _ hownx;have hsh:s'={({sE.leave with seen:=(sE.seen).filter (fun b=>decide (b.deep < s.level+1))}:Hg.Rd) with level:=s.level}:=by
    rw[hsE];show({sE.leave with seen:=sE.seen.filter (fun b=>b.deep < sE.level),level:=sE.level-1}:Hg.Rd)=_;rw[hlE];rfl
   have HSH:=zz hsh;obtain⟨a',c',y12,_⟩:=hR5.forSeen;have z12:=AC hbx (Nat.le_refl _) y12;have z13:=AC hbx (Nat.le_refl _) k13';have g12:=(World.frozen?_of_block (a:=⟨rb,12,none⟩) (hbx.block rb hlt5)).trans f12;have g13:=(World.frozen?_of_block (a:=⟨rb,13,none⟩) (hbx.block rb hlt5)).trans f13;obtain⟨q5,z5,rfl⟩:=(Sl.AX hownx).form;clear y12 f12 f13 k13' hownx hbx hsh hsE HSC hR5;go_wp2;go_end0;rw[HSH.out];exact⟨rfl,hRx.WI s.level (by omega),(hB5.trans hBx).setCell (p:=⟨rb,13,none⟩) (Nat.le_refl _) _⟩
theorem KY{rb:Nat}{s:Hg.Rd}{w:World}(hR:RdAt w rb s)(hl:Okk s):
 Calls Tryz.prog 127 #[.pointer (some ⟨rb,0,none⟩)] w fun e w'=>e= .returned (.int .u8 (s.typed.1:Int))∧RdAt w' rb s.typed.2∧Lite rb w w':=Q0 rb s w hR hl.lim
theorem LW{rb:Nat}{s:Hg.Rd}{t:List UInt8}{k:Nat}{w:World}(hR:RdAt w rb s)(hl:Okk s)(hk:k < s.rows.length):
 Calls Tryz.prog 128 #[.pointer (some ⟨rb,0,none⟩),strV t,.int .i64 (k:Int)] w fun e w'=>e= .returned (.tuple #[])∧RdAt w' rb (s.declare t k)∧Below rb w w':=
 PK rb s t k w hR (by have:=hl.inv.used;have:=hl.fin.rows;omega) (by have:=hl.inv.used;have:=hl.inv.seen;have:=hl.fin.rows;omega) (by have:=hl.fin.rows;omega) hk
theorem DV(s:Hg.Rd):s.name.rows.length=s.rows.length:=by rw[(Hg.Rd.CQ s).2.2]
theorem Vb(f:Nat)(ihB:NG f)(rb:Nat)(s:Hg.Rd)(u:Nat)(w:World)(hR:RdAt w rb s)(ho:Okk s)(hdp:s.deep≤90)(hlv:s.level≤s.deep)(hu:u < s.rows.length)
 (hn0:s.next [108,101,116]=false) (hy:s.next [105,102]=true)
 (a1 a2 a3 a4 a5 a6:Hg.Rd) (e1:s.step=a1) (e2:a1.node u (Hg.Rd.nd 8)=a2) (e3:Hg.Rd.expr f a2 s.rows.length=some a3) (e4:Hg.Rd.block f a3 s.rows.length=some a4) (e5:a4.need [101,108,115,101]=a5) (e6:Hg.Rd.block f a5 s.rows.length=some a6) (hf:Fin_ a6):
 Calls Tryz.prog 129 #[.pointer (some ⟨rb,0,none⟩),.int .i64 (u:Int)] w fun e w'=>e= .returned (.tuple #[])∧RdAt w' rb a6∧Below rb w w':=by
 have E1:Hg.Rd.Ap s a1:=by rw[←e1];exact(Hg.Rd.Am s).s
 have E2:Hg.Rd.Ap a1 a2:=by rw[←e2];exact(Hg.Rd.Ah a1 u _ rfl).s
 have E3:Hg.Rd.Ap a2 a3:=((Hg.Rd.Bi f).1 _ _ _ e3).s;have E4:Hg.Rd.Ap a3 a4:=((Hg.Rd.FL f).2.1 _ _ _ e4);have E5:Hg.Rd.Ap a4 a5:=by rw[←e5];exact(Hg.Rd.AZ a4 _).s
 have E6:Hg.Rd.Ap a5 a6:=((Hg.Rd.FL f).2.1 _ _ _ e6);have G5:Hg.Rd.Grow a5 a6:=E6.grow;have G4:Hg.Rd.Grow a4 a6:=E5.grow.trans G5;have G3:Hg.Rd.Grow a3 a6:=E4.grow.trans G4;have G2:Hg.Rd.Grow a2 a6:=E3.grow.trans G3;have G1:Hg.Rd.Grow a1 a6:=E2.grow.trans G2;have G0:Hg.Rd.Grow s a6:=E1.grow.trans G1;have ok_s:Okk s:=ho;have ok_a1:Okk a1:=ok_s.ss E1 G1 hf;have ok_a2:Okk a2:=ok_a1.ss E2 G2 hf;have ok_a3:Okk a3:=ok_a2.ss E3 G3 hf;have ok_a4:Okk a4:=ok_a3.ss E4 G4 hf;have ok_a5:Okk a5:=ok_a4.ss E5 G5 hf;have hnl:s.rows.length < a2.rows.length:=by rw[←e2,Hg.Rd.Av];rw[←e1];exact Nat.lt_succ_self _
 have len_a3:s.rows.length < a3.rows.length:=Nat.lt_of_lt_of_le hnl E3.grow.len;have len_a4:s.rows.length < a4.rows.length:=Nat.lt_of_lt_of_le len_a3 E4.grow.len;have len_a5:s.rows.length < a5.rows.length:=Nat.lt_of_lt_of_le len_a4 E5.grow.len;have len_a6:s.rows.length < a6.rows.length:=Nat.lt_of_lt_of_le len_a5 E6.grow.len;have T1:=fun W h=>zz (Ai (rb:=rb) (s:=s) (t:=[108,101,116]) (w:=W) h ok_s hn0);have T2:=fun W h=>zz (Cf (rb:=rb) (s:=s) (t:=[105,102]) (w:=W) h ok_s hy);rw[e1] at T2;have T3:=fun W h=>zz (Bg (rb:=rb) (s:=a1) (under:=u) s.rows.length (Hg.Rd.nd 8) (w:=W) h ok_a1 rfl (by first|exact hu|rfl|(rw[←e1];exact hu)|(rw[←e1];rfl)) (by first|exact hu|rfl|(rw[←e1];exact hu)|(rw[←e1];rfl)));rw[e2] at T3;have T4:=fun W h=>zz (Fb f rb a2 s.rows.length a3 W e3 h ok_a2 (by rw[E2.deep,E1.deep];exact hdp) (hf.of G3) (hnl));have T5:=fun W h=>zz (ihB rb a3 s.rows.length a4 W e4 h ok_a3 (by rw[E3.deep,E2.deep,E1.deep];exact hdp) (by rw[E3.deep,E2.deep,E1.deep,E3.level,E2.level,E1.level];exact hlv) (hf.of G4) (len_a3));have T6:=fun W h=>zz (BN (rb:=rb) (s:=a4) (t:=[101,108,115,101]) (w:=W) h ok_a4);rw[e5] at T6;have T7:=fun W h=>zz (ihB rb a5 s.rows.length a6 W e6 h ok_a5 (by rw[E5.deep,E4.deep,E3.deep,E2.deep,E1.deep];exact hdp) (by rw[E5.deep,E4.deep,E3.deep,E2.deep,E1.deep,E5.level,E4.level,E3.level,E2.level,E1.level];exact hlv) hf (len_a5));go_enter Tryz.func129,Tryz.ntmps129
 go_wp2_with (first
  |(go_at_call 91;((with_reducible refine((T1 _ hR).out).mono ?_);rintro e w1 ⟨rfl,hR1,hb1⟩))
  |(go_at_call 91;((with_reducible refine((T2 _ hR1).out).mono ?_);rintro e w2 ⟨rfl,hR2,hb2⟩))
  |(go_at_call 86;((refine((T3 _ hR2).out).mono ?_);rintro e w3 ⟨rfl,hR3,hb3⟩))
  |(go_at_call 130;((with_reducible refine((T4 _ hR3).out).mono ?_);rintro e w4 ⟨rfl,hR4,hb4⟩))
  |(go_at_call 150;((with_reducible refine((T5 _ hR4).out).mono ?_);rintro e w5 ⟨rfl,hR5,hb5⟩))
  |(go_at_call 87;((with_reducible refine((T6 _ hR5).out).mono ?_);rintro e w6 ⟨rfl,hR6,hb6⟩))
  |(go_at_call 150;((with_reducible refine((T7 _ hR6).out).mono ?_);rintro e w7 ⟨rfl,hR7,hb7⟩)))
 go_end0;exact⟨rfl,hR7,hb1.below.trans (hb2.below.trans (hb3.trans (hb4.trans (hb5.trans (hb6.below.trans (hb7))))))⟩
theorem PY(f:Nat)(ihB:NG f)(rb:Nat)(s:Hg.Rd)(u:Nat)(w:World)(hR:RdAt w rb s)(ho:Okk s)(hdp:s.deep≤90)(hlv:s.level≤s.deep)(hu:u < s.rows.length)
 (hn0:s.next [108,101,116]=false) (hn1:s.next [105,102]=false) (hy:s.next [119,104,105,108,101]=true)
 (a1 a2 a3 a4:Hg.Rd) (e1:s.step=a1) (e2:a1.node u (Hg.Rd.nd 9)=a2) (e3:Hg.Rd.expr f a2 s.rows.length=some a3) (e4:Hg.Rd.block f a3 s.rows.length=some a4) (hf:Fin_ a4):
 Calls Tryz.prog 129 #[.pointer (some ⟨rb,0,none⟩),.int .i64 (u:Int)] w fun e w'=>e= .returned (.tuple #[])∧RdAt w' rb a4∧Below rb w w':=by
 have E1:Hg.Rd.Ap s a1:=by rw[←e1];exact(Hg.Rd.Am s).s
 have E2:Hg.Rd.Ap a1 a2:=by rw[←e2];exact(Hg.Rd.Ah a1 u _ rfl).s
 have E3:Hg.Rd.Ap a2 a3:=((Hg.Rd.Bi f).1 _ _ _ e3).s;have E4:Hg.Rd.Ap a3 a4:=((Hg.Rd.FL f).2.1 _ _ _ e4);have G3:Hg.Rd.Grow a3 a4:=E4.grow;have G2:Hg.Rd.Grow a2 a4:=E3.grow.trans G3;have G1:Hg.Rd.Grow a1 a4:=E2.grow.trans G2;have G0:Hg.Rd.Grow s a4:=E1.grow.trans G1;have ok_s:Okk s:=ho;have ok_a1:Okk a1:=ok_s.ss E1 G1 hf;have ok_a2:Okk a2:=ok_a1.ss E2 G2 hf;have ok_a3:Okk a3:=ok_a2.ss E3 G3 hf;have hnl:s.rows.length < a2.rows.length:=by rw[←e2,Hg.Rd.Av];rw[←e1];exact Nat.lt_succ_self _
 have len_a3:s.rows.length < a3.rows.length:=Nat.lt_of_lt_of_le hnl E3.grow.len;have len_a4:s.rows.length < a4.rows.length:=Nat.lt_of_lt_of_le len_a3 E4.grow.len;have T1:=fun W h=>zz (Ai (rb:=rb) (s:=s) (t:=[108,101,116]) (w:=W) h ok_s hn0);have T2:=fun W h=>zz (Ai (rb:=rb) (s:=s) (t:=[105,102]) (w:=W) h ok_s hn1);have T3:=fun W h=>zz (Cf (rb:=rb) (s:=s) (t:=[119,104,105,108,101]) (w:=W) h ok_s hy);rw[e1] at T3;have T4:=fun W h=>zz (Bg (rb:=rb) (s:=a1) (under:=u) s.rows.length (Hg.Rd.nd 9) (w:=W) h ok_a1 rfl (by first|exact hu|rfl|(rw[←e1];exact hu)|(rw[←e1];rfl)) (by first|exact hu|rfl|(rw[←e1];exact hu)|(rw[←e1];rfl)));rw[e2] at T4;have T5:=fun W h=>zz (Fb f rb a2 s.rows.length a3 W e3 h ok_a2 (by rw[E2.deep,E1.deep];exact hdp) (hf.of G3) (hnl));have T6:=fun W h=>zz (ihB rb a3 s.rows.length a4 W e4 h ok_a3 (by rw[E3.deep,E2.deep,E1.deep];exact hdp) (by rw[E3.deep,E2.deep,E1.deep,E3.level,E2.level,E1.level];exact hlv) hf (len_a3));go_enter Tryz.func129,Tryz.ntmps129
 go_wp2_with (first
  |(go_at_call 91;((with_reducible refine((T1 _ hR).out).mono ?_);rintro e w1 ⟨rfl,hR1,hb1⟩))
  |(go_at_call 91;((with_reducible refine((T2 _ hR1).out).mono ?_);rintro e w2 ⟨rfl,hR2,hb2⟩))
  |(go_at_call 91;((with_reducible refine((T3 _ hR2).out).mono ?_);rintro e w3 ⟨rfl,hR3,hb3⟩))
  |(go_at_call 86;((refine((T4 _ hR3).out).mono ?_);rintro e w4 ⟨rfl,hR4,hb4⟩))
  |(go_at_call 130;((with_reducible refine((T5 _ hR4).out).mono ?_);rintro e w5 ⟨rfl,hR5,hb5⟩))
  |(go_at_call 150;((with_reducible refine((T6 _ hR5).out).mono ?_);rintro e w6 ⟨rfl,hR6,hb6⟩)))
 go_end0;exact⟨rfl,hR6,hb1.below.trans (hb2.below.trans (hb3.below.trans (hb4.trans (hb5.trans (hb6)))))⟩
theorem PZ(f:Nat)(rb:Nat)(s:Hg.Rd)(u:Nat)(w:World)(hR:RdAt w rb s)(ho:Okk s)(hdp:s.deep≤90)(hlv:s.level≤s.deep)(hu:u < s.rows.length)
 (hn0:s.next [108,101,116]=false) (hn1:s.next [105,102]=false) (hn2:s.next [119,104,105,108,101]=false) (hy:s.next [112,114,105,110,116]=true)
 (a1 a2 a3 a4:Hg.Rd) (e1:s.step=a1) (e2:a1.node u (Hg.Rd.nd 11)=a2) (e3:Hg.Rd.expr f a2 s.rows.length=some a3) (e4:a3.need [59]=a4) (hf:Fin_ a4):
 Calls Tryz.prog 129 #[.pointer (some ⟨rb,0,none⟩),.int .i64 (u:Int)] w fun e w'=>e= .returned (.tuple #[])∧RdAt w' rb a4∧Below rb w w':=by
 have E1:Hg.Rd.Ap s a1:=by rw[←e1];exact(Hg.Rd.Am s).s
 have E2:Hg.Rd.Ap a1 a2:=by rw[←e2];exact(Hg.Rd.Ah a1 u _ rfl).s
 have E3:Hg.Rd.Ap a2 a3:=((Hg.Rd.Bi f).1 _ _ _ e3).s;have E4:Hg.Rd.Ap a3 a4:=by rw[←e4];exact(Hg.Rd.AZ a3 _).s
 have G3:Hg.Rd.Grow a3 a4:=E4.grow;have G2:Hg.Rd.Grow a2 a4:=E3.grow.trans G3;have G1:Hg.Rd.Grow a1 a4:=E2.grow.trans G2;have G0:Hg.Rd.Grow s a4:=E1.grow.trans G1;have ok_s:Okk s:=ho;have ok_a1:Okk a1:=ok_s.ss E1 G1 hf;have ok_a2:Okk a2:=ok_a1.ss E2 G2 hf;have ok_a3:Okk a3:=ok_a2.ss E3 G3 hf;have hnl:s.rows.length < a2.rows.length:=by rw[←e2,Hg.Rd.Av];rw[←e1];exact Nat.lt_succ_self _
 have len_a3:s.rows.length < a3.rows.length:=Nat.lt_of_lt_of_le hnl E3.grow.len;have len_a4:s.rows.length < a4.rows.length:=Nat.lt_of_lt_of_le len_a3 E4.grow.len;have T1:=fun W h=>zz (Ai (rb:=rb) (s:=s) (t:=[108,101,116]) (w:=W) h ok_s hn0);have T2:=fun W h=>zz (Ai (rb:=rb) (s:=s) (t:=[105,102]) (w:=W) h ok_s hn1);have T3:=fun W h=>zz (Ai (rb:=rb) (s:=s) (t:=[119,104,105,108,101]) (w:=W) h ok_s hn2);have T4:=fun W h=>zz (Cf (rb:=rb) (s:=s) (t:=[112,114,105,110,116]) (w:=W) h ok_s hy);rw[e1] at T4;have T5:=fun W h=>zz (Bg (rb:=rb) (s:=a1) (under:=u) s.rows.length (Hg.Rd.nd 11) (w:=W) h ok_a1 rfl (by first|exact hu|rfl|(rw[←e1];exact hu)|(rw[←e1];rfl)) (by first|exact hu|rfl|(rw[←e1];exact hu)|(rw[←e1];rfl)));rw[e2] at T5;have T6:=fun W h=>zz (Fb f rb a2 s.rows.length a3 W e3 h ok_a2 (by rw[E2.deep,E1.deep];exact hdp) (hf.of G3) (hnl));have T7:=fun W h=>zz (BN (rb:=rb) (s:=a3) (t:=[59]) (w:=W) h ok_a3);rw[e4] at T7;go_enter Tryz.func129,Tryz.ntmps129
 go_wp2_with (first
  |(go_at_call 91;((with_reducible refine((T1 _ hR).out).mono ?_);rintro e w1 ⟨rfl,hR1,hb1⟩))
  |(go_at_call 91;((with_reducible refine((T2 _ hR1).out).mono ?_);rintro e w2 ⟨rfl,hR2,hb2⟩))
  |(go_at_call 91;((with_reducible refine((T3 _ hR2).out).mono ?_);rintro e w3 ⟨rfl,hR3,hb3⟩))
  |(go_at_call 91;((with_reducible refine((T4 _ hR3).out).mono ?_);rintro e w4 ⟨rfl,hR4,hb4⟩))
  |(go_at_call 86;((refine((T5 _ hR4).out).mono ?_);rintro e w5 ⟨rfl,hR5,hb5⟩))
  |(go_at_call 130;((with_reducible refine((T6 _ hR5).out).mono ?_);rintro e w6 ⟨rfl,hR6,hb6⟩))
  |(go_at_call 87;((with_reducible refine((T7 _ hR6).out).mono ?_);rintro e w7 ⟨rfl,hR7,hb7⟩)))
 go_end0;exact⟨rfl,hR7,hb1.below.trans (hb2.below.trans (hb3.below.trans (hb4.below.trans (hb5.trans (hb6.trans (hb7.below))))))⟩
theorem Vd(f:Nat)(rb:Nat)(s:Hg.Rd)(u:Nat)(w:World)(hR:RdAt w rb s)(ho:Okk s)(hdp:s.deep≤90)(hlv:s.level≤s.deep)(hu:u < s.rows.length)
 (hn0:s.next [108,101,116]=false) (hn1:s.next [105,102]=false) (hn2:s.next [119,104,105,108,101]=false) (hn3:s.next [112,114,105,110,116]=false) (hy:s.next [100,111]=true)
 (a1 a2 a3 a4 a5:Hg.Rd) (x1:List UInt8) (e1:s.step=a1) (e2:a1.node u (Hg.Rd.nd 12)=a2) (qx1:a2.text 1=x1) (e3:a2.name=a3) (e4:Hg.Rd.call f a3 s.rows.length x1=some a4) (e5:a4.need [59]=a5) (hf:Fin_ a5):
 Calls Tryz.prog 129 #[.pointer (some ⟨rb,0,none⟩),.int .i64 (u:Int)] w fun e w'=>e= .returned (.tuple #[])∧RdAt w' rb a5∧Below rb w w':=by
 have E1:Hg.Rd.Ap s a1:=by rw[←e1];exact(Hg.Rd.Am s).s
 have E2:Hg.Rd.Ap a1 a2:=by rw[←e2];exact(Hg.Rd.Ah a1 u _ rfl).s
 have E3:Hg.Rd.Ap a2 a3:=by rw[←e3];exact(Hg.Rd.Cw a2).s
 have E4:Hg.Rd.Ap a3 a4:=((Hg.Rd.Bi f).2.1 _ _ _ _ e4).s;have E5:Hg.Rd.Ap a4 a5:=by rw[←e5];exact(Hg.Rd.AZ a4 _).s
 have G4:Hg.Rd.Grow a4 a5:=E5.grow;have G3:Hg.Rd.Grow a3 a5:=E4.grow.trans G4;have G2:Hg.Rd.Grow a2 a5:=E3.grow.trans G3;have G1:Hg.Rd.Grow a1 a5:=E2.grow.trans G2;have G0:Hg.Rd.Grow s a5:=E1.grow.trans G1;have ok_s:Okk s:=ho;have ok_a1:Okk a1:=ok_s.ss E1 G1 hf;have ok_a2:Okk a2:=ok_a1.ss E2 G2 hf;have ok_a3:Okk a3:=ok_a2.ss E3 G3 hf;have ok_a4:Okk a4:=ok_a3.ss E4 G4 hf;have hnl:s.rows.length < a2.rows.length:=by rw[←e2,Hg.Rd.Av];rw[←e1];exact Nat.lt_succ_self _
 have len_a3:s.rows.length < a3.rows.length:=Nat.lt_of_lt_of_le hnl E3.grow.len;have len_a4:s.rows.length < a4.rows.length:=Nat.lt_of_lt_of_le len_a3 E4.grow.len;have len_a5:s.rows.length < a5.rows.length:=Nat.lt_of_lt_of_le len_a4 E5.grow.len;have T1:=fun W h=>zz (Ai (rb:=rb) (s:=s) (t:=[108,101,116]) (w:=W) h ok_s hn0);have T2:=fun W h=>zz (Ai (rb:=rb) (s:=s) (t:=[105,102]) (w:=W) h ok_s hn1);have T3:=fun W h=>zz (Ai (rb:=rb) (s:=s) (t:=[119,104,105,108,101]) (w:=W) h ok_s hn2);have T4:=fun W h=>zz (Ai (rb:=rb) (s:=s) (t:=[112,114,105,110,116]) (w:=W) h ok_s hn3);have T5:=fun W h=>zz (Cf (rb:=rb) (s:=s) (t:=[100,111]) (w:=W) h ok_s hy);rw[e1] at T5;have T6:=fun W h=>zz (Bg (rb:=rb) (s:=a1) (under:=u) s.rows.length (Hg.Rd.nd 12) (w:=W) h ok_a1 rfl (by first|exact hu|rfl|(rw[←e1];exact hu)|(rw[←e1];rfl)) (by first|exact hu|rfl|(rw[←e1];exact hu)|(rw[←e1];rfl)));rw[e2] at T6;have T7:=fun W h=>zz (Fx (rb:=rb) (s:=a2) (w:=W) h ok_a2);rw[qx1,e3] at T7;have T8:=fun W h=>zz (VH f rb a3 s.rows.length x1 a4 W e4 h ok_a3 (by rw[E3.deep,E2.deep,E1.deep];exact hdp) (hf.of G4) (len_a3) (by rw[←qx1];exact ok_a2.text 1));have T9:=fun W h=>zz (BN (rb:=rb) (s:=a4) (t:=[59]) (w:=W) h ok_a4);rw[e5] at T9;go_enter Tryz.func129,Tryz.ntmps129
 go_wp2_with (first
  |(go_at_call 91;((with_reducible refine((T1 _ hR).out).mono ?_);rintro e w1 ⟨rfl,hR1,hb1⟩))
  |(go_at_call 91;((with_reducible refine((T2 _ hR1).out).mono ?_);rintro e w2 ⟨rfl,hR2,hb2⟩))
  |(go_at_call 91;((with_reducible refine((T3 _ hR2).out).mono ?_);rintro e w3 ⟨rfl,hR3,hb3⟩))
  |(go_at_call 91;((with_reducible refine((T4 _ hR3).out).mono ?_);rintro e w4 ⟨rfl,hR4,hb4⟩))
  |(go_at_call 91;((with_reducible refine((T5 _ hR4).out).mono ?_);rintro e w5 ⟨rfl,hR5,hb5⟩))
  |(go_at_call 86;((refine((T6 _ hR5).out).mono ?_);rintro e w6 ⟨rfl,hR6,hb6⟩))
  |(go_at_call 88;((with_reducible refine((T7 _ hR6).out).mono ?_);rintro e w7 ⟨rfl,hR7,hb7⟩))
  |(go_at_call 151;((with_reducible refine((T8 _ hR7).out).mono ?_);rintro e w8 ⟨rfl,hR8,hb8⟩))
  |(go_at_call 87;((with_reducible refine((T9 _ hR8).out).mono ?_);rintro e w9 ⟨rfl,hR9,hb9⟩)))
 go_end0;exact⟨rfl,hR9,hb1.below.trans (hb2.below.trans (hb3.below.trans (hb4.below.trans (hb5.below.trans (hb6.trans (hb7.below.trans (hb8.trans (hb9.below))))))))⟩
theorem Oc(f:Nat)(rb:Nat)(s:Hg.Rd)(u:Nat)(w:World)(hR:RdAt w rb s)(ho:Okk s)(hdp:s.deep≤90)(hlv:s.level≤s.deep)(hu:u < s.rows.length)
 (hn0:s.next [108,101,116]=false) (hn1:s.next [105,102]=false) (hn2:s.next [119,104,105,108,101]=false) (hn3:s.next [112,114,105,110,116]=false) (hn4:s.next [100,111]=false)
 (a1 a2 a3 a4 a5 a6 a7:Hg.Rd) (x1:List UInt8) (id:Nat) (qx1:s.text 1=x1) (e1:s.name=a1) (e2:a1.node u (Hg.Rd.nd 7)=a2) (qid:(a2.find x1).1=id) (e3:(a2.find x1).2=a3) (e4:a3.setRef s.rows.length id=a4) (e5:a4.need [61]=a5) (e6:Hg.Rd.expr f a5 s.rows.length=some a6) (e7:a6.need [59]=a7) (hf:Fin_ a7):
 Calls Tryz.prog 129 #[.pointer (some ⟨rb,0,none⟩),.int .i64 (u:Int)] w fun e w'=>e= .returned (.tuple #[])∧RdAt w' rb a7∧Below rb w w':=by
 have E1:Hg.Rd.Ap s a1:=by rw[←e1];exact(Hg.Rd.Cw s).s
 have E2:Hg.Rd.Ap a1 a2:=by rw[←e2];exact(Hg.Rd.Ah a1 u _ rfl).s
 have E3:Hg.Rd.Ap a2 a3:=by rw[←e3];exact(Hg.Rd.Li a2 x1).s
 have E4:Hg.Rd.Ap a3 a4:=by rw[←e4];exact(Hg.Rd.Ff a3 _ _).s
 have E5:Hg.Rd.Ap a4 a5:=by rw[←e5];exact(Hg.Rd.AZ a4 _).s
 have E6:Hg.Rd.Ap a5 a6:=((Hg.Rd.Bi f).1 _ _ _ e6).s;have E7:Hg.Rd.Ap a6 a7:=by rw[←e7];exact(Hg.Rd.AZ a6 _).s
 have G6:Hg.Rd.Grow a6 a7:=E7.grow;have G5:Hg.Rd.Grow a5 a7:=E6.grow.trans G6;have G4:Hg.Rd.Grow a4 a7:=E5.grow.trans G5;have G3:Hg.Rd.Grow a3 a7:=E4.grow.trans G4;have G2:Hg.Rd.Grow a2 a7:=E3.grow.trans G3;have G1:Hg.Rd.Grow a1 a7:=E2.grow.trans G2;have G0:Hg.Rd.Grow s a7:=E1.grow.trans G1;have ok_s:Okk s:=ho;have ok_a1:Okk a1:=ok_s.ss E1 G1 hf;have ok_a2:Okk a2:=ok_a1.ss E2 G2 hf;have ok_a3:Okk a3:=ok_a2.ss E3 G3 hf;have ok_a4:Okk a4:=ok_a3.ss E4 G4 hf;have ok_a5:Okk a5:=ok_a4.ss E5 G5 hf;have ok_a6:Okk a6:=ok_a5.ss E6 G6 hf;have hnl:s.rows.length < a2.rows.length:=by rw[←e2,Hg.Rd.Av];rw[←e1,DV];exact Nat.lt_succ_self _
 have len_a3:s.rows.length < a3.rows.length:=Nat.lt_of_lt_of_le hnl E3.grow.len;have len_a4:s.rows.length < a4.rows.length:=Nat.lt_of_lt_of_le len_a3 E4.grow.len;have len_a5:s.rows.length < a5.rows.length:=Nat.lt_of_lt_of_le len_a4 E5.grow.len;have len_a6:s.rows.length < a6.rows.length:=Nat.lt_of_lt_of_le len_a5 E6.grow.len;have len_a7:s.rows.length < a7.rows.length:=Nat.lt_of_lt_of_le len_a6 E7.grow.len;have T1:=fun W h=>zz (Ai (rb:=rb) (s:=s) (t:=[108,101,116]) (w:=W) h ok_s hn0);have T2:=fun W h=>zz (Ai (rb:=rb) (s:=s) (t:=[105,102]) (w:=W) h ok_s hn1);have T3:=fun W h=>zz (Ai (rb:=rb) (s:=s) (t:=[119,104,105,108,101]) (w:=W) h ok_s hn2);have T4:=fun W h=>zz (Ai (rb:=rb) (s:=s) (t:=[112,114,105,110,116]) (w:=W) h ok_s hn3);have T5:=fun W h=>zz (Ai (rb:=rb) (s:=s) (t:=[100,111]) (w:=W) h ok_s hn4);have T6:=fun W h=>zz (Fx (rb:=rb) (s:=s) (w:=W) h ok_s);rw[qx1,e1] at T6;have T7:=fun W h=>zz (Bg (rb:=rb) (s:=a1) (under:=u) s.rows.length (Hg.Rd.nd 7) (w:=W) h ok_a1 rfl (by first|(rw[←e1,DV];exact hu)|(rw[←e1,DV])) (by first|(rw[←e1,DV];exact hu)|(rw[←e1,DV])));rw[e2] at T7;have T8:=fun W h=>zz (Qf (rb:=rb) (s:=a2) (t:=x1) (w:=W) h ok_a2);rw[qid,e3] at T8;have T9:=fun W h=>zz (BN (rb:=rb) (s:=a4) (t:=[61]) (w:=W) h ok_a4);rw[e5] at T9;have T10:=fun W h=>zz (Fb f rb a5 s.rows.length a6 W e6 h ok_a5 (by rw[E5.deep,E4.deep,E3.deep,E2.deep,E1.deep];exact hdp) (hf.of G6) (len_a5));have T11:=fun W h=>zz (BN (rb:=rb) (s:=a6) (t:=[59]) (w:=W) h ok_a6);rw[e7] at T11;go_enter Tryz.func129,Tryz.ntmps129;go_upto_region 2 with(first
  |(go_at_call 91;((with_reducible refine((T1 _ hR).out).mono ?_);rintro e w1 ⟨rfl,hR1,hb1⟩))
  |(go_at_call 91;((with_reducible refine((T2 _ hR1).out).mono ?_);rintro e w2 ⟨rfl,hR2,hb2⟩))
  |(go_at_call 91;((with_reducible refine((T3 _ hR2).out).mono ?_);rintro e w3 ⟨rfl,hR3,hb3⟩))
  |(go_at_call 91;((with_reducible refine((T4 _ hR3).out).mono ?_);rintro e w4 ⟨rfl,hR4,hb4⟩))
  |(go_at_call 91;((with_reducible refine((T5 _ hR4).out).mono ?_);rintro e w5 ⟨rfl,hR5,hb5⟩))
  |(go_at_call 88;((with_reducible refine((T6 _ hR5).out).mono ?_);rintro e w6 ⟨rfl,hR6,hb6⟩))
  |(go_at_call 86;((refine((T7 _ hR6).out).mono ?_);rintro e w7 ⟨rfl,hR7,hb7⟩)))
 obtain⟨g,c,c4,hg1,hg2,_⟩:=hR7.forCell (k:=s.rows.length) (List.getElem?_eq_getElem hnl);have hHeld:(fun w'=>w'.cell? ⟨rb,4,none⟩=some (.slice (some ⟨g,0,none⟩) a2.rows.length c)) (World.drew w7):=c4;refine AR (fun w'=>w'.cell? ⟨rb,4,none⟩=some (.slice (some ⟨g,0,none⟩) a2.rows.length c)) 8 (by kernel_rfl) ?_;refine tz 0 _ _ _ ?_;refine tz 1 _ _ _ ?_;refine tz 2 _ _ _ ?_;refine tz 3 _ _ _ ?_;refine tz 4 _ _ _ ?_;refine tz 5 _ _ _ ?_;refine tz 6 _ _ _ ?_;refine AB (i:=7) rfl (by kernel_rfl) (fun K hK=> ?_);go_simp
 go_at_call 152
 refine((T8 _ (hR7.drewN 1)).out).mono ?_;rintro e w50 ⟨rfl,hR50,hb50⟩;refine hK.out _ _ (hb50.c4.trans hHeld) (fun hHeld=> ?_);clear hK K
 try simp only[Act.put,sA,sB,sC]
 refine AL (by kernel_rfl) ?_;simp only[List.drop_succ_cons,List.drop_zero];clear hHeld;obtain⟨g',c',c4',_,hg3,_,hcs,hfz,hset⟩:=hR50.forCell (k:=s.rows.length) (List.getElem?_eq_getElem len_a3);have hgg:=hb50.c4.symm.trans c4';rw[show(w7.drewN 1).cell? ⟨rb,4,none⟩=w7.cell? ⟨rb,4,none⟩ from rfl,c4] at hgg;injection hgg with hgg;injection hgg with e1_ e2_ e3_;injection e1_ with e1_;injection e1_ with e1_;subst e1_;clear e3_;obtain⟨u5,hc5⟩:=hcs 5 (by omega);have hf5:=hfz (s.rows.length*7+5);have HS:=zz hset;have hi1:(0:Int)≤(s.rows.length:Int):=by omega
 have hi2:(s.rows.length:Int) < (a2.rows.length:Int):=by omega
 clear hset hcs hfz c4'
 go_wp2_with (first
  |(go_at_call 87;rw[show s.rows.length*7+1+4=s.rows.length*7+5 by omega];obtain⟨r1,r2⟩:=HS.out 5 (.int .u64 (id:Int)) (fun x=>{x with node:={x.node with ref:=id}}) (by omega) (fun _ _=>rfl) (fun _=>rfl);replace r1:RdAt _ rb a4:=(by rw[←e4];exact r1);((with_reducible refine((T9 _ r1).out).mono ?_);rintro e w60 ⟨rfl,hR60,hb60⟩))
  |(go_at_call 130;((with_reducible refine((T10 _ hR60).out).mono ?_);rintro e w61 ⟨rfl,hR61,hb61⟩))
  |(go_at_call 87;((with_reducible refine((T11 _ hR61).out).mono ?_);rintro e w62 ⟨rfl,hR62,hb62⟩)))
 go_end0;exact⟨rfl,hR62,hb1.below.trans (hb2.below.trans (hb3.below.trans (hb4.below.trans (hb5.below.trans (hb6.below.trans (hb7.trans (((below_drewN (Below.refl _ _) 1).trans hb50.below).trans (r2.trans (hb60.below.trans (hb61.trans (hb62.below)))))))))))⟩
theorem UH(f:Nat)(rb:Nat)(s:Hg.Rd)(u:Nat)(w:World)(hR:RdAt w rb s)(ho:Okk s)(hdp:s.deep≤90)(hlv:s.level≤s.deep)(hu:u < s.rows.length)
 (hy:s.next [108,101,116]=true)
 (a1 a2 a3 a4 a5 a6 a7 a8 a9:Hg.Rd) (x1:List UInt8) (ty:Nat) (e1:s.step=a1) (qx1:a1.text 1=x1) (e2:a1.name=a2) (e3:a2.node u (Hg.Rd.AO 6 x1)=a3) (qty:a3.typed.1=ty) (e4:a3.typed.2=a4) (e5:a4.Al s.rows.length ty=a5) (e6:a5.need [61]=a6) (e7:Hg.Rd.expr f a6 s.rows.length=some a7) (e8:a7.declare x1 s.rows.length=a8) (e9:a8.need [59]=a9) (hf:Fin_ a9):
 Calls Tryz.prog 129 #[.pointer (some ⟨rb,0,none⟩),.int .i64 (u:Int)] w fun e w'=>e= .returned (.tuple #[])∧RdAt w' rb a9∧Below rb w w':=by
 have E1:Hg.Rd.Ap s a1:=by rw[←e1];exact(Hg.Rd.Am s).s
 have E2:Hg.Rd.Ap a1 a2:=by rw[←e2];exact(Hg.Rd.Cw a1).s
 have E3:Hg.Rd.Ap a2 a3:=by rw[←e3];exact(Hg.Rd.Ah a2 u _ rfl).s
 have E4:Hg.Rd.Ap a3 a4:=by rw[←e4];exact(Hg.Rd.Ex a3).s
 have E5:Hg.Rd.Ap a4 a5:=by rw[←e5];exact(Hg.Rd.Dk a4 _ _).s
 have E6:Hg.Rd.Ap a5 a6:=by rw[←e6];exact(Hg.Rd.AZ a5 _).s
 have E7:Hg.Rd.Ap a6 a7:=((Hg.Rd.Bi f).1 _ _ _ e7).s;have E8:Hg.Rd.Ap a7 a8:=by rw[←e8];exact(by
  have S1:Hg.Rd.Ad s a1:=by rw[←e1];exact Hg.Rd.Am s
  have S2:Hg.Rd.Ad a1 a2:=by rw[←e2];exact Hg.Rd.Cw a1
  have S3:Hg.Rd.Ad a2 a3:=by rw[←e3];exact Hg.Rd.Ah a2 u _ rfl
  have S4:Hg.Rd.Ad a3 a4:=by rw[←e4];exact Hg.Rd.Ex a3
  have S5:Hg.Rd.Ad a4 a5:=by rw[←e5];exact Hg.Rd.Dk a4 _ _
  have S6:Hg.Rd.Ad a5 a6:=by rw[←e6];exact Hg.Rd.AZ a5 _
  have S7:Hg.Rd.Ad a6 a7:=(Hg.Rd.Bi f).1 _ _ _ e7;have g:=((S4.trans S5).trans (S6.trans S7)).grow.len;have hl3:a3.rows.length=s.rows.length+1:=by rw[←e3,Hg.Rd.Av,←e2,DV,←e1];rfl
  obtain⟨d1,d2,d3,d4,d5,d6⟩:=Hg.Rd.FU a7 x1 s.rows.length;exact⟨Hg.Rd.FQ _ _ _,fun _=>(Hg.Rd.Gz (((S1.trans S2).trans (S3.trans S4)).trans ((S5.trans S6).trans S7)) (by omega) _ _).inv ho.inv,d1,d2,d3,d4,d5⟩)
 have E9:Hg.Rd.Ap a8 a9:=by rw[←e9];exact(Hg.Rd.AZ a8 _).s
 have G8:Hg.Rd.Grow a8 a9:=E9.grow;have G7:Hg.Rd.Grow a7 a9:=E8.grow.trans G8;have G6:Hg.Rd.Grow a6 a9:=E7.grow.trans G7;have G5:Hg.Rd.Grow a5 a9:=E6.grow.trans G6;have G4:Hg.Rd.Grow a4 a9:=E5.grow.trans G5;have G3:Hg.Rd.Grow a3 a9:=E4.grow.trans G4;have G2:Hg.Rd.Grow a2 a9:=E3.grow.trans G3;have G1:Hg.Rd.Grow a1 a9:=E2.grow.trans G2;have G0:Hg.Rd.Grow s a9:=E1.grow.trans G1;have ok_s:Okk s:=ho;have ok_a1:Okk a1:=ok_s.ss E1 G1 hf;have ok_a2:Okk a2:=ok_a1.ss E2 G2 hf;have ok_a3:Okk a3:=ok_a2.ss E3 G3 hf;have ok_a4:Okk a4:=ok_a3.ss E4 G4 hf;have ok_a5:Okk a5:=ok_a4.ss E5 G5 hf;have ok_a6:Okk a6:=ok_a5.ss E6 G6 hf;have ok_a7:Okk a7:=ok_a6.ss E7 G7 hf;have ok_a8:Okk a8:=ok_a7.ss E8 G8 hf;have hnl:s.rows.length < a3.rows.length:=by rw[←e3,Hg.Rd.Av];rw[←e2,DV,←e1];exact Nat.lt_succ_self _
 have len_a4:s.rows.length < a4.rows.length:=Nat.lt_of_lt_of_le hnl E4.grow.len;have len_a5:s.rows.length < a5.rows.length:=Nat.lt_of_lt_of_le len_a4 E5.grow.len;have len_a6:s.rows.length < a6.rows.length:=Nat.lt_of_lt_of_le len_a5 E6.grow.len;have len_a7:s.rows.length < a7.rows.length:=Nat.lt_of_lt_of_le len_a6 E7.grow.len;have len_a8:s.rows.length < a8.rows.length:=Nat.lt_of_lt_of_le len_a7 E8.grow.len;have len_a9:s.rows.length < a9.rows.length:=Nat.lt_of_lt_of_le len_a8 E9.grow.len;have T1:=fun W h=>zz (Cf (rb:=rb) (s:=s) (t:=[108,101,116]) (w:=W) h ok_s hy);rw[e1] at T1;have T2:=fun W h=>zz (Fx (rb:=rb) (s:=a1) (w:=W) h ok_a1);rw[qx1,e2] at T2;have T3:=fun W h=>zz (Bg (rb:=rb) (s:=a2) (under:=u) s.rows.length (Hg.Rd.AO 6 x1) (w:=W) h ok_a2 rfl (by first|(rw[←e2,DV,←e1];exact hu)|(rw[←e2,DV,←e1];rfl)) (by first|(rw[←e2,DV,←e1];exact hu)|(rw[←e2,DV,←e1];rfl)));rw[e3] at T3;have T4:=fun W h=>zz (KY (rb:=rb) (s:=a3) (w:=W) h ok_a3);rw[qty,e4] at T4;have T5:=fun W h=>zz (BN (rb:=rb) (s:=a5) (t:=[61]) (w:=W) h ok_a5);rw[e6] at T5;have T6:=fun W h=>zz (Fb f rb a6 s.rows.length a7 W e7 h ok_a6 (by rw[E6.deep,E5.deep,E4.deep,E3.deep,E2.deep,E1.deep];exact hdp) (hf.of G7) (len_a6));have T7:=fun W h=>zz (LW (rb:=rb) (s:=a7) (t:=x1) (k:=s.rows.length) (w:=W) h ok_a7 (len_a7));rw[e8] at T7;have T8:=fun W h=>zz (BN (rb:=rb) (s:=a8) (t:=[59]) (w:=W) h ok_a8);rw[e9] at T8;go_enter Tryz.func129,Tryz.ntmps129;go_upto_region 9 with(first
  |(go_at_call 91;((with_reducible refine((T1 _ hR).out).mono ?_);rintro e w1 ⟨rfl,hR1,hb1⟩))
  |(go_at_call 88;((with_reducible refine((T2 _ hR1).out).mono ?_);rintro e w2 ⟨rfl,hR2,hb2⟩))
  |(go_at_call 86;((refine((T3 _ hR2).out).mono ?_);rintro e w3 ⟨rfl,hR3,hb3⟩)))
 obtain⟨g,c,c4,hg1,hg2,_⟩:=hR3.forCell (k:=s.rows.length) (List.getElem?_eq_getElem hnl);have hHeld:(fun w'=>w'.cell? ⟨rb,4,none⟩=some (.slice (some ⟨g,0,none⟩) a3.rows.length c)) (World.drew w3):=c4;refine AR (fun w'=>w'.cell? ⟨rb,4,none⟩=some (.slice (some ⟨g,0,none⟩) a3.rows.length c)) 7 (by kernel_rfl) ?_;refine tz 0 _ _ _ ?_;refine tz 1 _ _ _ ?_;refine tz 2 _ _ _ ?_;refine tz 3 _ _ _ ?_;refine tz 4 _ _ _ ?_;refine tz 5 _ _ _ ?_;refine AB (i:=6) rfl (by kernel_rfl) (fun K hK=> ?_);go_simp
 go_at_call 127
 refine((T4 _ (hR3.drewN 1)).out).mono ?_;rintro e w50 ⟨rfl,hR50,hb50⟩;refine hK.out _ _ (hb50.c4.trans hHeld) (fun hHeld=> ?_);clear hK K
 try simp only[Act.put,sA,sB,sC]
 refine AL (by kernel_rfl) ?_;simp only[List.drop_succ_cons,List.drop_zero];clear hHeld;obtain⟨g',c',c4',_,hg3,_,hcs,hfz,hset⟩:=hR50.forCell (k:=s.rows.length) (List.getElem?_eq_getElem len_a4);have hgg:=hb50.c4.symm.trans c4';rw[show(w3.drewN 1).cell? ⟨rb,4,none⟩=w3.cell? ⟨rb,4,none⟩ from rfl,c4] at hgg;injection hgg with hgg;injection hgg with e1_ e2_ e3_;injection e1_ with e1_;injection e1_ with e1_;subst e1_;clear e3_;obtain⟨u5,hc5⟩:=hcs 4 (by omega);have hf5:=hfz (s.rows.length*7+4);have HS:=zz hset;have hi1:(0:Int)≤(s.rows.length:Int):=by omega
 have hi2:(s.rows.length:Int) < (a3.rows.length:Int):=by omega
 clear hset hcs hfz c4'
 go_wp2_with (first
  |(go_at_call 87;rw[show s.rows.length*7+1+3=s.rows.length*7+4 by omega];obtain⟨r1,r2⟩:=HS.out 4 (.int .u8 (ty:Int)) (fun x=>{x with node:={x.node with type:=ty}}) (by omega) (fun _ _=>rfl) (fun _=>rfl);replace r1:RdAt _ rb a5:=(by rw[←e5];exact r1);((with_reducible refine((T5 _ r1).out).mono ?_);rintro e w60 ⟨rfl,hR60,hb60⟩))
  |(go_at_call 130;((with_reducible refine((T6 _ hR60).out).mono ?_);rintro e w61 ⟨rfl,hR61,hb61⟩))
  |(go_at_call 128;((with_reducible refine((T7 _ hR61).out).mono ?_);rintro e w62 ⟨rfl,hR62,hb62⟩))
  |(go_at_call 87;((with_reducible refine((T8 _ hR62).out).mono ?_);rintro e w63 ⟨rfl,hR63,hb63⟩)))
 go_end0;exact⟨rfl,hR63,hb1.below.trans (hb2.below.trans (hb3.trans (((below_drewN (Below.refl _ _) 1).trans hb50.below).trans (r2.trans (hb60.below.trans (hb61.trans (hb62.trans (hb63.below))))))))⟩
theorem Q5(f:Nat)(ihB:NG f):XJ (f+1):=by
 intro rb s u s' w h hR ho hdp hlv hf hu;rw[Hg.Rd.stmt] at h
 try dsimp only at h
 by_cases h1:s.next Hg.wLet=true
 ·rw[if_pos h1] at h
  generalize e1:s.step=a1 at h;generalize q1:a1.text 1=x1 at h;generalize e2:a1.name=a2 at h;generalize e3:a2.node u (Hg.Rd.AO 6 x1)=a3 at h;generalize qty:a3.typed.1=ty at h;generalize e4:a3.typed.2=a4 at h;generalize e5:a4.Al s.rows.length ty=a5 at h;generalize e6:a5.need [61]=a6 at h;cases e7:Hg.Rd.expr f a6 s.rows.length with
  |none=>rw[e7] at h;simp at h
  |some a7=>
    rw[e7] at h;injection h with h;exact UH f rb s u w hR ho hdp hlv hu h1 a1 a2 a3 a4 a5 a6 a7 _ _ x1 ty e1 q1 e2 e3 qty e4 e5 e6 e7 rfl h hf
 rw[if_neg h1] at h;have n1:s.next Hg.wLet=false:=by simpa using h1
 by_cases h2:s.next Hg.wIf=true
 ·rw[if_pos h2] at h
  generalize e1:s.step=a1 at h;generalize e2:a1.node u (Hg.Rd.nd 8)=a2 at h;cases e3:Hg.Rd.expr f a2 s.rows.length with
  |none=>rw[e3] at h;simp at h
  |some a3=>
    rw[e3] at h;dsimp only at h;cases e4:Hg.Rd.block f a3 s.rows.length with
    |none=>rw[e4] at h;simp at h
    |some a4=>
      rw[e4] at h;dsimp only at h;exact Vb f ihB rb s u w hR ho hdp hlv hu n1 h2 a1 a2 a3 a4 _ _ e1 e2 e3 e4 rfl h hf
 rw[if_neg h2] at h;have n2:s.next Hg.wIf=false:=by simpa using h2
 by_cases h3:s.next Hg.Gv=true
 ·rw[if_pos h3] at h
  generalize e1:s.step=a1 at h;generalize e2:a1.node u (Hg.Rd.nd 9)=a2 at h;cases e3:Hg.Rd.expr f a2 s.rows.length with
  |none=>rw[e3] at h;simp at h
  |some a3=>
    rw[e3] at h;dsimp only at h;exact PY f ihB rb s u w hR ho hdp hlv hu n1 n2 h3 a1 a2 a3 _ e1 e2 e3 h hf
 rw[if_neg h3] at h;have n3:s.next Hg.Gv=false:=by simpa using h3
 by_cases h4:s.next Hg.Gw=true
 ·rw[if_pos h4] at h
  generalize e1:s.step=a1 at h;generalize e2:a1.node u (Hg.Rd.nd 11)=a2 at h;cases e3:Hg.Rd.expr f a2 s.rows.length with
  |none=>rw[e3] at h;simp at h
  |some a3=>
    rw[e3] at h;injection h with h;exact PZ f rb s u w hR ho hdp hlv hu n1 n2 n3 h4 a1 a2 a3 _ e1 e2 e3 h hf
 rw[if_neg h4] at h;have n4:s.next Hg.Gw=false:=by simpa using h4
 by_cases h5:s.next Hg.wDo=true
 ·rw[if_pos h5] at h
  generalize e1:s.step=a1 at h;generalize e2:a1.node u (Hg.Rd.nd 12)=a2 at h;generalize q1:a2.text 1=x1 at h;generalize e3:a2.name=a3 at h;cases e4:Hg.Rd.call f a3 s.rows.length x1 with
  |none=>rw[e4] at h;simp at h
  |some a4=>
    rw[e4] at h;injection h with h;exact Vd f rb s u w hR ho hdp hlv hu n1 n2 n3 n4 h5 a1 a2 a3 a4 _ x1 e1 e2 q1 e3 e4 h hf
 rw[if_neg h5] at h;have n5:s.next Hg.wDo=false:=by simpa using h5
 generalize q1:s.text 1=x1 at h;generalize e1:s.name=a1 at h;generalize e2:a1.node u (Hg.Rd.nd 7)=a2 at h;generalize qid:(a2.find x1).1=id at h;generalize e3:(a2.find x1).2=a3 at h;generalize e4:a3.setRef s.rows.length id=a4 at h;generalize e5:a4.need [61]=a5 at h;cases e6:Hg.Rd.expr f a5 s.rows.length with
 |none=>rw[e6] at h;simp at h
 |some a6=>
   rw[e6] at h;injection h with h;exact Oc f rb s u w hR ho hdp hlv hu n1 n2 n3 n4 n5 a1 a2 a3 a4 a5 a6 _ x1 id q1 e1 e2 qid e3 e4 e5 e6 h hf
theorem UI(f:Nat):XJ f∧NG f:=by
 induction f using Nat.strongRecOn with
 |_ f ih=>
   cases f with
   |zero=>exact⟨fun rb s u s' w he=>by simp[Hg.Rd.stmt] at he,fun rb s u s' w he=>by simp[Hg.Rd.block] at he⟩
   |succ f=>exact⟨Q5 f (ih f (Nat.lt_succ_self f)).2,R7 f fun g hg=>(ih g (by omega)).1⟩
end Go.Proofs.YtljmibnfmilfbaaGreatDoor
