/-
  Part of the proof of CheckLists.
-/
import Derived.Test.YtljmibnfmilfbaaGreatDoorKeAH
import Derived.Test.YtljmibnfmilfbaaGreatDoorKeAD
import Derived.Test.YtljmibnfmilfbaaGreatDoorKeAJ
import Derived.Test.YtljmibnfmilfbaaGreatDoorKeAM
import Derived.Test.YtljmibnfmilfbaaGreatDoorKeAI
import Derived.Test.YtljmibnfmilfbaaGreatDoorKeAA
set_option linter.all false
set_option maxHeartbeats 32000000
set_option maxRecDepth 100000
namespace Go.Proofs.YtljmibnfmilfbaaGreatDoor
open Go.RowKit
theorem Xd:(Tryz.prog.info? 55).map (fun i=>(i.zero,i.size,i.bytes))=some (some (.agg #[.int .u64 0,.int .u8 0,.string ⟨#[]⟩,.int .i64 0,.int .u8 0,.int .u64 0,.slice none 0 0]),7,80):=by kernel_rfl
theorem Rc:(Tryz.prog.info? 30).map (fun i=>(i.zero,i.size,i.bytes))=some (some (.int .u64 0),1,8):=by kernel_rfl
theorem Ac{P:Program}{ops:Array Oper}{o:Oper}{a:Act}{w:World}{K:Act→World→Prop}{Q:Exit→Act→World→Prop}{E:Prop}(hgd:o.guard=none)(s x:Operand)(t:TypeId)
 (ho:o.op= .call {callee:= .builtin .append,args:= #[s,x],argTypes:= #[t,t]})
 (base:Nat) (e:TypeId) (i:TypeInfo) (z:Value) (size bytes:Nat) (ht:P.underlying t=some (.slice e)) (hi:P.info? e=some i) (hz:i.zero=some z)
 (hsize:i.size=size) (hby:i.bytes=bytes) (hzs:z.cells.size=size) (hsz:0 < size)
 (v:Value) (n:Nat) (xs:List Value) (hs:a.eval s=v) (hown:w.ownsRow base e size v n xs)
 (ad:Addr) (m c:Nat) (news:List Value) (hx:a.eval x= .slice (some ad) m c) (hl:news.length=m*size) (hnews:∀j u,news[j]? =some u→w.cell? (ad.add j)=some u) (h1:∀u∈news,u.oneCell'=true)
 (h63:n+m≤maxLen) (hbytes:(n+m)*bytes≤140737488355328) (hbase:base≤w.heap.size)
 (h:∀v' w',w'.ownsRow base e size v' (n+m) (xs++news)→w.grownBy w' v.ownBlock→(v'.ownBlock=v.ownBlock∨v'.ownBlock=some w.heap.size)→K (a.put o.dst v') w'):
 if Region.wanted o (yielded ops a.tmps)=true then Oper.wp P o a w K Q else E:=by
 have hw:Region.wanted o (yielded ops a.tmps)=true:=by simp[Region.wanted,hgd]
 rw[if_pos hw];obtain⟨v',w',hr,h2,h3,h4,h5⟩:=run_append_own_at (P:=P) w base t o.type e i z size bytes ht hi hz hsize hby hzs hsz v n xs hown ad m c news hl hnews h1 h63 hbytes hbase;unfold Oper.wp execOp;simp only[ho,resolve,invoke,builtin,Sem.run_bind,Sem.run_pure,Result.andThen_ok,List.map_toArray,List.map_cons,List.map_nil,hs,hx,hr];exact h v' w' h2 h3 h5
theorem row_one(r:Hg.Row):∀u∈Ag r (.slice none 0 0),u.oneCell'=true:=by
 intro u hu;simp only[Ag,List.mem_cons,List.not_mem_nil,or_false] at hu;rcases hu with rfl|rfl|rfl|rfl|rfl|rfl|rfl <;>rfl
@[reducible] def V4(n:Hg.Node)(kv:Value):Value:= .agg #[.int .u8 (n.kind:Int),strV n.name,.int .i64 n.num,.int .u8 (n.type:Int),.int .u64 (n.ref:Int),kv]
theorem UZ(s:Hg.Rd)(under:Nat)(nd:Hg.Node)(h:s.rows.length=0):s.node under nd={s with rows:=s.rows++[⟨s.rows.length+1,nd⟩]}:=by
 simp[Hg.Rd.node,h]
theorem V3(s:Hg.Rd)(under:Nat)(nd:Hg.Node)(h:0 < s.rows.length):s.node under nd={s with rows:=Hg.Rd.Eh (s.rows++[⟨s.rows.length+1,nd⟩]) under (s.rows.length+1)}:=by
 simp only[Hg.Rd.node];rw[if_pos (by omega)]
theorem Nl(rb:Nat)(s:Hg.Rd)(under:Nat)(nd:Hg.Node)(w:World)(hR:RdAt w rb s)(hk:nd.kids=[])(hu:under < s.rows.length∨s.rows.length=0)(hl:s.rows.length≤100000000)
 (hkl:∀(k:Nat) (r:Hg.Row),s.rows[k]? =some r→r.node.kids.length≤100000000):
 Calls Tryz.prog 86 #[.pointer (some ⟨rb,0,none⟩),.int .i64 (under:Int),V4 nd (.slice none 0 0)] w fun e w'=>
  e= .returned (.int .i64 (s.rows.length:Int))∧RdAt w' rb (s.node under nd)∧Below rb w w':=by
 obtain⟨i0,hi,hz0,hz1,hz2⟩:=info_parts Xd;obtain⟨j0,hj,hj0,hj1,hj2⟩:=info_parts Rc;have hlt:=hR.lt;obtain⟨a,c,xs,c4,hown,hnew⟩:=hR.forRow;have f4:=hR.frozen 4;have HN:=zz hnew;have HO:=zz hown;have HF4:=zz f4;clear hR hown hnew;have hw1:IntKind.u64.wrap ((s.rows.length:Int)+1)=(s.rows.length:Int)+1:=IntWalk.u64_in _ (by omega);go_enter Tryz.func86,Tryz.ntmps86;go_wp2;have hbx:∀j u,[Value.int .u8 (nd.kind:Int),strV nd.name,.int .i64 nd.num,.int .u8 (nd.type:Int),.int .u64 (nd.ref:Int),.slice none 0 0][j]? =some u→(w.alloc (.cells #[.int .u8 (nd.kind:Int),strV nd.name,.int .i64 nd.num,.int .u8 (nd.type:Int),.int .u64 (nd.ref:Int),.slice none 0 0] 33)).cell? ⟨w.heap.size,j,none⟩=some u:=by
  intro j u hj;rw[cell_of_row _ w.heap.size j _ 33 (0,0) (heap_alloc_new w _)];simpa using hj
 have hbel:Below w.heap.size w (w.alloc (.cells #[.int .u8 (nd.kind:Int),strV nd.name,.int .i64 nd.num,.int .u8 (nd.type:Int),.int .u64 (nd.ref:Int),.slice none 0 0] 33)):=(Below.refl _ _).alloc (Nat.le_refl _) _;have hsz:w.heap.size+1=(w.alloc (.cells #[.int .u8 (nd.kind:Int),strV nd.name,.int .i64 nd.num,.int .u8 (nd.type:Int),.int .u64 (nd.ref:Int),.slice none 0 0] 33)).heap.size:=by simp
 generalize World.alloc w _=W0 at hbx hbel hsz⊢;have hHeld:(fun w'=>w'.cell? ⟨rb,4,none⟩=some (.slice a s.rows.length c)∧w'.cell? ⟨w.heap.size,0,none⟩=some (.int .u8 (nd.kind:Int))∧w'.cell? ⟨w.heap.size,1,none⟩=some (strV nd.name)∧w'.cell? ⟨w.heap.size,2,none⟩=some (.int .i64 nd.num)∧w'.cell? ⟨w.heap.size,3,none⟩=some (.int .u8 (nd.type:Int))∧w'.cell? ⟨w.heap.size,4,none⟩=some (.int .u64 (nd.ref:Int))∧w'.cell? ⟨w.heap.size,5,none⟩=some (.slice none 0 0)) W0.drew:=⟨(hbel.cell hlt).trans c4,hbx 0 _ rfl,hbx 1 _ rfl,hbx 2 _ rfl,hbx 3 _ rfl,hbx 4 _ rfl,hbx 5 _ rfl⟩;clear hbx c4 f4;have HSZ:=zz hsz;clear hsz;refine AR (fun w'=>w'.cell? ⟨rb,4,none⟩=some (.slice a s.rows.length c)∧w'.cell? ⟨w.heap.size,0,none⟩=some (.int .u8 (nd.kind:Int))∧w'.cell? ⟨w.heap.size,1,none⟩=some (strV nd.name)∧w'.cell? ⟨w.heap.size,2,none⟩=some (.int .i64 nd.num)∧w'.cell? ⟨w.heap.size,3,none⟩=some (.int .u8 (nd.type:Int))∧w'.cell? ⟨w.heap.size,4,none⟩=some (.int .u64 (nd.ref:Int))∧w'.cell? ⟨w.heap.size,5,none⟩=some (.slice none 0 0)) 10 (by kernel_rfl) ?_;refine tz 0 _ _ _ ?_;refine tz 1 _ _ _ ?_;refine tz 2 _ _ _ ?_;refine tz 3 _ _ _ ?_;refine tz 4 _ _ _ ?_;refine tz 5 _ _ _ ?_;refine tz 6 _ _ _ ?_;refine tz 7 _ _ _ ?_;refine AB (i:=8) rfl (by kernel_rfl) (fun K hK=> ?_);go_simp;refine hK.out _ _ (⟨CR hHeld.1 _,CR hHeld.2.1 _,CR hHeld.2.2.1 _,CR hHeld.2.2.2.1 _,CR hHeld.2.2.2.2.1 _,CR hHeld.2.2.2.2.2.1 _,CR hHeld.2.2.2.2.2.2 _⟩) (fun hHeld=> ?_);clear hK K
 try simp only[Act.put,sA,sB,sC]
 refine AB (i:=9) rfl (by kernel_rfl) (fun K hK=> ?_);refine Ac rfl (.tmp 19) (.tmp 23) _ rfl (rb+1) 55 i0 _ 7 80 Tryz.underlying24 hi hz0 hz1 hz2 rfl (by decide) _ _ _ rfl ((own_below HO.out hbel (Nat.le_refl _)).alloc _) ⟨_,0,none⟩ 1 1 (Ag ⟨s.rows.length+1,nd⟩ (.slice none 0 0)) rfl rfl ?_ (row_one _) ?_ ?_ ?_ ?_
 ·exact Af _ _ _
 ·unfold maxLen;omega
 ·omega
 ·have:=hbel.size;simp;omega
 intro v1 W1 hown1 hg hat;have hne1:some rb≠Value.ownBlock (.slice a s.rows.length c):=fun e=>by have:=(HO.out.lt rb e.symm).1;omega
 have hne2:some w.heap.size≠Value.ownBlock (.slice a s.rows.length c):=fun e=>by have:=(HO.out.lt w.heap.size e.symm).2;omega
 refine hK.out _ _ (⟨hg.cell hHeld.1 hne1,hg.cell hHeld.2.1 hne2,hg.cell hHeld.2.2.1 hne2,hg.cell hHeld.2.2.2.1 hne2,hg.cell hHeld.2.2.2.2.1 hne2,hg.cell hHeld.2.2.2.2.2.1 hne2,hg.cell hHeld.2.2.2.2.2.2 hne2⟩) (fun hHeld=> ?_);clear hK K
 try simp only[Act.put,sA,sB,sC]
 refine AL (by kernel_rfl) ?_;simp only[List.drop_succ_cons,List.drop_zero];obtain⟨g1,c1,rfl⟩:=ownsRow_succ hown1;obtain⟨hRn,hBn⟩:=HN.out _ W1 _ ⟨s.rows.length+1,nd⟩ (hbel.drew.alloc hbel.size _) hk hown1 hg hat;have hc1:=hHeld.1;have hf1:W1.frozen? ⟨rb,4,none⟩=false:=by
  rw[World.frozen?_of_block (hg.block rb (by have:=hbel.size;simp;omega) hne1)];rw[World.frozen?_of_block (w:=w) ((hbel.drew.alloc hbel.size _).block rb hlt)];exact HF4.out
 clear hne1 hne2 hHeld hg hat hown1 hbel;rcases Nat.eq_zero_or_pos s.rows.length with hz|hz
 ·have hq1:decide ((1:Int) < (s.rows.length:Int)+1)=false:=by simp;omega
  have hnode:=zz (UZ s under nd hz);clear hz hu;go_wp2;go_ret;exact⟨Cu (by omega),by rw[hnode.out];exact hRn,hBn⟩
 ·have hq1:decide ((1:Int) < (s.rows.length:Int)+1)=true:=by simp;omega
  have hq2:decide (0 < s.rows.length)=true:=by simp;omega
  have hnode:=zz (V3 s under nd hz);have hus:under < s.rows.length:=by omega
  go_wp2;clear hc1 hf1;generalize World.setCell W1 _ _=W2 at hRn hBn⊢;have hl1:({s with rows:=s.rows++[⟨s.rows.length+1,nd⟩]}:Hg.Rd).rows.length=s.rows.length+1:=by simp
  have hr1:({s with rows:=s.rows++[⟨s.rows.length+1,nd⟩]}:Hg.Rd).rows[under]? =some s.rows[under]:=by simp[List.getElem?_append_left hus]
  have hkr:=hkl under s.rows[under] (List.getElem?_eq_getElem hus);obtain⟨g,c2,ka,kc,k4,hg1,hg2,k6,fk,hd1,hd2,hko,hkn⟩:=hRn.forKid hr1;rw[hl1] at k4 hkn;have hlt2:=hRn.lt;have HKN:=zz hkn;have HKO:=zz hko;have HD1:=zz hd1;have HD2:=zz hd2;have hHeld:(fun w'=>w'.cell? ⟨rb,4,none⟩=some (.slice (some ⟨g,0,none⟩) (s.rows.length+1) c2)∧w'.cell? ⟨g,under*7+6,none⟩=some (.slice ka s.rows[under].node.kids.length kc)) W2.drew:=⟨k4,k6⟩;have hi1:(0:Int)≤(under:Int):=by omega
  have hi2:(under:Int) < (s.rows.length:Int)+1:=by omega
  have hi3:(under:Int) < ((s.rows.length+1:Nat):Int):=by omega
  clear hRn hko hkn hd1 hd2 hr1 hl1 hq1 hq2 hkl;generalize s.rows[under]=r at*;refine AR (fun w'=>w'.cell? ⟨rb,4,none⟩=some (.slice (some ⟨g,0,none⟩) (s.rows.length+1) c2)∧w'.cell? ⟨g,under*7+6,none⟩=some (.slice ka r.node.kids.length kc)) 17 (by kernel_rfl) ?_;refine tz 0 _ _ _ ?_;refine tz 1 _ _ _ ?_;refine tz 2 _ _ _ ?_;refine tz 3 _ _ _ ?_;refine tz 4 _ _ _ ?_;refine tz 5 _ _ _ ?_;refine tz 6 _ _ _ ?_;refine tz 7 _ _ _ ?_;refine tz 8 _ _ _ ?_;refine tz 9 _ _ _ ?_;refine tz 10 _ _ _ ?_;refine tz 11 _ _ _ ?_;refine tz 12 _ _ _ ?_;refine tz 13 _ _ _ ?_;refine tz 14 _ _ _ ?_;refine AB (i:=15) rfl (by kernel_rfl) (fun K hK=> ?_);go_simp;refine hK.out _ _ (⟨CR hHeld.1 _,CR hHeld.2 _⟩) (fun hHeld=> ?_);clear hK K
  try simp only[Act.put,sA,sB,sC]
  refine AB (i:=16) rfl (by kernel_rfl) (fun K hK=> ?_);refine Ac rfl (.tmp 42) (.tmp 44) _ rfl (rb+1) 30 j0 _ 1 8 Tryz.underlying31 hj hj0 hj1 hj2 rfl (by decide) _ _ _ rfl (HKO.out.alloc _) ⟨_,0,none⟩ 1 1 [idV (s.rows.length+1)] rfl rfl ?_ (by intro u hu;simp only[List.mem_singleton] at hu;subst hu;rfl) ?_ ?_ ?_ ?_
  ·exact Af _ _ _
  ·unfold maxLen;omega
  ·omega
  ·simp;omega
  intro v3 W3 hown3 hg3 hat3;refine hK.out _ _ (⟨hg3.cell hHeld.1 (fun e=>HD2.out e.symm),hg3.cell hHeld.2 (fun e=>HD1.out e.symm)⟩) (fun hHeld=> ?_);clear hK K
  try simp only[Act.put,sA,sB,sC]
  refine AL (by kernel_rfl) ?_;simp only[List.drop_succ_cons,List.drop_zero];obtain⟨g3,c3,rfl⟩:=ownsRow_succ hown3;obtain⟨hR3,hB3,hc4,⟨u6,hc6⟩,hf6⟩:=HKN.out _ W3 _ (s.rows.length+1) ((Below.refl _ W2).drew.alloc (by simp) _) hown3 hg3 hat3;have hne1:¬rb=g:=by omega
  have hne2:¬g=rb:=by omega
  clear hHeld hown3 hg3 hat3 HKN HKO HD1 HD2 k4 k6 fk;go_wp2;go_ret;exact⟨Cu (by omega),by rw[hnode.out];exact hR3,hBn.trans hB3⟩
structure Fin_ (s:Hg.Rd):Prop where
 rows:s.rows.length≤10000000
 at_:s.at_≤10000000
 L:s.L.length≤10000000
 txt:∀t∈s.L,t.text.length≤1000000
theorem Fin_.of{s s':Hg.Rd}(h:Fin_ s')(g:Hg.Rd.Grow s s'):Fin_ s:=
 ⟨Nat.le_trans g.len h.rows,Nat.le_trans g.at_ h.at_,by rw[←g.L];exact h.L,by rw[←g.L];exact h.txt⟩
structure Okk (s:Hg.Rd):Prop where
 inv:Hg.Rd.Inv s
 fin:Fin_ s
 deep:s.deep≤1000
 level:s.level≤1000
theorem Okk.lim{s:Hg.Rd}(h:Okk s):Lim s:=⟨by have:=h.fin.at_;omega,by have:=h.fin.L;omega,by have:=h.deep;omega,by have:=h.level;omega⟩
theorem Okk.es{s a s':Hg.Rd}(h:Okk s)(e:Hg.Rd.Ad s a)(g:Hg.Rd.Grow a s')(hf:Fin_ s'):Okk a:=
 ⟨e.inv h.inv,hf.of g,by rw[e.deep];exact h.deep,by rw[e.level];exact h.level⟩
theorem Okk.text{s:Hg.Rd}(h:Okk s)(k:Nat):(s.text k).length≤1000000:=by
 unfold Hg.Rd.text;split
 ·simp
 ·split
  ·rename_i t ht
   split
   ·exact h.fin.txt t (List.mem_of_getElem? ht)
   ·simp
  ·simp
theorem Ai{rb:Nat}{s:Hg.Rd}{t:List UInt8}{w:World}(hR:RdAt w rb s)(hl:Okk s)(hn:s.next t=false):
 Calls Tryz.prog 91 #[.pointer (some ⟨rb,0,none⟩),strV t] w fun e w'=>e= .returned (.bool false)∧RdAt w' rb s∧Lite rb w w':=by
 have h:=KH rb s t w hR hl.lim;rw[hn,show s.eat t=s by simp[Hg.Rd.eat,hn]] at h;exact h
theorem Cf{rb:Nat}{s:Hg.Rd}{t:List UInt8}{w:World}(hR:RdAt w rb s)(hl:Okk s)(hn:s.next t=true):
 Calls Tryz.prog 91 #[.pointer (some ⟨rb,0,none⟩),strV t] w fun e w'=>e= .returned (.bool true)∧RdAt w' rb s.step∧Lite rb w w':=by
 have h:=KH rb s t w hR hl.lim;rw[hn,show s.eat t=s.step by simp[Hg.Rd.eat,hn]] at h;exact h
theorem Bv{rb:Nat}{s:Hg.Rd}{t:List UInt8}{w:World}{b:Bool}(hR:RdAt w rb s)(hl:Okk s)(hn:s.next t=b):
 Calls Tryz.prog 126 #[.pointer (some ⟨rb,0,none⟩),strV t] w fun e w'=>e= .returned (.bool b)∧RdAt w' rb s∧Lite rb w w':=by
 have hL:=hl.lim;refine(Kj rb s t w hR (by have:=hL.at_;omega) (by have:=hL.L;omega)).mono ?_;rintro e w' ⟨rfl,n,rfl⟩;rw[hn];exact⟨rfl,hR.drewN n,Lite.drewN _ _ _⟩
theorem PV{rb:Nat}{s:Hg.Rd}{k:Nat}{w:World}{x:List UInt8}(hR:RdAt w rb s)(hl:Okk s)(hn:s.text k=x):
 Calls Tryz.prog 125 #[.pointer (some ⟨rb,0,none⟩),.int .u8 (k:Int)] w fun e w'=>e= .returned (strV x)∧RdAt w' rb s∧Lite rb w w':=by
 have hL:=hl.lim;refine(Iu rb s k w hR (by have:=hL.at_;omega) (by have:=hL.L;omega)).mono ?_;rintro e w' ⟨rfl,n,rfl⟩;rw[hn];exact⟨rfl,hR.drewN n,Lite.drewN _ _ _⟩
theorem BG{rb:Nat}{s:Hg.Rd}(z:Int)(k:Nat){w:World}{x:List UInt8}(hR:RdAt w rb s)(hl:Okk s)(hn:s.text k=x)(hz:z=(k:Int)):
 Calls Tryz.prog 125 #[.pointer (some ⟨rb,0,none⟩),.int .u8 z] w fun e w'=>e= .returned (strV x)∧RdAt w' rb s∧Lite rb w w':=by subst hz;exact PV hR hl hn
theorem BN{rb:Nat}{s:Hg.Rd}{t:List UInt8}{w:World}(hR:RdAt w rb s)(hl:Okk s):
 Calls Tryz.prog 87 #[.pointer (some ⟨rb,0,none⟩),strV t] w fun e w'=>e= .returned (.tuple #[])∧RdAt w' rb (s.need t)∧Lite rb w w':=Nn rb s t w hR hl.lim
theorem Fx{rb:Nat}{s:Hg.Rd}{w:World}(hR:RdAt w rb s)(hl:Okk s):
 Calls Tryz.prog 88 #[.pointer (some ⟨rb,0,none⟩)] w fun e w'=>e= .returned (strV (s.text 1))∧RdAt w' rb s.name∧Lite rb w w':=Ue rb s w hR hl.lim
theorem Da{rb:Nat}{s:Hg.Rd}{w:World}{b:Bool}(hR:RdAt w rb s)(hl:Okk s)(hb:(!s.enter.bad)=b):
 Calls Tryz.prog 153 #[.pointer (some ⟨rb,0,none⟩)] w fun e w'=>e= .returned (.bool b)∧RdAt w' rb s.enter∧Below rb w w':=by
 rw[←hb];exact Rv rb s w hR hl.lim
theorem Qf{rb:Nat}{s:Hg.Rd}{t:List UInt8}{w:World}(hR:RdAt w rb s)(hl:Okk s):
 Calls Tryz.prog 152 #[.pointer (some ⟨rb,0,none⟩),strV t] w fun e w'=>e= .returned (.int .u64 ((s.find t).1:Int))∧RdAt w' rb (s.find t).2∧Lite rb w w':=
 Uz rb s t w hR (by have:=hl.inv.seen;have:=hl.inv.used;have:=hl.fin.rows;omega)
theorem QE{rb:Nat}{s:Hg.Rd}{under:Nat}(nd:Hg.Node){w:World}(hR:RdAt w rb s)(hl:Okk s)(hk:nd.kids=[])(hu:under < s.rows.length):
 Calls Tryz.prog 86 #[.pointer (some ⟨rb,0,none⟩),.int .i64 (under:Int),V4 nd (.slice none 0 0)] w fun e w'=>
  e= .returned (.int .i64 (s.rows.length:Int))∧RdAt w' rb (s.node under nd)∧Below rb w w':=
 Nl rb s under nd w hR hk (.inl hu) (by have:=hl.fin.rows;omega) (fun k r hr=>by have:=hl.inv.kids k r hr;have:=hl.fin.rows;omega)
theorem RdAt.F8{w:World}{rb:Nat}{s:Hg.Rd}(h:RdAt w rb s){x:Int}(hx:x=(s.deep:Int)-1)(hp:1≤s.deep):RdAt (w.setCell ⟨rb,2,none⟩ (.int .i64 x)) rb s.leave:=by
 have e:x=((s.deep-1:Nat):Int):=by omega
 rw[e];exact h.setDeep _
theorem Bg{rb:Nat}{s:Hg.Rd}{under:Nat}(n:Nat)(nd:Hg.Node){w:World}(hR:RdAt w rb s)(hl:Okk s)(hk:nd.kids=[])(hu:under < s.rows.length)(hn:s.rows.length=n):
 Calls Tryz.prog 86 #[.pointer (some ⟨rb,0,none⟩),.int .i64 (under:Int),V4 nd (.slice none 0 0)] w fun e w'=>
  e= .returned (.int .i64 (n:Int))∧RdAt w' rb (s.node under nd)∧Below rb w w':=by subst hn;exact QE nd hR hl hk hu
theorem CP(s:Hg.Rd):s.enter.deep=s.deep+1:=by unfold Hg.Rd.enter;dsimp only;split <;>rfl
theorem Dm(s:Hg.Rd):s.enter.rows=s.rows:=by unfold Hg.Rd.enter;dsimp only;split <;>rfl
theorem DZ{s:Hg.Rd}(h:s.enter.bad=false):s.enter.deep≤90:=by
 unfold Hg.Rd.enter at h⊢;dsimp only at h⊢
 split at h
 ·simp[Hg.Rd.setBad] at h
 ·rename_i h1
  rw[if_neg h1];simpa using h1
theorem U9{s:Hg.Rd}(h:Hg.Rd.Inv s):Hg.Rd.Inv s.enter:=by
 unfold Hg.Rd.enter;dsimp only;split <;>exact Hg.Rd.EQ h rfl rfl rfl rfl rfl rfl rfl (Nat.le_refl _)
theorem Ii(s:Hg.Rd):s.enter.level=s.level:=by unfold Hg.Rd.enter;dsimp only;split <;>rfl
theorem Okk.enter{s s':Hg.Rd}(h:Okk s)(hd:s.deep≤999)(g:Hg.Rd.Grow s.enter s')(hf:Fin_ s'):Okk s.enter:=
 ⟨U9 h.inv,hf.of g,by rw[CP];omega,by rw[Ii];exact h.level⟩
def KU(f:Nat):Prop:=∀(rb:Nat) (s:Hg.Rd) (u:Nat) (s':Hg.Rd) (w:World),Hg.Rd.expr f s u=some s'→RdAt w rb s→Okk s→s.deep≤90→Fin_ s'→u < s.rows.length→
 Calls Tryz.prog 130 #[.pointer (some ⟨rb,0,none⟩),.int .i64 (u:Int)] w fun e w'=>e= .returned (.tuple #[])∧RdAt w' rb s'∧Below rb w w'
def Qs(f:Nat):Prop:=∀(rb:Nat) (s:Hg.Rd) (u:Nat) (m:List UInt8) (s':Hg.Rd) (w:World),Hg.Rd.call f s u m=some s'→RdAt w rb s→Okk s→s.deep≤90→Fin_ s'→u < s.rows.length→m.length≤1000000→
 Calls Tryz.prog 151 #[.pointer (some ⟨rb,0,none⟩),.int .i64 (u:Int),strV m] w fun e w'=>e= .returned (.tuple #[])∧RdAt w' rb s'∧Below rb w w'
theorem PE(rb:Nat)(s:Hg.Rd)(u:Nat)(w:World)(hR:RdAt w rb s)(ho:Okk s)(h2:s.text 2≠[])(hf:Fin_ (s.step.node u (Hg.Rd.IX 13 (Hg.BZ (s.text 2)))))(hu:u < s.rows.length):
 Calls Tryz.prog 130 #[.pointer (some ⟨rb,0,none⟩),.int .i64 (u:Int)] w fun e w'=>e= .returned (.tuple #[])∧RdAt w' rb (s.step.node u (Hg.Rd.IX 13 (Hg.BZ (s.text 2))))∧Below rb w w':=by
 have ho1:Okk s.step:=ho.es (Hg.Rd.Am s) (Hg.Rd.Fa _ _ _) hf;have ht:=ho.text 2;have b1:=ho.fin.at_;have hq:(s.text 2==[])=false:=by simp[h2]
 have hq2:(s.text 2).isEmpty=false:=by simp[h2]
 have hpos:0 < (s.text 2).length:=List.length_pos_iff.2 h2;have T:=fun W h=>zz (PV (rb:=rb) (s:=s) (k:=2) (w:=W) h ho rfl);generalize s.text 2=tx at*;have hu1:u < s.step.rows.length:=hu;clear h2;go_enter Tryz.func130,Tryz.ntmps130
 go_wp2_with (first
  |(go_at_call 125;refine((T _ hR).out).mono ?_;rintro e w1 ⟨rfl,hR1,hb1⟩;obtain⟨c1,_,_,_,_⟩:=hR1.cell;have f1:=hR1.frozen 1)
  |(go_at_call 84;refine(IW _ hpos _ (by omega)).mono ?_;rintro e w2 ⟨rfl,rfl⟩)
  |(go_at_call 86;refine(QE (Hg.Rd.IX 13 (Hg.BZ tx)) (hR1.setAt (s.at_+1)) ho1 rfl hu1).mono ?_;rintro e w3 ⟨rfl,hR3,hb3⟩))
 refine bodyPost_ret (results_none rfl _ _ _) rfl ?_;exact⟨rfl,hR3,(hb1.setCell (i:=1) (by decide) _).below.trans hb3⟩
theorem U4(rb:Nat)(s s':Hg.Rd)(u:Nat)(w:World)(hR:RdAt w rb s)(ho:Okk s)(h2:s.text 2=[])(h1:s.text 1≠[])(hd:s.step.next [46]=false)
 (he:s'=((s.step.node u (Hg.Rd.nd 15)).find (s.text 1)).2.setRef s.rows.length ((s.step.node u (Hg.Rd.nd 15)).find (s.text 1)).1) (hf:Fin_ s') (hu:u < s.rows.length):
 Calls Tryz.prog 130 #[.pointer (some ⟨rb,0,none⟩),.int .i64 (u:Int)] w fun e w'=>e= .returned (.tuple #[])∧RdAt w' rb s'∧Below rb w w':=by
 have es1:=Hg.Rd.Ah s.step u (Hg.Rd.nd 15) rfl;have es2:=Hg.Rd.Li (s.step.node u (Hg.Rd.nd 15)) (s.text 1);have g3:=Hg.Rd.LJ ((s.step.node u (Hg.Rd.nd 15)).find (s.text 1)).2 s.rows.length ((s.step.node u (Hg.Rd.nd 15)).find (s.text 1)).1;rw[←he] at g3;have ho1:Okk s.step:=ho.es (Hg.Rd.Am s) (es1.grow.trans (es2.grow.trans g3)) hf;have ho2:Okk (s.step.node u (Hg.Rd.nd 15)):=ho1.es es1 (es2.grow.trans g3) hf;have hln:(s.step.node u (Hg.Rd.nd 15)).rows.length=s.rows.length+1:=Hg.Rd.Av _ _ _;have hgr:=es2.grow.len;have b1:=ho.fin.at_;have ht:=ho.text 1;have hq:(s.text 1==[])=false:=by simp[h1]
 have hq2:(s.text 1).isEmpty=false:=by simp[h1]
 have T2:=fun W h=>zz (BG (rb:=rb) (s:=s) 2 2 (w:=W) h ho h2 rfl);have T1:=fun W h=>zz (BG (rb:=rb) (s:=s) 1 1 (w:=W) h ho rfl rfl);have TD:=fun W h=>zz (Bv (rb:=rb) (s:=s.step) (t:=[46]) (w:=W) h ho1 hd);have TN:=fun W h=>zz (Bg (rb:=rb) (s:=s.step) (under:=u) s.rows.length (Hg.Rd.nd 15) (w:=W) h ho1 rfl hu rfl);have TF:=fun W h=>zz (Qf (rb:=rb) (s:=s.step.node u (Hg.Rd.nd 15)) (t:=s.text 1) (w:=W) h ho2);generalize s.text 1=tx at*;clear h1 h2;go_enter Tryz.func130,Tryz.ntmps130
 go_wp2_with (first
  |(go_at_call 125;((with_reducible refine((T2 _ hR).out).mono ?_);rintro e w1 ⟨rfl,hR1,hb1⟩))
  |(go_at_call 125;((with_reducible refine((T1 _ hR1).out).mono ?_);rintro e w2 ⟨rfl,hR2,hb2⟩;obtain⟨c1,_,_,_,_⟩:=hR2.cell;have f1:=hR2.frozen 1))
  |(go_at_call 126;refine((TD _ (hR2.setAt (s.at_+1))).out).mono ?_;rintro e w3 ⟨rfl,hR3,hb3⟩)
  |(go_at_call 86;refine((TN _ hR3).out).mono ?_;rintro e w4 ⟨rfl,hR4,hb4⟩;generalize hs1:s.step.node u (Hg.Rd.nd 15)=s1 at*;obtain⟨g,c,c4,hg1,hg2,_⟩:=hR4.forCell (k:=s.rows.length) (List.getElem?_eq_getElem (by omega));have hHeld:(fun w'=>w'.cell? ⟨rb,4,none⟩=some (.slice (some ⟨g,0,none⟩) s1.rows.length c)) w4.drew:=c4))
 refine AR (fun w'=>w'.cell? ⟨rb,4,none⟩=some (.slice (some ⟨g,0,none⟩) s1.rows.length c)) 8 (by kernel_rfl) ?_;refine tz 0 _ _ _ ?_;refine tz 1 _ _ _ ?_;refine tz 2 _ _ _ ?_;refine tz 3 _ _ _ ?_;refine tz 4 _ _ _ ?_;refine tz 5 _ _ _ ?_;refine tz 6 _ _ _ ?_;refine AB (i:=7) rfl (by kernel_rfl) (fun K hK=> ?_);go_simp
 go_at_call 152
 refine((TF _ (hR4.drewN 1)).out).mono ?_;rintro e w5 ⟨rfl,hR5,hb5⟩;refine hK.out _ _ (hb5.c4.trans hHeld) (fun hHeld=> ?_);clear hK K
 try simp only[Act.put,sA,sB,sC]
 refine AL (by kernel_rfl) ?_;simp only[List.drop_succ_cons,List.drop_zero];clear hHeld;obtain⟨g',c',c4',_,hg3,_,hcs,hfz,hset⟩:=hR5.forCell (k:=s.rows.length) (List.getElem?_eq_getElem (by omega));have hgg:=hb5.c4.symm.trans c4';rw[show(w4.drewN 1).cell? ⟨rb,4,none⟩=w4.cell? ⟨rb,4,none⟩ from rfl,c4] at hgg;injection hgg with hgg;injection hgg with e1 e2 e3;injection e1 with e1;injection e1 with e1;subst e1;obtain⟨u5,hc5⟩:=hcs 5 (by omega);have hf5:=hfz (s.rows.length*7+5);have HS:=zz hset;have hi1:(0:Int)≤(s.rows.length:Int):=by omega
 have hi2:(s.rows.length:Int) < (s1.rows.length:Int):=by omega
 clear hset hcs hfz;go_wp2;refine bodyPost_ret (results_none rfl _ _ _) rfl ?_;obtain⟨r1,r2⟩:=HS.out 5 (.int .u64 ((s1.find tx).1:Int)) (fun x=>{x with node:={x.node with ref:=(s1.find tx).1}}) (by omega) (fun _ _=>rfl) (fun _=>rfl);rw[show s.rows.length*7+1+4=s.rows.length*7+5 by omega];subst he;exact⟨rfl,r1,((hb1.trans (hb2.setCell (i:=1) (by decide) _)).trans hb3).below.trans (hb4.trans (((below_drewN (Below.refl _ _) 1).trans hb5.below).trans r2))⟩
theorem Rq(rb:Nat)(s s':Hg.Rd)(u:Nat)(w:World)(hR:RdAt w rb s)(ho:Okk s)(h2:s.text 2=[])(h1:s.text 1≠[])(hd:s.step.next [46]=true)(f:Nat)(ih:Qs f)(hdp:s.deep≤90)
 (he:Hg.Rd.call f s.step u (s.text 1)=some s') (hf:Fin_ s') (hu:u < s.rows.length):
 Calls Tryz.prog 130 #[.pointer (some ⟨rb,0,none⟩),.int .i64 (u:Int)] w fun e w'=>e= .returned (.tuple #[])∧RdAt w' rb s'∧Below rb w w':=by
 have es1:=(Hg.Rd.Bi f).2.1 _ _ _ _ he;have ho1:Okk s.step:=ho.es (Hg.Rd.Am s) es1.grow hf;have b1:=ho.fin.at_;have ht:=ho.text 1;have hq:(s.text 1==[])=false:=by simp[h1]
 have hq2:(s.text 1).isEmpty=false:=by simp[h1]
 have T2:=fun W h=>zz (BG (rb:=rb) (s:=s) 2 2 (w:=W) h ho h2 rfl);have T1:=fun W h=>zz (BG (rb:=rb) (s:=s) 1 1 (w:=W) h ho rfl rfl);have TD:=fun W h=>zz (Bv (rb:=rb) (s:=s.step) (t:=[46]) (w:=W) h ho1 hd);have TC:=fun W h=>zz (ih rb s.step u (s.text 1) s' W he h ho1 hdp hf hu ht);generalize s.text 1=tx at*;clear h1 h2;go_enter Tryz.func130,Tryz.ntmps130
 go_wp2_with (first
  |(go_at_call 125;((with_reducible refine((T2 _ hR).out).mono ?_);rintro e w1 ⟨rfl,hR1,hb1⟩))
  |(go_at_call 125;((with_reducible refine((T1 _ hR1).out).mono ?_);rintro e w2 ⟨rfl,hR2,hb2⟩;obtain⟨c1,_,_,_,_⟩:=hR2.cell;have f1:=hR2.frozen 1))
  |(go_at_call 126;refine((TD _ (hR2.setAt (s.at_+1))).out).mono ?_;rintro e w3 ⟨rfl,hR3,hb3⟩)
  |(go_at_call 151;refine((TC _ hR3).out).mono ?_;rintro e w4 ⟨rfl,hR4,hb4⟩))
 refine bodyPost_ret (results_none rfl _ _ _) rfl ?_;exact⟨rfl,hR4,((hb1.trans (hb2.setCell (i:=1) (by decide) _)).trans hb3).below.trans hb4⟩
theorem Rn(rb:Nat)(s s':Hg.Rd)(u:Nat)(w:World)(hR:RdAt w rb s)(ho:Okk s)(h2:s.text 2=[])(h1:s.text 1=[])(hy:s.next [116,114,117,101]=true)
 (he:s'=s.step.node u (Hg.Rd.IX 14 1)) (hf:Fin_ s') (hu:u < s.rows.length):
 Calls Tryz.prog 130 #[.pointer (some ⟨rb,0,none⟩),.int .i64 (u:Int)] w fun e w'=>e= .returned (.tuple #[])∧RdAt w' rb s'∧Below rb w w':=by
 subst he;have ho1:Okk s.step:=ho.es (Hg.Rd.Am s) (Hg.Rd.Fa _ _ _) hf;have T2:=fun W h=>zz (BG (rb:=rb) (s:=s) 2 2 (w:=W) h ho h2 rfl);have T1:=fun W h=>zz (BG (rb:=rb) (s:=s) 1 1 (w:=W) h ho h1 rfl);have TY:=fun W h=>zz (Cf (rb:=rb) (s:=s) (t:=[116,114,117,101]) (w:=W) h ho hy);have TN:=fun W h=>zz (Bg (rb:=rb) (s:=s.step) (under:=u) s.rows.length (Hg.Rd.IX 14 1) (w:=W) h ho1 rfl hu rfl);go_enter Tryz.func130,Tryz.ntmps130
 go_wp2_with (first
  |(go_at_call 125;((with_reducible refine((T2 _ hR).out).mono ?_);rintro e w1 ⟨rfl,hR1,hb1⟩))
  |(go_at_call 125;((with_reducible refine((T1 _ hR1).out).mono ?_);rintro e w2 ⟨rfl,hR2,hb2⟩))
  |(go_at_call 91;((with_reducible refine((TY _ hR2).out).mono ?_);rintro e w3 ⟨rfl,hR3,hb3⟩))
  |(go_at_call 86;refine((TN _ hR3).out).mono ?_;rintro e w4 ⟨rfl,hR4,hb4⟩))
 go_end0;exact⟨rfl,hR4,(((hb1).trans hb2).trans hb3).below.trans hb4⟩
theorem Qi(rb:Nat)(s s':Hg.Rd)(u:Nat)(w:World)(hR:RdAt w rb s)(ho:Okk s)(h2:s.text 2=[])(h1:s.text 1=[])(hn0:s.next [116,114,117,101]=false)(hy:s.next [102,97,108,115,101]=true)
 (he:s'=s.step.node u (Hg.Rd.nd 14)) (hf:Fin_ s') (hu:u < s.rows.length):
 Calls Tryz.prog 130 #[.pointer (some ⟨rb,0,none⟩),.int .i64 (u:Int)] w fun e w'=>e= .returned (.tuple #[])∧RdAt w' rb s'∧Below rb w w':=by
 subst he;have ho1:Okk s.step:=ho.es (Hg.Rd.Am s) (Hg.Rd.Fa _ _ _) hf;have T2:=fun W h=>zz (BG (rb:=rb) (s:=s) 2 2 (w:=W) h ho h2 rfl);have T1:=fun W h=>zz (BG (rb:=rb) (s:=s) 1 1 (w:=W) h ho h1 rfl);have TE0:=fun W h=>zz (Ai (rb:=rb) (s:=s) (t:=[116,114,117,101]) (w:=W) h ho hn0);have TY:=fun W h=>zz (Cf (rb:=rb) (s:=s) (t:=[102,97,108,115,101]) (w:=W) h ho hy);have TN:=fun W h=>zz (Bg (rb:=rb) (s:=s.step) (under:=u) s.rows.length (Hg.Rd.nd 14) (w:=W) h ho1 rfl hu rfl);go_enter Tryz.func130,Tryz.ntmps130
 go_wp2_with (first
  |(go_at_call 125;((with_reducible refine((T2 _ hR).out).mono ?_);rintro e w1 ⟨rfl,hR1,hb1⟩))
  |(go_at_call 125;((with_reducible refine((T1 _ hR1).out).mono ?_);rintro e w2 ⟨rfl,hR2,hb2⟩))
  |(go_at_call 91;((with_reducible refine((TE0 _ hR2).out).mono ?_);rintro e w3 ⟨rfl,hR3,hb3⟩))
  |(go_at_call 91;((with_reducible refine((TY _ hR3).out).mono ?_);rintro e w4 ⟨rfl,hR4,hb4⟩))
  |(go_at_call 86;refine((TN _ hR4).out).mono ?_;rintro e w5 ⟨rfl,hR5,hb5⟩))
 go_end0;exact⟨rfl,hR5,((((hb1).trans hb2).trans hb3).trans hb4).below.trans hb5⟩
theorem Rp(rb:Nat)(s s':Hg.Rd)(u:Nat)(w:World)(hR:RdAt w rb s)(ho:Okk s)(h2:s.text 2=[])(h1:s.text 1=[])(hn0:s.next [116,114,117,101]=false)(hn1:s.next [102,97,108,115,101]=false)(hy:s.next [114,101,97,100]=true)
 (he:s'=s.step.node u (Hg.Rd.nd 20)) (hf:Fin_ s') (hu:u < s.rows.length):
 Calls Tryz.prog 130 #[.pointer (some ⟨rb,0,none⟩),.int .i64 (u:Int)] w fun e w'=>e= .returned (.tuple #[])∧RdAt w' rb s'∧Below rb w w':=by
 subst he;have ho1:Okk s.step:=ho.es (Hg.Rd.Am s) (Hg.Rd.Fa _ _ _) hf;have T2:=fun W h=>zz (BG (rb:=rb) (s:=s) 2 2 (w:=W) h ho h2 rfl);have T1:=fun W h=>zz (BG (rb:=rb) (s:=s) 1 1 (w:=W) h ho h1 rfl);have TE0:=fun W h=>zz (Ai (rb:=rb) (s:=s) (t:=[116,114,117,101]) (w:=W) h ho hn0);have TE1:=fun W h=>zz (Ai (rb:=rb) (s:=s) (t:=[102,97,108,115,101]) (w:=W) h ho hn1);have TY:=fun W h=>zz (Cf (rb:=rb) (s:=s) (t:=[114,101,97,100]) (w:=W) h ho hy);have TN:=fun W h=>zz (Bg (rb:=rb) (s:=s.step) (under:=u) s.rows.length (Hg.Rd.nd 20) (w:=W) h ho1 rfl hu rfl);go_enter Tryz.func130,Tryz.ntmps130
 go_wp2_with (first
  |(go_at_call 125;((with_reducible refine((T2 _ hR).out).mono ?_);rintro e w1 ⟨rfl,hR1,hb1⟩))
  |(go_at_call 125;((with_reducible refine((T1 _ hR1).out).mono ?_);rintro e w2 ⟨rfl,hR2,hb2⟩))
  |(go_at_call 91;((with_reducible refine((TE0 _ hR2).out).mono ?_);rintro e w3 ⟨rfl,hR3,hb3⟩))
  |(go_at_call 91;((with_reducible refine((TE1 _ hR3).out).mono ?_);rintro e w4 ⟨rfl,hR4,hb4⟩))
  |(go_at_call 91;((with_reducible refine((TY _ hR4).out).mono ?_);rintro e w5 ⟨rfl,hR5,hb5⟩))
  |(go_at_call 86;refine((TN _ hR5).out).mono ?_;rintro e w6 ⟨rfl,hR6,hb6⟩))
 go_end0;exact⟨rfl,hR6,(((((hb1).trans hb2).trans hb3).trans hb4).trans hb5).below.trans hb6⟩
theorem U7(rb:Nat)(s s':Hg.Rd)(u:Nat)(w:World)(hR:RdAt w rb s)(ho:Okk s)(h2:s.text 2=[])(h1:s.text 1=[])(hn0:s.next [116,114,117,101]=false)(hn1:s.next [102,97,108,115,101]=false)(hn2:s.next [114,101,97,100]=false)(h33:s.next [33]=false)(h45:s.next [45]=false)(hn9:s.next [40]=false):
 Calls Tryz.prog 130 #[.pointer (some ⟨rb,0,none⟩),.int .i64 (u:Int)] w fun e w'=>e= .returned (.tuple #[])∧RdAt w' rb s.setBad∧Below rb w w':=by
 have T2:=fun W h=>zz (BG (rb:=rb) (s:=s) 2 2 (w:=W) h ho h2 rfl);have T1:=fun W h=>zz (BG (rb:=rb) (s:=s) 1 1 (w:=W) h ho h1 rfl);have TE0:=fun W h=>zz (Ai (rb:=rb) (s:=s) (t:=[116,114,117,101]) (w:=W) h ho hn0);have TE1:=fun W h=>zz (Ai (rb:=rb) (s:=s) (t:=[102,97,108,115,101]) (w:=W) h ho hn1);have TE2:=fun W h=>zz (Ai (rb:=rb) (s:=s) (t:=[114,101,97,100]) (w:=W) h ho hn2);have TA:=fun W h=>zz (Bv (rb:=rb) (s:=s) (t:=[33]) (w:=W) h ho h33);have TB:=fun W h=>zz (Bv (rb:=rb) (s:=s) (t:=[45]) (w:=W) h ho h45);have TC:=fun W h=>zz (Ai (rb:=rb) (s:=s) (t:=[40]) (w:=W) h ho hn9);go_enter Tryz.func130,Tryz.ntmps130
 go_wp2_with (first
  |(go_at_call 125;((with_reducible refine((T2 _ hR).out).mono ?_);rintro e w1 ⟨rfl,hR1,hb1⟩))
  |(go_at_call 125;((with_reducible refine((T1 _ hR1).out).mono ?_);rintro e w2 ⟨rfl,hR2,hb2⟩))
  |(go_at_call 91;((with_reducible refine((TE0 _ hR2).out).mono ?_);rintro e w3 ⟨rfl,hR3,hb3⟩))
  |(go_at_call 91;((with_reducible refine((TE1 _ hR3).out).mono ?_);rintro e w4 ⟨rfl,hR4,hb4⟩))
  |(go_at_call 91;((with_reducible refine((TE2 _ hR4).out).mono ?_);rintro e w5 ⟨rfl,hR5,hb5⟩))
  |(go_at_call 126;((with_reducible refine((TA _ hR5).out).mono ?_);rintro e w6 ⟨rfl,hR6,hb6⟩))
  |(go_at_call 126;((with_reducible refine((TB _ hR6).out).mono ?_);rintro e w7 ⟨rfl,hR7,hb7⟩))
  |(go_at_call 91;((with_reducible refine((TC _ hR7).out).mono ?_);rintro e w8 ⟨rfl,hR8,hb8⟩;obtain⟨_,_,c3,_,_⟩:=hR8.cell;have f3:=hR8.frozen 3)))
 go_end0;exact⟨rfl,hR8.setBad,((((((((hb1).trans hb2).trans hb3).trans hb4).trans hb5).trans hb6).trans hb7).trans hb8).below.setCell (p:=⟨rb,3,none⟩) (Nat.le_refl _) _⟩
theorem NQ(rb:Nat)(s s':Hg.Rd)(u:Nat)(w:World)(hR:RdAt w rb s)(ho:Okk s)(h2:s.text 2=[])(h1:s.text 1=[])(hn0:s.next [116,114,117,101]=false)(hn1:s.next [102,97,108,115,101]=false)(hn2:s.next [114,101,97,100]=false)(h33:s.next [33]=true)(hb:(s.step.node u (Hg.Rd.nd 16)).enter.bad=true)(he:s'=(s.step.node u (Hg.Rd.nd 16)).enter.leave)(hdp:s.deep≤90)(hf:Fin_ s')(hu:u < s.rows.length):
 Calls Tryz.prog 130 #[.pointer (some ⟨rb,0,none⟩),.int .i64 (u:Int)] w fun e w'=>e= .returned (.tuple #[])∧RdAt w' rb s'∧Below rb w w':=by
 subst he;have es0:=Hg.Rd.Ah s.step u (Hg.Rd.nd 16) rfl;have hgr:Hg.Rd.Grow (s.step.node u (Hg.Rd.nd 16)) (s.step.node u (Hg.Rd.nd 16)).enter.leave:=(Hg.Rd.CO _).trans (Hg.Rd.BJ _);have ho1:Okk s.step:=ho.es (Hg.Rd.Am s) (es0.grow.trans hgr) hf;have ho2:Okk (s.step.node u (Hg.Rd.nd 16)):=ho1.es es0 hgr hf;have b1:=ho.fin.at_;have hdp2:(s.step.node u (Hg.Rd.nd 16)).enter.deep=s.deep+1:=CP _;have T2:=fun W h=>zz (BG (rb:=rb) (s:=s) 2 2 (w:=W) h ho h2 rfl);have T1:=fun W h=>zz (BG (rb:=rb) (s:=s) 1 1 (w:=W) h ho h1 rfl);have TE0:=fun W h=>zz (Ai (rb:=rb) (s:=s) (t:=[116,114,117,101]) (w:=W) h ho hn0);have TE1:=fun W h=>zz (Ai (rb:=rb) (s:=s) (t:=[102,97,108,115,101]) (w:=W) h ho hn1);have TE2:=fun W h=>zz (Ai (rb:=rb) (s:=s) (t:=[114,101,97,100]) (w:=W) h ho hn2);have TA:=fun W h=>zz (Bv (rb:=rb) (s:=s) (t:=[33]) (w:=W) h ho h33);have TN:=fun W h=>zz (Bg (rb:=rb) (s:=s.step) (under:=u) s.rows.length (Hg.Rd.nd 16) (w:=W) h ho1 rfl hu rfl);have TQ:=fun W h=>zz (Da (rb:=rb) (s:=s.step.node u (Hg.Rd.nd 16)) (w:=W) (b:=false) h ho2 (by rw[hb];rfl));go_enter Tryz.func130,Tryz.ntmps130
 go_wp2_with (first
  |(go_at_call 125;((with_reducible refine((T2 _ hR).out).mono ?_);rintro e w1 ⟨rfl,hR1,hb1⟩))
  |(go_at_call 125;((with_reducible refine((T1 _ hR1).out).mono ?_);rintro e w2 ⟨rfl,hR2,hb2⟩))
  |(go_at_call 91;((with_reducible refine((TE0 _ hR2).out).mono ?_);rintro e w3 ⟨rfl,hR3,hb3⟩))
  |(go_at_call 91;((with_reducible refine((TE1 _ hR3).out).mono ?_);rintro e w4 ⟨rfl,hR4,hb4⟩))
  |(go_at_call 91;((with_reducible refine((TE2 _ hR4).out).mono ?_);rintro e w5 ⟨rfl,hR5,hb5⟩))
  |(go_at_call 126;((with_reducible refine((TA _ hR5).out).mono ?_);rintro e w6 ⟨rfl,hR6,hb6⟩))
  |(go_at_call 126;((with_reducible refine((TA _ hR6).out).mono ?_);rintro e w7 ⟨rfl,hR7,hb7⟩);obtain⟨c1,_,_,_,_⟩:=hR7.cell;have f1:=hR7.frozen 1)
  |(go_at_call 86;refine((TN _ (hR7.setAt (s.at_+1))).out).mono ?_;rintro e w8 ⟨rfl,hR8,hb8⟩)
  |(go_at_call 153;refine((TQ _ hR8).out).mono ?_;rintro e w9 ⟨rfl,hR9,hb9⟩;obtain⟨_,c2,_,_,_⟩:=hR9.cell;have f2:=hR9.frozen 2))
 go_end0;exact⟨rfl,hR9.F8 (by omega) (by omega),(((((((hb1).trans hb2).trans hb3).trans hb4).trans hb5).trans hb6).trans hb7).below.trans ((((Below.refl _ _).setCell (p:=⟨rb,1,none⟩) (Nat.le_refl _) _).trans hb8).trans ((hb9).setCell (p:=⟨rb,2,none⟩) (Nat.le_refl _) _))⟩
theorem PG(rb:Nat)(s s':Hg.Rd)(u:Nat)(w:World)(hR:RdAt w rb s)(ho:Okk s)(h2:s.text 2=[])(h1:s.text 1=[])(hn0:s.next [116,114,117,101]=false)(hn1:s.next [102,97,108,115,101]=false)(hn2:s.next [114,101,97,100]=false)(h33:s.next [33]=true)(hb:(s.step.node u (Hg.Rd.nd 16)).enter.bad=false)(f:Nat)(ih:KU f)(s1:Hg.Rd)(he1:Hg.Rd.expr f (s.step.node u (Hg.Rd.nd 16)).enter s.rows.length=some s1)(he:s'=s1.leave)(hdp:s.deep≤90)(hf:Fin_ s')(hu:u < s.rows.length):
 Calls Tryz.prog 130 #[.pointer (some ⟨rb,0,none⟩),.int .i64 (u:Int)] w fun e w'=>e= .returned (.tuple #[])∧RdAt w' rb s'∧Below rb w w':=by
 subst he;have es1:=(Hg.Rd.Bi f).1 _ _ _ he1;have es0:=Hg.Rd.Ah s.step u (Hg.Rd.nd 16) rfl;have hgr:Hg.Rd.Grow (s.step.node u (Hg.Rd.nd 16)) s1.leave:=((Hg.Rd.CO _).trans es1.grow).trans (Hg.Rd.BJ _);have ho1:Okk s.step:=ho.es (Hg.Rd.Am s) (es0.grow.trans hgr) hf;have ho2:Okk (s.step.node u (Hg.Rd.nd 16)):=ho1.es es0 hgr hf;have b1:=ho.fin.at_;have hdp2:s1.deep=s.deep+1:=by rw[es1.deep];exact CP _
 have ho3:=ho2.enter (by rw[es0.deep];show s.deep≤999;omega) es1.grow (hf.of (Hg.Rd.BJ _));have hd3:=DZ (s:=s.step.node u (Hg.Rd.nd 16)) hb;have TX:=fun W h=>zz (ih rb _ s.rows.length s1 W he1 h ho3 hd3 (hf.of (Hg.Rd.BJ _)) (by rw[Dm,Hg.Rd.Av];exact Nat.lt_succ_self _));have T2:=fun W h=>zz (BG (rb:=rb) (s:=s) 2 2 (w:=W) h ho h2 rfl);have T1:=fun W h=>zz (BG (rb:=rb) (s:=s) 1 1 (w:=W) h ho h1 rfl);have TE0:=fun W h=>zz (Ai (rb:=rb) (s:=s) (t:=[116,114,117,101]) (w:=W) h ho hn0);have TE1:=fun W h=>zz (Ai (rb:=rb) (s:=s) (t:=[102,97,108,115,101]) (w:=W) h ho hn1);have TE2:=fun W h=>zz (Ai (rb:=rb) (s:=s) (t:=[114,101,97,100]) (w:=W) h ho hn2);have TA:=fun W h=>zz (Bv (rb:=rb) (s:=s) (t:=[33]) (w:=W) h ho h33);have TN:=fun W h=>zz (Bg (rb:=rb) (s:=s.step) (under:=u) s.rows.length (Hg.Rd.nd 16) (w:=W) h ho1 rfl hu rfl);have TQ:=fun W h=>zz (Da (rb:=rb) (s:=s.step.node u (Hg.Rd.nd 16)) (w:=W) (b:=true) h ho2 (by rw[hb];rfl));go_enter Tryz.func130,Tryz.ntmps130
 go_wp2_with (first
  |(go_at_call 125;((with_reducible refine((T2 _ hR).out).mono ?_);rintro e w1 ⟨rfl,hR1,hb1⟩))
  |(go_at_call 125;((with_reducible refine((T1 _ hR1).out).mono ?_);rintro e w2 ⟨rfl,hR2,hb2⟩))
  |(go_at_call 91;((with_reducible refine((TE0 _ hR2).out).mono ?_);rintro e w3 ⟨rfl,hR3,hb3⟩))
  |(go_at_call 91;((with_reducible refine((TE1 _ hR3).out).mono ?_);rintro e w4 ⟨rfl,hR4,hb4⟩))
  |(go_at_call 91;((with_reducible refine((TE2 _ hR4).out).mono ?_);rintro e w5 ⟨rfl,hR5,hb5⟩))
  |(go_at_call 126;((with_reducible refine((TA _ hR5).out).mono ?_);rintro e w6 ⟨rfl,hR6,hb6⟩))
  |(go_at_call 126;((with_reducible refine((TA _ hR6).out).mono ?_);rintro e w7 ⟨rfl,hR7,hb7⟩);obtain⟨c1,_,_,_,_⟩:=hR7.cell;have f1:=hR7.frozen 1)
  |(go_at_call 86;refine((TN _ (hR7.setAt (s.at_+1))).out).mono ?_;rintro e w8 ⟨rfl,hR8,hb8⟩)
  |(go_at_call 153;refine((TQ _ hR8).out).mono ?_;rintro e w9 ⟨rfl,hR9,hb9⟩)
  |(go_at_call 130;refine((TX _ hR9).out).mono ?_;rintro e w10 ⟨rfl,hR10,hb10⟩;obtain⟨_,c2,_,_,_⟩:=hR10.cell;have f2:=hR10.frozen 2))
 go_end0;exact⟨rfl,hR10.F8 (by omega) (by omega),(((((((hb1).trans hb2).trans hb3).trans hb4).trans hb5).trans hb6).trans hb7).below.trans ((((Below.refl _ _).setCell (p:=⟨rb,1,none⟩) (Nat.le_refl _) _).trans hb8).trans ((hb9.trans hb10).setCell (p:=⟨rb,2,none⟩) (Nat.le_refl _) _))⟩
theorem NR(rb:Nat)(s s':Hg.Rd)(u:Nat)(w:World)(hR:RdAt w rb s)(ho:Okk s)(h2:s.text 2=[])(h1:s.text 1=[])(hn0:s.next [116,114,117,101]=false)(hn1:s.next [102,97,108,115,101]=false)(hn2:s.next [114,101,97,100]=false)(h33:s.next [33]=false)(h45:s.next [45]=true)(hb:(s.step.node u (Hg.Rd.nd 17)).enter.bad=true)(he:s'=(s.step.node u (Hg.Rd.nd 17)).enter.leave)(hdp:s.deep≤90)(hf:Fin_ s')(hu:u < s.rows.length):
 Calls Tryz.prog 130 #[.pointer (some ⟨rb,0,none⟩),.int .i64 (u:Int)] w fun e w'=>e= .returned (.tuple #[])∧RdAt w' rb s'∧Below rb w w':=by
 subst he;have es0:=Hg.Rd.Ah s.step u (Hg.Rd.nd 17) rfl;have hgr:Hg.Rd.Grow (s.step.node u (Hg.Rd.nd 17)) (s.step.node u (Hg.Rd.nd 17)).enter.leave:=(Hg.Rd.CO _).trans (Hg.Rd.BJ _);have ho1:Okk s.step:=ho.es (Hg.Rd.Am s) (es0.grow.trans hgr) hf;have ho2:Okk (s.step.node u (Hg.Rd.nd 17)):=ho1.es es0 hgr hf;have b1:=ho.fin.at_;have hdp2:(s.step.node u (Hg.Rd.nd 17)).enter.deep=s.deep+1:=CP _;have T2:=fun W h=>zz (BG (rb:=rb) (s:=s) 2 2 (w:=W) h ho h2 rfl);have T1:=fun W h=>zz (BG (rb:=rb) (s:=s) 1 1 (w:=W) h ho h1 rfl);have TE0:=fun W h=>zz (Ai (rb:=rb) (s:=s) (t:=[116,114,117,101]) (w:=W) h ho hn0);have TE1:=fun W h=>zz (Ai (rb:=rb) (s:=s) (t:=[102,97,108,115,101]) (w:=W) h ho hn1);have TE2:=fun W h=>zz (Ai (rb:=rb) (s:=s) (t:=[114,101,97,100]) (w:=W) h ho hn2);have TA:=fun W h=>zz (Bv (rb:=rb) (s:=s) (t:=[33]) (w:=W) h ho h33);have TB:=fun W h=>zz (Bv (rb:=rb) (s:=s) (t:=[45]) (w:=W) h ho h45);have TN:=fun W h=>zz (Bg (rb:=rb) (s:=s.step) (under:=u) s.rows.length (Hg.Rd.nd 17) (w:=W) h ho1 rfl hu rfl);have TQ:=fun W h=>zz (Da (rb:=rb) (s:=s.step.node u (Hg.Rd.nd 17)) (w:=W) (b:=false) h ho2 (by rw[hb];rfl));go_enter Tryz.func130,Tryz.ntmps130
 go_wp2_with (first
  |(go_at_call 125;((with_reducible refine((T2 _ hR).out).mono ?_);rintro e w1 ⟨rfl,hR1,hb1⟩))
  |(go_at_call 125;((with_reducible refine((T1 _ hR1).out).mono ?_);rintro e w2 ⟨rfl,hR2,hb2⟩))
  |(go_at_call 91;((with_reducible refine((TE0 _ hR2).out).mono ?_);rintro e w3 ⟨rfl,hR3,hb3⟩))
  |(go_at_call 91;((with_reducible refine((TE1 _ hR3).out).mono ?_);rintro e w4 ⟨rfl,hR4,hb4⟩))
  |(go_at_call 91;((with_reducible refine((TE2 _ hR4).out).mono ?_);rintro e w5 ⟨rfl,hR5,hb5⟩))
  |(go_at_call 126;((with_reducible refine((TA _ hR5).out).mono ?_);rintro e w6 ⟨rfl,hR6,hb6⟩))
  |(go_at_call 126;((with_reducible refine((TB _ hR6).out).mono ?_);rintro e w7 ⟨rfl,hR7,hb7⟩))
  |(go_at_call 126;((with_reducible refine((TA _ hR7).out).mono ?_);rintro e w8 ⟨rfl,hR8,hb8⟩);obtain⟨c1,_,_,_,_⟩:=hR8.cell;have f1:=hR8.frozen 1)
  |(go_at_call 86;refine((TN _ (hR8.setAt (s.at_+1))).out).mono ?_;rintro e w9 ⟨rfl,hR9,hb9⟩)
  |(go_at_call 153;refine((TQ _ hR9).out).mono ?_;rintro e w10 ⟨rfl,hR10,hb10⟩;obtain⟨_,c2,_,_,_⟩:=hR10.cell;have f2:=hR10.frozen 2))
 go_end0;exact⟨rfl,hR10.F8 (by omega) (by omega),((((((((hb1).trans hb2).trans hb3).trans hb4).trans hb5).trans hb6).trans hb7).trans hb8).below.trans ((((Below.refl _ _).setCell (p:=⟨rb,1,none⟩) (Nat.le_refl _) _).trans hb9).trans ((hb10).setCell (p:=⟨rb,2,none⟩) (Nat.le_refl _) _))⟩
theorem PH(rb:Nat)(s s':Hg.Rd)(u:Nat)(w:World)(hR:RdAt w rb s)(ho:Okk s)(h2:s.text 2=[])(h1:s.text 1=[])(hn0:s.next [116,114,117,101]=false)(hn1:s.next [102,97,108,115,101]=false)(hn2:s.next [114,101,97,100]=false)(h33:s.next [33]=false)(h45:s.next [45]=true)(hb:(s.step.node u (Hg.Rd.nd 17)).enter.bad=false)(f:Nat)(ih:KU f)(s1:Hg.Rd)(he1:Hg.Rd.expr f (s.step.node u (Hg.Rd.nd 17)).enter s.rows.length=some s1)(he:s'=s1.leave)(hdp:s.deep≤90)(hf:Fin_ s')(hu:u < s.rows.length):
 Calls Tryz.prog 130 #[.pointer (some ⟨rb,0,none⟩),.int .i64 (u:Int)] w fun e w'=>e= .returned (.tuple #[])∧RdAt w' rb s'∧Below rb w w':=by
 subst he;have es1:=(Hg.Rd.Bi f).1 _ _ _ he1;have es0:=Hg.Rd.Ah s.step u (Hg.Rd.nd 17) rfl;have hgr:Hg.Rd.Grow (s.step.node u (Hg.Rd.nd 17)) s1.leave:=((Hg.Rd.CO _).trans es1.grow).trans (Hg.Rd.BJ _);have ho1:Okk s.step:=ho.es (Hg.Rd.Am s) (es0.grow.trans hgr) hf;have ho2:Okk (s.step.node u (Hg.Rd.nd 17)):=ho1.es es0 hgr hf;have b1:=ho.fin.at_;have hdp2:s1.deep=s.deep+1:=by rw[es1.deep];exact CP _
 have ho3:=ho2.enter (by rw[es0.deep];show s.deep≤999;omega) es1.grow (hf.of (Hg.Rd.BJ _));have hd3:=DZ (s:=s.step.node u (Hg.Rd.nd 17)) hb;have TX:=fun W h=>zz (ih rb _ s.rows.length s1 W he1 h ho3 hd3 (hf.of (Hg.Rd.BJ _)) (by rw[Dm,Hg.Rd.Av];exact Nat.lt_succ_self _));have T2:=fun W h=>zz (BG (rb:=rb) (s:=s) 2 2 (w:=W) h ho h2 rfl);have T1:=fun W h=>zz (BG (rb:=rb) (s:=s) 1 1 (w:=W) h ho h1 rfl);have TE0:=fun W h=>zz (Ai (rb:=rb) (s:=s) (t:=[116,114,117,101]) (w:=W) h ho hn0);have TE1:=fun W h=>zz (Ai (rb:=rb) (s:=s) (t:=[102,97,108,115,101]) (w:=W) h ho hn1);have TE2:=fun W h=>zz (Ai (rb:=rb) (s:=s) (t:=[114,101,97,100]) (w:=W) h ho hn2);have TA:=fun W h=>zz (Bv (rb:=rb) (s:=s) (t:=[33]) (w:=W) h ho h33);have TB:=fun W h=>zz (Bv (rb:=rb) (s:=s) (t:=[45]) (w:=W) h ho h45);have TN:=fun W h=>zz (Bg (rb:=rb) (s:=s.step) (under:=u) s.rows.length (Hg.Rd.nd 17) (w:=W) h ho1 rfl hu rfl);have TQ:=fun W h=>zz (Da (rb:=rb) (s:=s.step.node u (Hg.Rd.nd 17)) (w:=W) (b:=true) h ho2 (by rw[hb];rfl));go_enter Tryz.func130,Tryz.ntmps130
 go_wp2_with (first
  |(go_at_call 125;((with_reducible refine((T2 _ hR).out).mono ?_);rintro e w1 ⟨rfl,hR1,hb1⟩))
  |(go_at_call 125;((with_reducible refine((T1 _ hR1).out).mono ?_);rintro e w2 ⟨rfl,hR2,hb2⟩))
  |(go_at_call 91;((with_reducible refine((TE0 _ hR2).out).mono ?_);rintro e w3 ⟨rfl,hR3,hb3⟩))
  |(go_at_call 91;((with_reducible refine((TE1 _ hR3).out).mono ?_);rintro e w4 ⟨rfl,hR4,hb4⟩))
  |(go_at_call 91;((with_reducible refine((TE2 _ hR4).out).mono ?_);rintro e w5 ⟨rfl,hR5,hb5⟩))
  |(go_at_call 126;((with_reducible refine((TA _ hR5).out).mono ?_);rintro e w6 ⟨rfl,hR6,hb6⟩))
  |(go_at_call 126;((with_reducible refine((TB _ hR6).out).mono ?_);rintro e w7 ⟨rfl,hR7,hb7⟩))
  |(go_at_call 126;((with_reducible refine((TA _ hR7).out).mono ?_);rintro e w8 ⟨rfl,hR8,hb8⟩);obtain⟨c1,_,_,_,_⟩:=hR8.cell;have f1:=hR8.frozen 1)
  |(go_at_call 86;refine((TN _ (hR8.setAt (s.at_+1))).out).mono ?_;rintro e w9 ⟨rfl,hR9,hb9⟩)
  |(go_at_call 153;refine((TQ _ hR9).out).mono ?_;rintro e w10 ⟨rfl,hR10,hb10⟩)
  |(go_at_call 130;refine((TX _ hR10).out).mono ?_;rintro e w11 ⟨rfl,hR11,hb11⟩;obtain⟨_,c2,_,_,_⟩:=hR11.cell;have f2:=hR11.frozen 2))
 go_end0;exact⟨rfl,hR11.F8 (by omega) (by omega),((((((((hb1).trans hb2).trans hb3).trans hb4).trans hb5).trans hb6).trans hb7).trans hb8).below.trans ((((Below.refl _ _).setCell (p:=⟨rb,1,none⟩) (Nat.le_refl _) _).trans hb9).trans ((hb10.trans hb11).setCell (p:=⟨rb,2,none⟩) (Nat.le_refl _) _))⟩
theorem NT(rb:Nat)(s s':Hg.Rd)(u:Nat)(w:World)(hR:RdAt w rb s)(ho:Okk s)(h2:s.text 2=[])(h1:s.text 1=[])(hn0:s.next [116,114,117,101]=false)(hn1:s.next [102,97,108,115,101]=false)(hn2:s.next [114,101,97,100]=false)(h33:s.next [33]=false)(h45:s.next [45]=false)(h40:s.next [40]=true)(hb:(s.step.node u (Hg.Rd.nd 18)).enter.bad=true)(he:s'=(s.step.node u (Hg.Rd.nd 18)).enter.leave)(hdp:s.deep≤90)(hf:Fin_ s')(hu:u < s.rows.length):
 Calls Tryz.prog 130 #[.pointer (some ⟨rb,0,none⟩),.int .i64 (u:Int)] w fun e w'=>e= .returned (.tuple #[])∧RdAt w' rb s'∧Below rb w w':=by
 have es0:=Hg.Rd.Ah s.step u (Hg.Rd.nd 18) rfl;have hgr:Hg.Rd.Grow (s.step.node u (Hg.Rd.nd 18)) s':=by rw[he];exact(Hg.Rd.CO _).trans (Hg.Rd.BJ _)
 have ho1:Okk s.step:=ho.es (Hg.Rd.Am s) (es0.grow.trans hgr) hf;have ho2:Okk (s.step.node u (Hg.Rd.nd 18)):=ho1.es es0 hgr hf;have hdp2:(s.step.node u (Hg.Rd.nd 18)).enter.deep=s.deep+1:=CP _;have T2:=fun W h=>zz (BG (rb:=rb) (s:=s) 2 2 (w:=W) h ho h2 rfl);have T1:=fun W h=>zz (BG (rb:=rb) (s:=s) 1 1 (w:=W) h ho h1 rfl);have TE0:=fun W h=>zz (Ai (rb:=rb) (s:=s) (t:=[116,114,117,101]) (w:=W) h ho hn0);have TE1:=fun W h=>zz (Ai (rb:=rb) (s:=s) (t:=[102,97,108,115,101]) (w:=W) h ho hn1);have TE2:=fun W h=>zz (Ai (rb:=rb) (s:=s) (t:=[114,101,97,100]) (w:=W) h ho hn2);have TA:=fun W h=>zz (Bv (rb:=rb) (s:=s) (t:=[33]) (w:=W) h ho h33);have TB:=fun W h=>zz (Bv (rb:=rb) (s:=s) (t:=[45]) (w:=W) h ho h45);have TP:=fun W h=>zz (Cf (rb:=rb) (s:=s) (t:=[40]) (w:=W) h ho h40);have TN:=fun W h=>zz (Bg (rb:=rb) (s:=s.step) (under:=u) s.rows.length (Hg.Rd.nd 18) (w:=W) h ho1 rfl hu rfl);have TQ:=fun W h=>zz (Da (rb:=rb) (s:=(s.step.node u (Hg.Rd.nd 18))) (w:=W) (b:=false) h ho2 (by rw[hb];rfl));go_enter Tryz.func130,Tryz.ntmps130
 go_wp2_with (first
  |(go_at_call 125;((with_reducible refine((T2 _ hR).out).mono ?_);rintro e w1 ⟨rfl,hR1,hb1⟩))
  |(go_at_call 125;((with_reducible refine((T1 _ hR1).out).mono ?_);rintro e w2 ⟨rfl,hR2,hb2⟩))
  |(go_at_call 91;((with_reducible refine((TE0 _ hR2).out).mono ?_);rintro e w3 ⟨rfl,hR3,hb3⟩))
  |(go_at_call 91;((with_reducible refine((TE1 _ hR3).out).mono ?_);rintro e w4 ⟨rfl,hR4,hb4⟩))
  |(go_at_call 91;((with_reducible refine((TE2 _ hR4).out).mono ?_);rintro e w5 ⟨rfl,hR5,hb5⟩))
  |(go_at_call 126;((with_reducible refine((TA _ hR5).out).mono ?_);rintro e w6 ⟨rfl,hR6,hb6⟩))
  |(go_at_call 126;((with_reducible refine((TB _ hR6).out).mono ?_);rintro e w7 ⟨rfl,hR7,hb7⟩))
  |(go_at_call 91;((with_reducible refine((TP _ hR7).out).mono ?_);rintro e w8 ⟨rfl,hR8,hb8⟩))
  |(go_at_call 86;refine((TN _ hR8).out).mono ?_;rintro e w9 ⟨rfl,hR9,hb9⟩)
  |(go_at_call 153;refine((TQ _ hR9).out).mono ?_;rintro e w10 ⟨rfl,hR10,hb10⟩;obtain⟨_,c2,_,_,_⟩:=hR10.cell;have f2:=hR10.frozen 2))
 go_end0;rw[he];exact⟨rfl,hR10.F8 (by omega) (by omega),((((((((hb1).trans hb2).trans hb3).trans hb4).trans hb5).trans hb6).trans hb7).trans hb8).below.trans (hb9.trans ((hb10).setCell (p:=⟨rb,2,none⟩) (Nat.le_refl _) _))⟩
theorem Mw(rb:Nat)(s s':Hg.Rd)(u:Nat)(w:World)(hR:RdAt w rb s)(ho:Okk s)(h2:s.text 2=[])(h1:s.text 1=[])(hn0:s.next [116,114,117,101]=false)(hn1:s.next [102,97,108,115,101]=false)(hn2:s.next [114,101,97,100]=false)(h33:s.next [33]=false)(h45:s.next [45]=false)(h40:s.next [40]=true)(hb:(s.step.node u (Hg.Rd.nd 18)).enter.bad=false)(f:Nat)(ih:KU f)(s1 s4:Hg.Rd)(op:Nat)(he1:Hg.Rd.expr f (s.step.node u (Hg.Rd.nd 18)).enter s.rows.length=some s1)
 (hop:Hg.Rd.opOf (s1.text 4)=op) (hz:op=0) (he2:Hg.Rd.expr f (s1.BL s.rows.length (op:Int)).setBad.step s.rows.length=some s4) (he:s'=(s4.need [41]).leave) (hdp:s.deep≤90) (hf:Fin_ s') (hu:u < s.rows.length):
 Calls Tryz.prog 130 #[.pointer (some ⟨rb,0,none⟩),.int .i64 (u:Int)] w fun e w'=>e= .returned (.tuple #[])∧RdAt w' rb s'∧Below rb w w':=by
 have es1:=(Hg.Rd.Bi f).1 _ _ _ he1;have es4:=(Hg.Rd.Bi f).1 _ _ _ he2;have esn:=Hg.Rd.JC s1 s.rows.length (op:Int);have es3:Hg.Rd.Ad s1 (s1.BL s.rows.length (op:Int)).setBad.step:=(esn.trans (Hg.Rd.Gr _)).trans (Hg.Rd.Am _);have g4:Hg.Rd.Grow s4 s':=by rw[he];exact(Hg.Rd.DC _ _).trans (Hg.Rd.BJ _)
 have es0:=Hg.Rd.Ah s.step u (Hg.Rd.nd 18) rfl;have hgr:Hg.Rd.Grow (s.step.node u (Hg.Rd.nd 18)) s':=by exact(Hg.Rd.CO _).trans (es1.grow.trans (es3.grow.trans (es4.grow.trans g4)))
 have ho1:Okk s.step:=ho.es (Hg.Rd.Am s) (es0.grow.trans hgr) hf;have ho2:Okk (s.step.node u (Hg.Rd.nd 18)):=ho1.es es0 hgr hf;have ho3:=ho2.enter (by rw[es0.deep];show s.deep≤999;omega) (es1.grow.trans (es3.grow.trans (es4.grow.trans g4))) hf;have hd3:=DZ (s:=(s.step.node u (Hg.Rd.nd 18))) hb;have ho4:Okk s1:=ho3.es es1 (es3.grow.trans (es4.grow.trans g4)) hf;have ho5:Okk (s1.BL s.rows.length (op:Int)).setBad.step:=ho4.es es3 (es4.grow.trans g4) hf;have ho6:Okk s4:=ho5.es es4 g4 hf;have hl1:s.rows.length < s1.rows.length:=by
  have a1:=es1.grow.len;rw[Dm,Hg.Rd.Av] at a1;exact Nat.lt_of_lt_of_le (Nat.lt_succ_self _) a1
 have b1:=ho4.fin.at_;have hdp1:s1.deep≤90:=by rw[es1.deep];exact hd3
 have hdp2:(s4.need [41]).deep=s.deep+1:=by
  rw[(Hg.Rd.AZ s4 [41]).deep,es4.deep,es3.deep,es1.deep];exact CP _
 have TX:=fun W h=>zz (ih rb _ s.rows.length s1 W he1 h ho3 hd3 (hf.of (es3.grow.trans (es4.grow.trans g4))) (by rw[Dm,Hg.Rd.Av];exact Nat.lt_succ_self _));have TZ:=fun W h=>zz (ih rb _ s.rows.length s4 W he2 h ho5 (by rw[es3.deep];exact hdp1) (hf.of g4) (Nat.lt_of_lt_of_le hl1 es3.grow.len));have T4:=fun W h=>zz (BG (rb:=rb) (s:=s1) 4 4 (w:=W) h ho4 rfl rfl);have TO:=zz (fun W=>SX (s1.text 4) W);have TN2:=fun W h=>zz (BN (rb:=rb) (s:=s4) (t:=[41]) (w:=W) h ho6);rw[hop] at TO;have hq:(((op:Nat):Int)==0)=true:=by simp[hz]
 have T2:=fun W h=>zz (BG (rb:=rb) (s:=s) 2 2 (w:=W) h ho h2 rfl);have T1:=fun W h=>zz (BG (rb:=rb) (s:=s) 1 1 (w:=W) h ho h1 rfl);have TE0:=fun W h=>zz (Ai (rb:=rb) (s:=s) (t:=[116,114,117,101]) (w:=W) h ho hn0);have TE1:=fun W h=>zz (Ai (rb:=rb) (s:=s) (t:=[102,97,108,115,101]) (w:=W) h ho hn1);have TE2:=fun W h=>zz (Ai (rb:=rb) (s:=s) (t:=[114,101,97,100]) (w:=W) h ho hn2);have TA:=fun W h=>zz (Bv (rb:=rb) (s:=s) (t:=[33]) (w:=W) h ho h33);have TB:=fun W h=>zz (Bv (rb:=rb) (s:=s) (t:=[45]) (w:=W) h ho h45);have TP:=fun W h=>zz (Cf (rb:=rb) (s:=s) (t:=[40]) (w:=W) h ho h40);have TN:=fun W h=>zz (Bg (rb:=rb) (s:=s.step) (under:=u) s.rows.length (Hg.Rd.nd 18) (w:=W) h ho1 rfl hu rfl);have TQ:=fun W h=>zz (Da (rb:=rb) (s:=(s.step.node u (Hg.Rd.nd 18))) (w:=W) (b:=true) h ho2 (by rw[hb];rfl));generalize s1.text 4=t4 at*;have hi1:(0:Int)≤(s.rows.length:Int):=by omega
 have hi2:(s.rows.length:Int) < (s1.rows.length:Int):=by omega
 clear hz hop;go_enter Tryz.func130,Tryz.ntmps130
 go_wp2_with (first
  |(go_at_call 125;((with_reducible refine((T2 _ hR).out).mono ?_);rintro e w1 ⟨rfl,hR1,hb1⟩))
  |(go_at_call 125;((with_reducible refine((T1 _ hR1).out).mono ?_);rintro e w2 ⟨rfl,hR2,hb2⟩))
  |(go_at_call 91;((with_reducible refine((TE0 _ hR2).out).mono ?_);rintro e w3 ⟨rfl,hR3,hb3⟩))
  |(go_at_call 91;((with_reducible refine((TE1 _ hR3).out).mono ?_);rintro e w4 ⟨rfl,hR4,hb4⟩))
  |(go_at_call 91;((with_reducible refine((TE2 _ hR4).out).mono ?_);rintro e w5 ⟨rfl,hR5,hb5⟩))
  |(go_at_call 126;((with_reducible refine((TA _ hR5).out).mono ?_);rintro e w6 ⟨rfl,hR6,hb6⟩))
  |(go_at_call 126;((with_reducible refine((TB _ hR6).out).mono ?_);rintro e w7 ⟨rfl,hR7,hb7⟩))
  |(go_at_call 91;((with_reducible refine((TP _ hR7).out).mono ?_);rintro e w8 ⟨rfl,hR8,hb8⟩))
  |(go_at_call 86;refine((TN _ hR8).out).mono ?_;rintro e w9 ⟨rfl,hR9,hb9⟩)
  |(go_at_call 153;refine((TQ _ hR9).out).mono ?_;rintro e w10 ⟨rfl,hR10,hb10⟩)
  |(go_at_call 130;((with_reducible refine((TX _ hR10).out).mono ?_);rintro e w11 ⟨rfl,hR11,hb11⟩))
  |(go_at_call 125;((with_reducible refine((T4 _ hR11).out).mono ?_);rintro e w12 ⟨rfl,hR12,hb12⟩))
  |(go_at_call 154;refine(TO.out _).mono ?_;rintro e w13 ⟨rfl,hb13⟩;have hR13:=hR12.below hb13 (Nat.le_refl _);obtain⟨g,c,c4,hg1,hg2,_,hcs,hfz,hset⟩:=hR13.forCell (k:=s.rows.length) (List.getElem?_eq_getElem hl1);obtain⟨u5,hc5⟩:=hcs 3 (by omega);have hf5:=hfz (s.rows.length*7+3);obtain⟨c1,_,c3,_,_⟩:=hR13.cell;have f1:=hR13.frozen 1;have f3:=hR13.frozen 3;have hne1:¬rb=g:=(by omega);have hne2:¬g=rb:=(by omega);have HS:=zz hset;clear hcs hfz hset)
  |(go_at_call 130;rw[show s.rows.length*7+1+2=s.rows.length*7+3 by omega];obtain⟨r1,r2⟩:=HS.out 3 (.int .i64 (op:Int)) (fun x=>{x with node:={x.node with num:=(op:Int)}}) (by omega) (fun _ _=>rfl) (fun _=>rfl);((with_reducible refine((TZ _ (r1.setBad.setAt (s1.at_+1))).out).mono ?_);rintro e w14 ⟨rfl,hR14,hb14⟩))
  |(go_at_call 87;refine((TN2 _ hR14).out).mono ?_;rintro e w15 ⟨rfl,hR15,hb15⟩;obtain⟨_,c2,_,_,_⟩:=hR15.cell;have f2:=hR15.frozen 2))
 go_end0;rw[he];exact⟨rfl,hR15.F8 (by omega) (by omega),((((((((hb1).trans hb2).trans hb3).trans hb4).trans hb5).trans hb6).trans hb7).trans hb8).below.trans (hb9.trans (hb10.trans (hb11.trans (hb12.below.trans ((hb13.mono (Nat.le_of_lt hR12.lt)).trans (((r2.setCell (p:=⟨rb,3,none⟩) (Nat.le_refl _) _).setCell (p:=⟨rb,1,none⟩) (Nat.le_refl _) _).trans (hb14.trans (hb15.below.setCell (p:=⟨rb,2,none⟩) (Nat.le_refl _) _))))))))⟩
theorem PI(rb:Nat)(s s':Hg.Rd)(u:Nat)(w:World)(hR:RdAt w rb s)(ho:Okk s)(h2:s.text 2=[])(h1:s.text 1=[])(hn0:s.next [116,114,117,101]=false)(hn1:s.next [102,97,108,115,101]=false)(hn2:s.next [114,101,97,100]=false)(h33:s.next [33]=false)(h45:s.next [45]=false)(h40:s.next [40]=true)(hb:(s.step.node u (Hg.Rd.nd 18)).enter.bad=false)(f:Nat)(ih:KU f)(s1 s4:Hg.Rd)(op:Nat)(he1:Hg.Rd.expr f (s.step.node u (Hg.Rd.nd 18)).enter s.rows.length=some s1)
 (hop:Hg.Rd.opOf (s1.text 4)=op) (hz:op≠0) (he2:Hg.Rd.expr f (s1.BL s.rows.length (op:Int)).step s.rows.length=some s4) (he:s'=(s4.need [41]).leave) (hdp:s.deep≤90) (hf:Fin_ s') (hu:u < s.rows.length):
 Calls Tryz.prog 130 #[.pointer (some ⟨rb,0,none⟩),.int .i64 (u:Int)] w fun e w'=>e= .returned (.tuple #[])∧RdAt w' rb s'∧Below rb w w':=by
 have es1:=(Hg.Rd.Bi f).1 _ _ _ he1;have es4:=(Hg.Rd.Bi f).1 _ _ _ he2;have esn:=Hg.Rd.JC s1 s.rows.length (op:Int);have es3:Hg.Rd.Ad s1 (s1.BL s.rows.length (op:Int)).step:=esn.trans (Hg.Rd.Am _);have g4:Hg.Rd.Grow s4 s':=by rw[he];exact(Hg.Rd.DC _ _).trans (Hg.Rd.BJ _)
 have es0:=Hg.Rd.Ah s.step u (Hg.Rd.nd 18) rfl;have hgr:Hg.Rd.Grow (s.step.node u (Hg.Rd.nd 18)) s':=by exact(Hg.Rd.CO _).trans (es1.grow.trans (es3.grow.trans (es4.grow.trans g4)))
 have ho1:Okk s.step:=ho.es (Hg.Rd.Am s) (es0.grow.trans hgr) hf;have ho2:Okk (s.step.node u (Hg.Rd.nd 18)):=ho1.es es0 hgr hf;have ho3:=ho2.enter (by rw[es0.deep];show s.deep≤999;omega) (es1.grow.trans (es3.grow.trans (es4.grow.trans g4))) hf;have hd3:=DZ (s:=(s.step.node u (Hg.Rd.nd 18))) hb;have ho4:Okk s1:=ho3.es es1 (es3.grow.trans (es4.grow.trans g4)) hf;have ho5:Okk (s1.BL s.rows.length (op:Int)).step:=ho4.es es3 (es4.grow.trans g4) hf;have ho6:Okk s4:=ho5.es es4 g4 hf;have hl1:s.rows.length < s1.rows.length:=by
  have a1:=es1.grow.len;rw[Dm,Hg.Rd.Av] at a1;exact Nat.lt_of_lt_of_le (Nat.lt_succ_self _) a1
 have b1:=ho4.fin.at_;have hdp1:s1.deep≤90:=by rw[es1.deep];exact hd3
 have hdp2:(s4.need [41]).deep=s.deep+1:=by
  rw[(Hg.Rd.AZ s4 [41]).deep,es4.deep,es3.deep,es1.deep];exact CP _
 have TX:=fun W h=>zz (ih rb _ s.rows.length s1 W he1 h ho3 hd3 (hf.of (es3.grow.trans (es4.grow.trans g4))) (by rw[Dm,Hg.Rd.Av];exact Nat.lt_succ_self _));have TZ:=fun W h=>zz (ih rb _ s.rows.length s4 W he2 h ho5 (by rw[es3.deep];exact hdp1) (hf.of g4) (Nat.lt_of_lt_of_le hl1 es3.grow.len));have T4:=fun W h=>zz (BG (rb:=rb) (s:=s1) 4 4 (w:=W) h ho4 rfl rfl);have TO:=zz (fun W=>SX (s1.text 4) W);have TN2:=fun W h=>zz (BN (rb:=rb) (s:=s4) (t:=[41]) (w:=W) h ho6);rw[hop] at TO;have hq:(((op:Nat):Int)==0)=false:=by simp[hz]
 have T2:=fun W h=>zz (BG (rb:=rb) (s:=s) 2 2 (w:=W) h ho h2 rfl);have T1:=fun W h=>zz (BG (rb:=rb) (s:=s) 1 1 (w:=W) h ho h1 rfl);have TE0:=fun W h=>zz (Ai (rb:=rb) (s:=s) (t:=[116,114,117,101]) (w:=W) h ho hn0);have TE1:=fun W h=>zz (Ai (rb:=rb) (s:=s) (t:=[102,97,108,115,101]) (w:=W) h ho hn1);have TE2:=fun W h=>zz (Ai (rb:=rb) (s:=s) (t:=[114,101,97,100]) (w:=W) h ho hn2);have TA:=fun W h=>zz (Bv (rb:=rb) (s:=s) (t:=[33]) (w:=W) h ho h33);have TB:=fun W h=>zz (Bv (rb:=rb) (s:=s) (t:=[45]) (w:=W) h ho h45);have TP:=fun W h=>zz (Cf (rb:=rb) (s:=s) (t:=[40]) (w:=W) h ho h40);have TN:=fun W h=>zz (Bg (rb:=rb) (s:=s.step) (under:=u) s.rows.length (Hg.Rd.nd 18) (w:=W) h ho1 rfl hu rfl);have TQ:=fun W h=>zz (Da (rb:=rb) (s:=(s.step.node u (Hg.Rd.nd 18))) (w:=W) (b:=true) h ho2 (by rw[hb];rfl));generalize s1.text 4=t4 at*;have hi1:(0:Int)≤(s.rows.length:Int):=by omega
 have hi2:(s.rows.length:Int) < (s1.rows.length:Int):=by omega
 clear hz hop;go_enter Tryz.func130,Tryz.ntmps130
 go_wp2_with (first
  |(go_at_call 125;((with_reducible refine((T2 _ hR).out).mono ?_);rintro e w1 ⟨rfl,hR1,hb1⟩))
  |(go_at_call 125;((with_reducible refine((T1 _ hR1).out).mono ?_);rintro e w2 ⟨rfl,hR2,hb2⟩))
  |(go_at_call 91;((with_reducible refine((TE0 _ hR2).out).mono ?_);rintro e w3 ⟨rfl,hR3,hb3⟩))
  |(go_at_call 91;((with_reducible refine((TE1 _ hR3).out).mono ?_);rintro e w4 ⟨rfl,hR4,hb4⟩))
  |(go_at_call 91;((with_reducible refine((TE2 _ hR4).out).mono ?_);rintro e w5 ⟨rfl,hR5,hb5⟩))
  |(go_at_call 126;((with_reducible refine((TA _ hR5).out).mono ?_);rintro e w6 ⟨rfl,hR6,hb6⟩))
  |(go_at_call 126;((with_reducible refine((TB _ hR6).out).mono ?_);rintro e w7 ⟨rfl,hR7,hb7⟩))
  |(go_at_call 91;((with_reducible refine((TP _ hR7).out).mono ?_);rintro e w8 ⟨rfl,hR8,hb8⟩))
  |(go_at_call 86;refine((TN _ hR8).out).mono ?_;rintro e w9 ⟨rfl,hR9,hb9⟩)
  |(go_at_call 153;refine((TQ _ hR9).out).mono ?_;rintro e w10 ⟨rfl,hR10,hb10⟩)
  |(go_at_call 130;((with_reducible refine((TX _ hR10).out).mono ?_);rintro e w11 ⟨rfl,hR11,hb11⟩))
  |(go_at_call 125;((with_reducible refine((T4 _ hR11).out).mono ?_);rintro e w12 ⟨rfl,hR12,hb12⟩))
  |(go_at_call 154;refine(TO.out _).mono ?_;rintro e w13 ⟨rfl,hb13⟩;have hR13:=hR12.below hb13 (Nat.le_refl _);obtain⟨g,c,c4,hg1,hg2,_,hcs,hfz,hset⟩:=hR13.forCell (k:=s.rows.length) (List.getElem?_eq_getElem hl1);obtain⟨u5,hc5⟩:=hcs 3 (by omega);have hf5:=hfz (s.rows.length*7+3);obtain⟨c1,_,c3,_,_⟩:=hR13.cell;have f1:=hR13.frozen 1;have f3:=hR13.frozen 3;have hne1:¬rb=g:=(by omega);have hne2:¬g=rb:=(by omega);have HS:=zz hset;clear hcs hfz hset)
  |(go_at_call 130;rw[show s.rows.length*7+1+2=s.rows.length*7+3 by omega];obtain⟨r1,r2⟩:=HS.out 3 (.int .i64 (op:Int)) (fun x=>{x with node:={x.node with num:=(op:Int)}}) (by omega) (fun _ _=>rfl) (fun _=>rfl);((with_reducible refine((TZ _ (r1.setAt (s1.at_+1))).out).mono ?_);rintro e w14 ⟨rfl,hR14,hb14⟩))
  |(go_at_call 87;refine((TN2 _ hR14).out).mono ?_;rintro e w15 ⟨rfl,hR15,hb15⟩;obtain⟨_,c2,_,_,_⟩:=hR15.cell;have f2:=hR15.frozen 2))
 go_end0;rw[he];exact⟨rfl,hR15.F8 (by omega) (by omega),((((((((hb1).trans hb2).trans hb3).trans hb4).trans hb5).trans hb6).trans hb7).trans hb8).below.trans (hb9.trans (hb10.trans (hb11.trans (hb12.below.trans ((hb13.mono (Nat.le_of_lt hR12.lt)).trans ((r2.setCell (p:=⟨rb,1,none⟩) (Nat.le_refl _) _).trans (hb14.trans (hb15.below.setCell (p:=⟨rb,2,none⟩) (Nat.le_refl _) _))))))))⟩
end Go.Proofs.YtljmibnfmilfbaaGreatDoor
