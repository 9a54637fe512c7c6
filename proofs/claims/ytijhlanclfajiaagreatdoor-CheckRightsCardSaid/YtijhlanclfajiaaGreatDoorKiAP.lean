/-
  A part of the proof.
-/
import Derived.Test.YtijhlanclfajiaaGreatDoorKiAH
import Derived.Test.YtijhlanclfajiaaGreatDoorKiAD
import Derived.Test.YtijhlanclfajiaaGreatDoorKiAJ
import Derived.Test.YtijhlanclfajiaaGreatDoorKiAM
set_option linter.all false
set_option maxHeartbeats 32000000
set_option maxRecDepth 100000
namespace Go.Proofs.YtijhlanclfajiaaGreatDoor
open Go.RowKit
theorem X8:(Tryz.prog.info? 46).map (fun i=>(i.zero,i.size,i.bytes))=some (some (.agg #[.int .u64 0,.int .u8 0,.string ⟨#[]⟩,.int .i64 0,.int .u8 0,.int .u64 0,.slice none 0 0]),7,80):=by kernel_rfl
theorem SN:(Tryz.prog.info? 37).map (fun i=>(i.zero,i.size,i.bytes))=some (some (.int .u64 0),1,8):=by kernel_rfl
theorem Az{P:Program}{ops:Array Oper}{o:Oper}{a:Act}{w:World}{K:Act→World→Prop}{Q:Exit→Act→World→Prop}{E:Prop}(hgd:o.guard=none)(s x:Operand)(t:TypeId)
 (ho:o.op= .call {callee:= .builtin .append,args:= #[s,x],argTypes:= #[t,t]})
 (base:Nat) (e:TypeId) (i:TypeInfo) (z:Value) (size bytes:Nat) (ht:P.underlying t=some (.slice e)) (hi:P.info? e=some i) (hz:i.zero=some z)
 (hsize:i.size=size) (hby:i.bytes=bytes) (hzs:z.cells.size=size) (hsz:0 < size)
 (v:Value) (n:Nat) (xs:List Value) (hs:a.eval s=v) (hown:w.ownsRow base e size v n xs)
 (ad:Addr) (m c:Nat) (news:List Value) (hx:a.eval x= .slice (some ad) m c) (hl:news.length=m*size) (hnews:∀j u,news[j]? =some u→w.cell? (ad.add j)=some u) (h1:∀u∈news,u.oneCell'=true)
 (h63:n+m≤maxLen) (hbytes:(n+m)*bytes≤140737488355328) (hbase:base≤w.heap.size)
 (h:∀v' w',w'.ownsRow base e size v' (n+m) (xs++news)→w.grownBy w' v.ownBlock→(v'.ownBlock=v.ownBlock∨v'.ownBlock=some w.heap.size)→K (a.put o.dst v') w'):
 if Region.wanted o (yielded ops a.tmps)=true then Oper.wp P o a w K Q else E:=by
 have hw:Region.wanted o (yielded ops a.tmps)=true:=by simp[Region.wanted,hgd]
 rw[if_pos hw];obtain⟨v',w',hr,h2,h3,h4,h5⟩:=run_append_own_at (P:=P) w base t o.type e i z size bytes ht hi hz hsize hby hzs hsz v n xs hown ad m c news hl hnews h1 h63 hbytes hbase;unfold Oper.wp execOp;simp only[ho,resolve,invoke,builtin,Sem.run_bind,Sem.run_pure,Result.andThen_ok,List.map_toArray,List.map_cons,List.map_nil,hs,hx,hr];exact h v' w' h2 h3 h5
theorem row_one(r:Hg.Row):∀u∈Ap r (.slice none 0 0),u.oneCell'=true:=by
 intro u hu;simp only[Ap,List.mem_cons,List.not_mem_nil,or_false] at hu;rcases hu with rfl|rfl|rfl|rfl|rfl|rfl|rfl <;>rfl
@[reducible] def Tn(n:Hg.Node)(kv:Value):Value:= .agg #[.int .u8 (n.kind:Int),strV n.name,.int .i64 n.num,.int .u8 (n.type:Int),.int .u64 (n.ref:Int),kv]
theorem Uw(s:Hg.Rd)(under:Nat)(nd:Hg.Node)(h:s.rows.length=0):s.node under nd={s with rows:=s.rows++[⟨s.rows.length+1,nd⟩]}:=by
 simp[Hg.Rd.node,h]
theorem WX(s:Hg.Rd)(under:Nat)(nd:Hg.Node)(h:0 < s.rows.length):s.node under nd={s with rows:=Hg.Rd.Ef (s.rows++[⟨s.rows.length+1,nd⟩]) under (s.rows.length+1)}:=by
 simp only[Hg.Rd.node];rw[if_pos (by omega)]
theorem OT(rb:Nat)(s:Hg.Rd)(under:Nat)(nd:Hg.Node)(w:World)(hR:RdAt w rb s)(hk:nd.kids=[])(hu:under < s.rows.length∨s.rows.length=0)(hl:s.rows.length≤100000000)
 (hkl:∀(k:Nat) (r:Hg.Row),s.rows[k]? =some r→r.node.kids.length≤100000000):
 Calls Tryz.prog 89 #[.pointer (some ⟨rb,0,none⟩),.int .i64 (under:Int),Tn nd (.slice none 0 0)] w fun e w'=>
  e= .returned (.int .i64 (s.rows.length:Int))∧RdAt w' rb (s.node under nd)∧Below rb w w':=by
 obtain⟨i0,hi,hz0,hz1,hz2⟩:=info_parts X8;obtain⟨j0,hj,hj0,hj1,hj2⟩:=info_parts SN;have hlt:=hR.lt;obtain⟨a,c,xs,c4,hown,hnew⟩:=hR.forRow;have f4:=hR.frozen 4;have HN:=zz hnew;have HO:=zz hown;have HF4:=zz f4;clear hR hown hnew;have hw1:IntKind.u64.wrap ((s.rows.length:Int)+1)=(s.rows.length:Int)+1:=IntWalk.u64_in _ (by omega);go_enter Tryz.func89,Tryz.ntmps89;go_wp2;have hbx:∀j u,[Value.int .u8 (nd.kind:Int),strV nd.name,.int .i64 nd.num,.int .u8 (nd.type:Int),.int .u64 (nd.ref:Int),.slice none 0 0][j]? =some u→(w.alloc (.cells #[.int .u8 (nd.kind:Int),strV nd.name,.int .i64 nd.num,.int .u8 (nd.type:Int),.int .u64 (nd.ref:Int),.slice none 0 0] 44)).cell? ⟨w.heap.size,j,none⟩=some u:=by
  intro j u hj;rw[AJ _ w.heap.size j _ 44 (0,0) (AZ w _)];simpa using hj
 have hbel:Below w.heap.size w (w.alloc (.cells #[.int .u8 (nd.kind:Int),strV nd.name,.int .i64 nd.num,.int .u8 (nd.type:Int),.int .u64 (nd.ref:Int),.slice none 0 0] 44)):=(AP).alloc AA _;have hsz:w.heap.size+1=(w.alloc (.cells #[.int .u8 (nd.kind:Int),strV nd.name,.int .i64 nd.num,.int .u8 (nd.type:Int),.int .u64 (nd.ref:Int),.slice none 0 0] 44)).heap.size:=by simp
 generalize World.alloc w _=W0 at hbx hbel hsz⊢;have hHeld:(fun w'=>w'.cell? ⟨rb,4,none⟩=some (.slice a s.rows.length c)∧w'.cell? ⟨w.heap.size,0,none⟩=some (.int .u8 (nd.kind:Int))∧w'.cell? ⟨w.heap.size,1,none⟩=some (strV nd.name)∧w'.cell? ⟨w.heap.size,2,none⟩=some (.int .i64 nd.num)∧w'.cell? ⟨w.heap.size,3,none⟩=some (.int .u8 (nd.type:Int))∧w'.cell? ⟨w.heap.size,4,none⟩=some (.int .u64 (nd.ref:Int))∧w'.cell? ⟨w.heap.size,5,none⟩=some (.slice none 0 0)) W0.drew:=⟨(hbel.cell hlt).trans c4,hbx 0 _ rfl,hbx 1 _ rfl,hbx 2 _ rfl,hbx 3 _ rfl,hbx 4 _ rfl,hbx 5 _ rfl⟩;clear hbx c4 f4;have HSZ:=zz hsz;clear hsz;refine Ay (fun w'=>w'.cell? ⟨rb,4,none⟩=some (.slice a s.rows.length c)∧w'.cell? ⟨w.heap.size,0,none⟩=some (.int .u8 (nd.kind:Int))∧w'.cell? ⟨w.heap.size,1,none⟩=some (strV nd.name)∧w'.cell? ⟨w.heap.size,2,none⟩=some (.int .i64 nd.num)∧w'.cell? ⟨w.heap.size,3,none⟩=some (.int .u8 (nd.type:Int))∧w'.cell? ⟨w.heap.size,4,none⟩=some (.int .u64 (nd.ref:Int))∧w'.cell? ⟨w.heap.size,5,none⟩=some (.slice none 0 0)) 10 (by kernel_rfl) ?_;refine tz 0 ?_;refine tz 1 ?_;refine tz 2 ?_;refine tz 3 ?_;refine tz 4 ?_;refine tz 5 ?_;refine tz 6 ?_;refine tz 7 ?_;refine AR (i:=8) rfl (by kernel_rfl) (fun K hK=> ?_);go_simp;refine hK.out _ _ (⟨CY hHeld.1 _,CY hHeld.2.1 _,CY hHeld.2.2.1 _,CY hHeld.2.2.2.1 _,CY hHeld.2.2.2.2.1 _,CY hHeld.2.2.2.2.2.1 _,CY hHeld.2.2.2.2.2.2 _⟩) (fun hHeld=> ?_);clear hK K
 try simp only[Act.put,sA,sB,sC]
 refine AR (i:=9) rfl (by kernel_rfl) (fun K hK=> ?_);refine Az rfl (.tmp 19) (.tmp 23) _ rfl (rb+1) 46 i0 _ 7 80 Tryz.underlying24 hi hz0 hz1 hz2 rfl (by decide) _ _ _ rfl ((own_below HO.out hbel AA).alloc _) ⟨_,0,none⟩ 1 1 (Ap ⟨s.rows.length+1,nd⟩ (.slice none 0 0)) rfl rfl ?_ (row_one _) ?_ ?_ ?_ ?_
 ·exact Ao _ _ _
 ·unfold maxLen;omega
 ·omega
 ·have:=hbel.size;simp;omega
 intro v1 W1 hown1 hg hat;have hne1:some rb≠Value.ownBlock (.slice a s.rows.length c):=fun e=>by have:=(HO.out.lt rb e.symm).1;omega
 have hne2:some w.heap.size≠Value.ownBlock (.slice a s.rows.length c):=fun e=>by have:=(HO.out.lt w.heap.size e.symm).2;omega
 refine hK.out _ _ (⟨hg.cell hHeld.1 hne1,hg.cell hHeld.2.1 hne2,hg.cell hHeld.2.2.1 hne2,hg.cell hHeld.2.2.2.1 hne2,hg.cell hHeld.2.2.2.2.1 hne2,hg.cell hHeld.2.2.2.2.2.1 hne2,hg.cell hHeld.2.2.2.2.2.2 hne2⟩) (fun hHeld=> ?_);clear hK K
 try simp only[Act.put,sA,sB,sC]
 refine Ag (by kernel_rfl) ?_;simp only[List.drop_succ_cons,List.drop_zero];obtain⟨g1,c1,rfl⟩:=ownsRow_succ hown1;obtain⟨hRn,hBn⟩:=HN.out _ W1 _ ⟨s.rows.length+1,nd⟩ (hbel.drew.alloc hbel.size _) hk hown1 hg hat;have hc1:=hHeld.1;have hf1:W1.frozen? ⟨rb,4,none⟩=false:=by
  rw[World.frozen?_of_block (hg.block rb (by have:=hbel.size;simp;omega) hne1)];rw[World.frozen?_of_block (w:=w) ((hbel.drew.alloc hbel.size _).block rb hlt)];exact HF4.out
 clear hne1 hne2 hHeld hg hat hown1 hbel;rcases Nat.eq_zero_or_pos s.rows.length with hz|hz
 ·have hq1:decide ((1:Int) < (s.rows.length:Int)+1)=false:=by simp;omega
  have hnode:=zz (Uw s under nd hz);clear hz hu;go_wp2;go_ret;exact⟨DJ (by omega),by rw[hnode.out];exact hRn,hBn⟩
 ·have hq1:decide ((1:Int) < (s.rows.length:Int)+1)=true:=by simp;omega
  have hq2:decide (0 < s.rows.length)=true:=by simp;omega
  have hnode:=zz (WX s under nd hz);have hus:under < s.rows.length:=by omega
  go_wp2;clear hc1 hf1;generalize World.setCell W1 _ _=W2 at hRn hBn⊢;have hl1:({s with rows:=s.rows++[⟨s.rows.length+1,nd⟩]}:Hg.Rd).rows.length=s.rows.length+1:=by simp
  have hr1:({s with rows:=s.rows++[⟨s.rows.length+1,nd⟩]}:Hg.Rd).rows[under]? =some s.rows[under]:=by simp[List.getElem?_append_left hus]
  have hkr:=hkl under s.rows[under] (AX hus);obtain⟨g,c2,ka,kc,k4,hg1,hg2,k6,fk,hd1,hd2,hko,hkn⟩:=hRn.forKid hr1;rw[hl1] at k4 hkn;have hlt2:=hRn.lt;have HKN:=zz hkn;have HKO:=zz hko;have HD1:=zz hd1;have HD2:=zz hd2;have hHeld:(fun w'=>w'.cell? ⟨rb,4,none⟩=some (.slice (some ⟨g,0,none⟩) (s.rows.length+1) c2)∧w'.cell? ⟨g,under*7+6,none⟩=some (.slice ka s.rows[under].node.kids.length kc)) W2.drew:=⟨k4,k6⟩;have hi1:(0:Int)≤(under:Int):=by omega
  have hi2:(under:Int) < (s.rows.length:Int)+1:=by omega
  have hi3:(under:Int) < ((s.rows.length+1:Nat):Int):=by omega
  clear hRn hko hkn hd1 hd2 hr1 hl1 hq1 hq2 hkl;generalize s.rows[under]=r at*;refine Ay (fun w'=>w'.cell? ⟨rb,4,none⟩=some (.slice (some ⟨g,0,none⟩) (s.rows.length+1) c2)∧w'.cell? ⟨g,under*7+6,none⟩=some (.slice ka r.node.kids.length kc)) 17 (by kernel_rfl) ?_;refine tz 0 ?_;refine tz 1 ?_;refine tz 2 ?_;refine tz 3 ?_;refine tz 4 ?_;refine tz 5 ?_;refine tz 6 ?_;refine tz 7 ?_;refine tz 8 ?_;refine tz 9 ?_;refine tz 10 ?_;refine tz 11 ?_;refine tz 12 ?_;refine tz 13 ?_;refine tz 14 ?_;refine AR (i:=15) rfl (by kernel_rfl) (fun K hK=> ?_);go_simp;refine hK.out _ _ (⟨CY hHeld.1 _,CY hHeld.2 _⟩) (fun hHeld=> ?_);clear hK K
  try simp only[Act.put,sA,sB,sC]
  refine AR (i:=16) rfl (by kernel_rfl) (fun K hK=> ?_);refine Az rfl (.tmp 42) (.tmp 44) _ rfl (rb+1) 37 j0 _ 1 8 Tryz.underlying42 hj hj0 hj1 hj2 rfl (by decide) _ _ _ rfl (HKO.out.alloc _) ⟨_,0,none⟩ 1 1 [idV (s.rows.length+1)] rfl rfl ?_ (by intro u hu;simp only[List.mem_singleton] at hu;subst hu;rfl) ?_ ?_ ?_ ?_
  ·exact Ao _ _ _
  ·unfold maxLen;omega
  ·omega
  ·simp;omega
  intro v3 W3 hown3 hg3 hat3;refine hK.out _ _ (⟨hg3.cell hHeld.1 (fun e=>HD2.out e.symm),hg3.cell hHeld.2 (fun e=>HD1.out e.symm)⟩) (fun hHeld=> ?_);clear hK K
  try simp only[Act.put,sA,sB,sC]
  refine Ag (by kernel_rfl) ?_;simp only[List.drop_succ_cons,List.drop_zero];obtain⟨g3,c3,rfl⟩:=ownsRow_succ hown3;obtain⟨hR3,hB3,hc4,⟨u6,hc6⟩,hf6⟩:=HKN.out _ W3 _ (s.rows.length+1) ((Below.refl _ W2).drew.alloc (by simp) _) hown3 hg3 hat3;have hne1:¬rb=g:=by omega
  have hne2:¬g=rb:=by omega
  clear hHeld hown3 hg3 hat3 HKN HKO HD1 HD2 k4 k6 fk;go_wp2;go_ret;exact⟨DJ (by omega),by rw[hnode.out];exact hR3,hBn.trans hB3⟩
structure Fin_ (s:Hg.Rd):Prop where
 rows:s.rows.length≤10000000
 at_:s.at_≤10000000
 L:s.L.length≤10000000
 txt:∀t∈s.L,t.text.length≤1000000
theorem Fin_.of{s s':Hg.Rd}(h:Fin_ s')(g:Hg.Rd.Grow s s'):Fin_ s:=
 ⟨AO g.len h.rows,AO g.at_ h.at_,by rw[←g.L];exact h.L,by rw[←g.L];exact h.txt⟩
structure Okk (s:Hg.Rd):Prop where
 inv:Hg.Rd.Inv s
 fin:Fin_ s
 deep:s.deep≤1000
 level:s.level≤1000
theorem Okk.lim{s:Hg.Rd}(h:Okk s):Lim s:=⟨by have:=h.fin.at_;omega,by have:=h.fin.L;omega,by have:=h.deep;omega,by have:=h.level;omega⟩
theorem Okk.es{s a s':Hg.Rd}(h:Okk s)(e:Hg.Rd.Ak s a)(g:Hg.Rd.Grow a s')(hf:Fin_ s'):Okk a:=
 ⟨e.inv h.inv,hf.of g,by rw[e.deep];exact h.deep,by rw[e.level];exact h.level⟩
theorem Okk.text{s:Hg.Rd}(h:Okk s)(k:Nat):(s.text k).length≤1000000:=by
 unfold Hg.Rd.text;split
 ·simp
 ·split
  ·rename_i t ht
   split
   ·exact h.fin.txt t (List.mem_of_getElem? ht)
   ·simp
  ·simp
theorem KY{rb:Nat}{s:Hg.Rd}{t:List UInt8}{w:World}(hR:RdAt w rb s)(hl:Okk s)(hn:s.next t=false):
 Calls Tryz.prog 94 #[.pointer (some ⟨rb,0,none⟩),strV t] w fun e w'=>e= .returned (.bool false)∧RdAt w' rb s∧Lite rb w w':=by
 have h:=Ka rb s t w hR hl.lim;rw[hn,show s.eat t=s by simp[Hg.Rd.eat,hn]] at h;exact h
theorem Ii{rb:Nat}{s:Hg.Rd}{t:List UInt8}{w:World}(hR:RdAt w rb s)(hl:Okk s)(hn:s.next t=true):
 Calls Tryz.prog 94 #[.pointer (some ⟨rb,0,none⟩),strV t] w fun e w'=>e= .returned (.bool true)∧RdAt w' rb s.step∧Lite rb w w':=by
 have h:=Ka rb s t w hR hl.lim;rw[hn,show s.eat t=s.step by simp[Hg.Rd.eat,hn]] at h;exact h
theorem NB{rb:Nat}{s:Hg.Rd}{t:List UInt8}{w:World}{b:Bool}(hR:RdAt w rb s)(hl:Okk s)(hn:s.next t=b):
 Calls Tryz.prog 139 #[.pointer (some ⟨rb,0,none⟩),strV t] w fun e w'=>e= .returned (.bool b)∧RdAt w' rb s∧Lite rb w w':=by
 have hL:=hl.lim;refine(Kw rb s t w hR (by have:=hL.at_;omega) (by have:=hL.L;omega)).mono ?_;rintro e w' ⟨rfl,n,rfl⟩;rw[hn];exact⟨rfl,hR.drewN n,Lite.drewN _ _ _⟩
theorem Vw{rb:Nat}{s:Hg.Rd}{k:Nat}{w:World}{x:List UInt8}(hR:RdAt w rb s)(hl:Okk s)(hn:s.text k=x):
 Calls Tryz.prog 138 #[.pointer (some ⟨rb,0,none⟩),.int .u8 (k:Int)] w fun e w'=>e= .returned (strV x)∧RdAt w' rb s∧Lite rb w w':=by
 have hL:=hl.lim;refine(I5 rb s k w hR (by have:=hL.at_;omega) (by have:=hL.L;omega)).mono ?_;rintro e w' ⟨rfl,n,rfl⟩;rw[hn];exact⟨rfl,hR.drewN n,Lite.drewN _ _ _⟩
theorem Xw{rb:Nat}{s:Hg.Rd}(z:Int)(k:Nat){w:World}{x:List UInt8}(hR:RdAt w rb s)(hl:Okk s)(hn:s.text k=x)(hz:z=(k:Int)):
 Calls Tryz.prog 138 #[.pointer (some ⟨rb,0,none⟩),.int .u8 z] w fun e w'=>e= .returned (strV x)∧RdAt w' rb s∧Lite rb w w':=by subst hz;exact Vw hR hl hn
theorem Cx{rb:Nat}{s:Hg.Rd}{t:List UInt8}{w:World}(hR:RdAt w rb s)(hl:Okk s):
 Calls Tryz.prog 90 #[.pointer (some ⟨rb,0,none⟩),strV t] w fun e w'=>e= .returned (.tuple #[])∧RdAt w' rb (s.need t)∧Lite rb w w':=OU rb s t w hR hl.lim
theorem IV{rb:Nat}{s:Hg.Rd}{w:World}(hR:RdAt w rb s)(hl:Okk s):
 Calls Tryz.prog 91 #[.pointer (some ⟨rb,0,none⟩)] w fun e w'=>e= .returned (strV (s.text 1))∧RdAt w' rb s.name∧Lite rb w w':=U4 rb s w hR hl.lim
theorem JD{rb:Nat}{s:Hg.Rd}{w:World}{b:Bool}(hR:RdAt w rb s)(hl:Okk s)(hb:(!s.enter.bad)=b):
 Calls Tryz.prog 166 #[.pointer (some ⟨rb,0,none⟩)] w fun e w'=>e= .returned (.bool b)∧RdAt w' rb s.enter∧Below rb w w':=by
 rw[←hb];exact Sn rb s w hR hl.lim
theorem RA{rb:Nat}{s:Hg.Rd}{t:List UInt8}{w:World}(hR:RdAt w rb s)(hl:Okk s):
 Calls Tryz.prog 165 #[.pointer (some ⟨rb,0,none⟩),strV t] w fun e w'=>e= .returned (.int .u64 ((s.find t).1:Int))∧RdAt w' rb (s.find t).2∧Lite rb w w':=
 VI rb s t w hR (by have:=hl.inv.seen;have:=hl.inv.used;have:=hl.fin.rows;omega)
theorem WY{rb:Nat}{s:Hg.Rd}{under:Nat}(nd:Hg.Node){w:World}(hR:RdAt w rb s)(hl:Okk s)(hk:nd.kids=[])(hu:under < s.rows.length):
 Calls Tryz.prog 89 #[.pointer (some ⟨rb,0,none⟩),.int .i64 (under:Int),Tn nd (.slice none 0 0)] w fun e w'=>
  e= .returned (.int .i64 (s.rows.length:Int))∧RdAt w' rb (s.node under nd)∧Below rb w w':=
 OT rb s under nd w hR hk (.inl hu) (by have:=hl.fin.rows;omega) (fun k r hr=>by have:=hl.inv.kids k r hr;have:=hl.fin.rows;omega)
theorem RdAt.NG{w:World}{rb:Nat}{s:Hg.Rd}(h:RdAt w rb s){x:Int}(hx:x=(s.deep:Int)-1)(hp:1≤s.deep):RdAt (w.setCell ⟨rb,2,none⟩ (.int .i64 x)) rb s.leave:=by
 have e:x=((s.deep-1:Nat):Int):=by omega
 rw[e];exact h.setDeep _
theorem Fy{rb:Nat}{s:Hg.Rd}{under:Nat}(n:Nat)(nd:Hg.Node){w:World}(hR:RdAt w rb s)(hl:Okk s)(hk:nd.kids=[])(hu:under < s.rows.length)(hn:s.rows.length=n):
 Calls Tryz.prog 89 #[.pointer (some ⟨rb,0,none⟩),.int .i64 (under:Int),Tn nd (.slice none 0 0)] w fun e w'=>
  e= .returned (.int .i64 (n:Int))∧RdAt w' rb (s.node under nd)∧Below rb w w':=by subst hn;exact WY nd hR hl hk hu
theorem Du(s:Hg.Rd):s.enter.deep=s.deep+1:=by unfold Hg.Rd.enter;dsimp only;split <;>rfl
theorem Hm(s:Hg.Rd):s.enter.rows=s.rows:=by unfold Hg.Rd.enter;dsimp only;split <;>rfl
theorem El{s:Hg.Rd}(h:s.enter.bad=false):s.enter.deep≤90:=by
 unfold Hg.Rd.enter at h⊢;dsimp only at h⊢
 split at h
 ·simp[Hg.Rd.setBad] at h
 ·rename_i h1
  rw[if_neg h1];simpa using h1
theorem Ou{s:Hg.Rd}(h:Hg.Rd.Inv s):Hg.Rd.Inv s.enter:=by
 unfold Hg.Rd.enter;dsimp only;split <;>exact Hg.Rd.EU h rfl rfl rfl rfl rfl rfl rfl AA
theorem F4(s:Hg.Rd):s.enter.level=s.level:=by unfold Hg.Rd.enter;dsimp only;split <;>rfl
theorem Okk.enter{s s':Hg.Rd}(h:Okk s)(hd:s.deep≤999)(g:Hg.Rd.Grow s.enter s')(hf:Fin_ s'):Okk s.enter:=
 ⟨Ou h.inv,hf.of g,by rw[Du];omega,by rw[F4];exact h.level⟩
def O1(f:Nat):Prop:=∀(rb:Nat) (s:Hg.Rd) (u:Nat) (s':Hg.Rd) (w:World),Hg.Rd.expr f s u=some s'→RdAt w rb s→Okk s→s.deep≤90→Fin_ s'→u < s.rows.length→
 Calls Tryz.prog 143 #[.pointer (some ⟨rb,0,none⟩),.int .i64 (u:Int)] w fun e w'=>e= .returned (.tuple #[])∧RdAt w' rb s'∧Below rb w w'
def UK(f:Nat):Prop:=∀(rb:Nat) (s:Hg.Rd) (u:Nat) (m:List UInt8) (s':Hg.Rd) (w:World),Hg.Rd.call f s u m=some s'→RdAt w rb s→Okk s→s.deep≤90→Fin_ s'→u < s.rows.length→m.length≤1000000→
 Calls Tryz.prog 164 #[.pointer (some ⟨rb,0,none⟩),.int .i64 (u:Int),strV m] w fun e w'=>e= .returned (.tuple #[])∧RdAt w' rb s'∧Below rb w w'
end Go.Proofs.YtijhlanclfajiaaGreatDoor
