/-
  Part of the proof of CheckLists.
-/
import Derived.Test.YtljmibnfmilfbaaGreatDoorKeAP
import Derived.Test.YtljmibnfmilfbaaGreatDoorKeAH
import Derived.Deep.Cut
import Derived.Deep.CutBlock
import Derived.Test.YtljmibnfmilfbaaGreatDoorKeAR
import Derived.Maps.RangeWalk
import Derived.Test.YtljmibnfmilfbaaGreatDoorKeAA
set_option linter.all false
set_option maxHeartbeats 32000000
set_option maxRecDepth 100000
namespace Go.Proofs.YtljmibnfmilfbaaGreatDoor
open Go.RowKit
theorem Lc:(Tryz.prog.info? 9).map (fun i=>(i.zero,i.size,i.bytes))=some (some (.string ⟨#[]⟩),1,16):=by kernel_rfl
theorem AC{B:Nat}{w w':World}(h:Below B w w')(hB:w.heap.size≤B){p:Addr}{v:Value}(hc:w.cell? p=some v):w'.cell? p=some v:=
 (h.cell (Nat.lt_of_lt_of_le (World.block_lt_of_cell? w p hc) hB)).trans hc
@[simp,go_sem] theorem bytes_append(a b:List UInt8):ByteArray.mk a.toArray++ByteArray.mk b.toArray=ByteArray.mk (a++b).toArray:=by
 apply ByteArray.ext;rw[ByteArray.data_append];simp
theorem Mf{s:Hg.Rd}{k:Nat}{r:Hg.Row}(h:s.rows[k]? =some r):s.idAt k=r.id:=by simp[Hg.Rd.idAt,h]
def Y1(rb n:Nat)(sE:Hg.Rd)(f:Nat)(w0:World)(k:Nat)(p:Value)(wr:World):Prop:=
 ∃(b:Bool) (t:Hg.Rd),p= .bool b∧Hg.Rd.args k b t n=some sE∧RdAt wr rb t∧Okk t∧t.deep≤90∧n < t.rows.length∧Below rb w0 wr∧k≤f
theorem VG(f:Nat)(ihE:∀g,g≤f→KU g):Qs (f+1):=by
 intro rb s u m s' w hcall hR ho hdp hf hu hm;have hbook:∃s3 nm cid s4,((s.node u (Hg.Rd.nd 19)).need [46]).name=s3∧((s.node u (Hg.Rd.nd 19)).need [46]).text 1=nm∧s3.idAt s.rows.length=cid∧{s3 with calls:=s3.calls++[cid],wants:=s3.wants++[m++32::nm]}=s4∧
  (if s4.enter.bad=true then some s4.enter.leave else(Hg.Rd.args f true (s4.enter.need [40]) s.rows.length).map Hg.Rd.leave)=some s':=by
  refine⟨_,_,_,_,rfl,rfl,rfl,rfl, ?_⟩;rw[←hcall,Hg.Rd.call];simp only[List.append_assoc,List.cons_append,List.nil_append]
 obtain⟨s3,nm,cid,s4,e3,enm,ecid,e4,he⟩:=hbook;clear hcall;have hes:Hg.Rd.Ad s s4:=by
  subst e4 ecid e3 enm;have hrn:((s.node u (Hg.Rd.nd 19)).need [46]).name.rows=(s.node u (Hg.Rd.nd 19)).rows:=(Hg.Rd.CQ _).2.2.trans (Hg.Rd.Dn _ _).2.2;have hid:((s.node u (Hg.Rd.nd 19)).need [46]).name.idAt s.rows.length=s.rows.length+1:=(Hg.Rd.N7 hrn _).trans (Hg.Rd.N8 s u _);have A:Hg.Rd.Ad s ((s.node u (Hg.Rd.nd 19)).need [46]).name:=((Hg.Rd.Ah s u _ (Hg.Rd.Ch _)).trans (Hg.Rd.AZ _ _)).trans (Hg.Rd.Cw _);have hl:((s.node u (Hg.Rd.nd 19)).need [46]).name.rows.length=s.rows.length+1:=by rw[hrn,Hg.Rd.Av]
  exact Hg.Rd.Wv A (by omega) ((Hg.Rd.CQ _).1.trans (Hg.Rd.Dn _ _).1) ((Hg.Rd.CQ _).2.1.trans (Hg.Rd.Dn _ _).2.1) (by rw[hid,hl];omega) (Hg.Rd.Ad.refl _)
 have g34:Hg.Rd.Grow s3 s4:=by rw[←e4];exact Hg.Rd.Be rfl (Nat.le_refl _) id rfl
 have g4:Hg.Rd.Grow s4 s':=by
  by_cases hb:s4.enter.bad=true
  ·rw[if_pos hb] at he
   injection he with he;rw[←he];exact(Hg.Rd.CO _).trans (Hg.Rd.BJ _)
  ·rw[if_neg hb] at he
   cases ha:Hg.Rd.args f true (s4.enter.need [40]) s.rows.length with
   |none=>rw[ha] at he;simp at he
   |some s5=>
     rw[ha] at he;injection he with he;rw[←he];exact(Hg.Rd.CO _).trans ((Hg.Rd.DC _ _).trans ((((Hg.Rd.Bi f).2.2 _ _ _ _ ha).grow).trans (Hg.Rd.BJ _)))
 have ho4:Okk s4:=ho.es hes g4 hf;obtain⟨j0,hj,hj0,hj1,hj2⟩:=info_parts Rc;obtain⟨k0,hk,hk0,hk1,hk2⟩:=info_parts Lc;have es1:=Hg.Rd.Ah s u (Hg.Rd.nd 19) rfl;have es2:=Hg.Rd.AZ (s.node u (Hg.Rd.nd 19)) [46];have es3:=Hg.Rd.Cw ((s.node u (Hg.Rd.nd 19)).need [46]);rw[e3] at es3;have ho3:Okk s3:=by
  have A:=(es1.trans es2).trans es3;exact ho.es A (g34.trans g4) hf
 have ho1:Okk (s.node u (Hg.Rd.nd 19)):=ho.es es1 (es2.grow.trans es3.grow) ho3.fin;have ho2:Okk ((s.node u (Hg.Rd.nd 19)).need [46]):=ho1.es es2 es3.grow ho3.fin;have hl3:s.rows.length < s3.rows.length:=by
  have a1:=es2.grow.len;have a2:=es3.grow.len;rw[Hg.Rd.Av] at a1;omega
 have hnm:nm.length≤1000000:=by rw[←enm];exact ho2.text 1
 have TN:=fun W h=>zz (Bg (rb:=rb) (s:=s) (under:=u) s.rows.length (Hg.Rd.nd 19) (w:=W) h ho rfl hu rfl);have TD:=fun W h=>zz (BN (rb:=rb) (s:=s.node u (Hg.Rd.nd 19)) (t:=[46]) (w:=W) h ho1);have TM:=fun W h=>zz (Fx (rb:=rb) (s:=(s.node u (Hg.Rd.nd 19)).need [46]) (w:=W) h ho2);rw[e3,enm] at TM;go_enter Tryz.func151,Tryz.ntmps151;go_upto_region 3 with(first
  |(go_at_call 86;refine((TN _ hR).out).mono ?_;rintro e w1 ⟨rfl,hR1,hb1⟩)
  |(go_at_call 87;refine((TD _ hR1).out).mono ?_;rintro e w2 ⟨rfl,hR2,hb2⟩)
  |(go_at_call 88;refine((TM _ hR2).out).mono ?_;rintro e w3 ⟨rfl,hR3,hb3⟩))
 go_cut [] from 17 (fun wx=>RdAt wx rb s4∧Below rb w3 wx)
 case first=>
  obtain⟨a1,c1,a2,c2,k9,k10,hown1,hrb1,hrb2,hneR,hstep⟩:=hR3.Uj;obtain⟨g,c,k4,hg1,hg2,kid,_,_,_⟩:=hR3.forCell (k:=s.rows.length) (List.getElem?_eq_getElem hl3);rw[←Mf (List.getElem?_eq_getElem hl3),ecid] at kid;have HM0:=zz (show(some rb≠Value.ownBlock (.slice a1 s3.calls.length c1))∧(some rb≠Value.ownBlock (.slice a2 s3.wants.length c2)) from⟨fun e=>absurd (hrb1 rb e.symm) (Nat.lt_irrefl _),fun e=>absurd (hrb2 rb e.symm) (Nat.lt_irrefl _)⟩);have HM1:=HM0;have HM2:=HM0;have HM3:=zz (show(some g≠Value.ownBlock (.slice a1 s3.calls.length c1))∧(some g≠Value.ownBlock (.slice a2 s3.wants.length c2)) from⟨(hneR g _ _ k4).1.symm,(hneR g _ _ k4).2.symm⟩);have HF:=zz (show∀b,w3.heap.size≤b→some b≠Value.ownBlock (.slice a1 s3.calls.length c1) from fun b hb e=>absurd (hown1.lt b e.symm).2 (by omega));have HO:=zz hown1;have HSTEP:=zz hstep;have hlt:=hR3.lt;have f9:=hR3.frozen 9;have f10:=hR3.frozen 10;have hHeld:(fun w'=>w'.cell? ⟨rb,4,none⟩=some (.slice (some ⟨g,0,none⟩) s3.rows.length c)∧w'.cell? ⟨rb,9,none⟩=some (.slice a1 s3.calls.length c1)∧w'.cell? ⟨rb,10,none⟩=some (.slice a2 s3.wants.length c2)∧w'.cell? ⟨g,s.rows.length*7,none⟩=some (.int .u64 (cid:Int))) (World.drew w3):=⟨k4,k9,k10,kid⟩;have hi1:(0:Int)≤(s.rows.length:Int):=by omega
  have hi2:(s.rows.length:Int) < (s3.rows.length:Int):=by omega
  have hsm:=ho3.inv.calls;have hfr:=ho3.fin.rows;have hsw:s3.wants.length≤10000000:=by rw[ho3.inv.wants];omega
  have hcat1:¬9223372036854775807 < m.length+1:=by omega
  have hcat2:¬9223372036854775807 < m.length+1+nm.length:=by omega
  have hcat3:¬9223372036854775807 < m.length+(nm.length+1):=by omega
  clear hrb1 hrb2 hneR hstep hown1;refine wp_region_any (by kernel_rfl) ?_;refine wpAny_take (i:=1) (v:= ?_) rfl (by kernel_rfl) (by kernel_rfl) (by kernel_rfl) (fun _ _ _ h=>h) (Or.inl ⟨by rfl, ?_⟩) ?_;rotate_left
  ·(intro w';go_simp;try with_reducible rfl)
  try simp only[Act.put,sA,sB,sC]
  refine Fg (S:=fun w'=>w'.cell? ⟨rb,4,none⟩=some (.slice (some ⟨g,0,none⟩) s3.rows.length c)∧w'.cell? ⟨rb,9,none⟩=some (.slice a1 s3.calls.length c1)∧w'.cell? ⟨rb,10,none⟩=some (.slice a2 s3.wants.length c2)∧w'.cell? ⟨g,s.rows.length*7,none⟩=some (.int .u64 (cid:Int))) (n:=26) _ _ _ _ ?_;refine ty [1] 0 _ _ _ ?_;refine ty [1] 2 _ _ _ ?_;refine ty [1] 3 _ _ _ ?_;refine ty [1] 4 _ _ _ ?_;refine ty [1] 5 _ _ _ ?_;refine ty [1] 6 _ _ _ ?_;refine ty [1] 7 _ _ _ ?_;refine ty [1] 8 _ _ _ ?_;refine ty [1] 9 _ _ _ ?_;refine ty [1] 10 _ _ _ ?_;refine ty [1] 11 _ _ _ ?_;refine ty [1] 12 _ _ _ ?_;refine ty [1] 13 _ _ _ ?_;refine ty [1] 16 _ _ _ ?_;refine ty [1] 17 _ _ _ ?_;refine ty [1] 18 _ _ _ ?_;refine ty [1] 19 _ _ _ ?_;refine ty [1] 20 _ _ _ ?_;refine ty [1] 21 _ _ _ ?_;refine ty [1] 22 _ _ _ ?_;refine ty [1] 23 _ _ _ ?_;refine Fh (i:=14) (j:=24) rfl rfl (by kernel_rfl) (fun K hK=> ?_) (fun K hK=> ?_)
  ·go_simp
   generalize hWa:World.drew (World.alloc _ _)=Wa;have hTa:∀j u,[idV cid][j]? =some u→Wa.cell? ((⟨w3.heap.size,0,none⟩:Addr).add j)=some u:=by rw[←hWa];exact Af _ _ _
   have hBa:Below w3.heap.size w3 Wa:=by rw[←hWa];exact((Below.refl _ _).alloc (Nat.le_refl _) _).drew
   clear hWa;refine hK.out _ _ (⟨AC hBa (Nat.le_refl _) hHeld.1,AC hBa (Nat.le_refl _) hHeld.2.1,AC hBa (Nat.le_refl _) hHeld.2.2.1,AC hBa (Nat.le_refl _) hHeld.2.2.2⟩) (fun hHeld=> ?_);clear hK K
   try simp only[Act.put,sA,sB,sC]
   refine Fh (i:=15) (j:=24) rfl rfl (by kernel_rfl) (fun K hK=> ?_) (fun K hK=> ?_)
   ·have hB0:Below w3.heap.size w3 Wa:=((Below.refl w3.heap.size w3)).trans (hBa.mono (Nat.le_refl _))
    refine Ac rfl (.tmp 22) (.tmp 31) _ rfl (rb+1) 30 j0 _ 1 8 Tryz.underlying31 hj hj0 hj1 hj2 rfl (by decide) _ _ _ rfl (own_below HO.out hB0 (Nat.le_refl _)) ⟨_,0,none⟩ 1 1 [idV cid] rfl rfl ?_ (by intro u hu;simp only[List.mem_singleton] at hu;subst hu;rfl) ?_ ?_ ?_ ?_
    ·exact hTa
    ·unfold maxLen;omega
    ·omega
    ·have:=hB0.size;omega
    intro v1 Wb ownb gb atb;have hST:=HSTEP.out Wa Wb v1 cid hB0 ownb gb atb;refine hK.out _ _ (⟨gb.cell hHeld.1 HM0.out.1,gb.cell hHeld.2.1 HM1.out.1,gb.cell hHeld.2.2.1 HM2.out.1,gb.cell hHeld.2.2.2 HM3.out.1⟩) (fun hHeld=> ?_);clear hK K
    try simp only[Act.put,sA,sB,sC]
    refine AB (i:=24) rfl (by kernel_rfl) (fun K hK=> ?_);go_simp;generalize hWc:World.alloc _ _=Wc;have hTc:∀j u,[strV (m++32::nm)][j]? =some u→Wc.cell? ((⟨Wb.heap.size,0,none⟩:Addr).add j)=some u:=by rw[←hWc];exact Af _ _ _
    have hBc:Below Wb.heap.size Wb Wc:=by rw[←hWc];exact(Below.refl _ _).alloc (Nat.le_refl _) _
    clear hWc;refine hK.out _ _ (⟨AC hBc (Nat.le_refl _) hHeld.1,AC hBc (Nat.le_refl _) hHeld.2.1,AC hBc (Nat.le_refl _) hHeld.2.2.1,AC hBc (Nat.le_refl _) hHeld.2.2.2⟩) (fun hHeld=> ?_);clear hK K
    try simp only[Act.put,sA,sB,sC]
    refine AB (i:=25) rfl (by kernel_rfl) (fun K hK=> ?_);have hB2:=hBc;refine Ac rfl (.tmp 36) (.tmp 41) _ rfl (rb+1) 9 k0 _ 1 16 Tryz.underlying41 hk hk0 hk1 hk2 rfl (by decide) _ _ _ rfl (hST.1 _ hB2) ⟨_,0,none⟩ 1 1 [strV (m++32::nm)] rfl rfl ?_ (by intro u hu;simp only[List.mem_singleton] at hu;subst hu;rfl) ?_ ?_ ?_ ?_
    ·exact hTc
    ·unfold maxLen;omega
    ·omega
    ·have:=hB0.size;have:=gb.size;have:=hB2.size;omega
    intro v2 Wd ownd gd atd;have hFIN:=hST.2 Wc Wd v2 (m++32::nm) hB2 ownd gd atd;refine hK.out _ _ (⟨gd.cell hHeld.1 HM0.out.2,gd.cell hHeld.2.1 HM1.out.2,gd.cell hHeld.2.2.1 HM2.out.2,gd.cell hHeld.2.2.2 HM3.out.2⟩) (fun hHeld=> ?_);clear hK K
    try simp only[Act.put,sA,sB,sC]
    refine AL (by kernel_rfl) ?_;simp only[List.drop_succ_cons,List.drop_zero];have hrbk:Wd.heap[rb]? =w3.heap[rb]? :=(gd.block rb (by have:=hB0.size;have:=gb.size;have:=hB2.size;omega) HM0.out.2).trans ((hB2.block rb (by have:=hB0.size;have:=gb.size;omega)).trans ((gb.block rb (by have:=hB0.size;omega) HM0.out.1).trans (hB0.block rb hlt)));have g9:=(World.frozen?_of_block (a:=⟨rb,9,none⟩) hrbk).trans f9;have g10:=(World.frozen?_of_block (a:=⟨rb,10,none⟩) hrbk).trans f10;have FIN:=zz hFIN;obtain⟨d4,d9,d10,dg⟩:=hHeld;obtain⟨q1,z1,rfl⟩:=ownsRow_succ ownb;obtain⟨q2,z2,rfl⟩:=ownsRow_succ ownd;clear hrbk hFIN hST gd gb hB2 hB0 ownd ownb atd atb f9 f10 HO HSTEP HF k4 k9 k10 kid hTa hTc;go_wp2_with fail
    go_meet
    case rel=>exact⟨(by rw[←e4];exact FIN.out.1),FIN.out.2⟩
   ·go_simp
    generalize hWc:World.alloc _ _=Wc;have hTc:∀j u,[strV (m++32::nm)][j]? =some u→Wc.cell? ((⟨Wa.heap.size,0,none⟩:Addr).add j)=some u:=by rw[←hWc];exact Af _ _ _
    have hBc:Below Wa.heap.size Wa Wc:=by rw[←hWc];exact(Below.refl _ _).alloc (Nat.le_refl _) _
    clear hWc;refine hK.out _ _ (⟨AC hBc (Nat.le_refl _) hHeld.1,AC hBc (Nat.le_refl _) hHeld.2.1,AC hBc (Nat.le_refl _) hHeld.2.2.1,AC hBc (Nat.le_refl _) hHeld.2.2.2⟩) (fun hHeld=> ?_);clear hK K
    try simp only[Act.put,sA,sB,sC]
    refine AB (i:=15) rfl (by kernel_rfl) (fun K hK=> ?_);have hB0:Below w3.heap.size w3 Wc:=(((Below.refl w3.heap.size w3)).trans (hBa.mono (Nat.le_refl _))).trans (hBc.mono (Nat.le_trans (Nat.le_refl _) hBa.size));refine Ac rfl (.tmp 22) (.tmp 31) _ rfl (rb+1) 30 j0 _ 1 8 Tryz.underlying31 hj hj0 hj1 hj2 rfl (by decide) _ _ _ rfl (own_below HO.out hB0 (Nat.le_refl _)) ⟨_,0,none⟩ 1 1 [idV cid] rfl rfl ?_ (by intro u hu;simp only[List.mem_singleton] at hu;subst hu;rfl) ?_ ?_ ?_ ?_
    ·intro j u hj;exact AC hBc (Nat.le_refl _) (hTa j u hj)
    ·unfold maxLen;omega
    ·omega
    ·have:=hB0.size;omega
    intro v1 Wb ownb gb atb;have hST:=HSTEP.out Wc Wb v1 cid hB0 ownb gb atb;refine hK.out _ _ (⟨gb.cell hHeld.1 HM0.out.1,gb.cell hHeld.2.1 HM1.out.1,gb.cell hHeld.2.2.1 HM2.out.1,gb.cell hHeld.2.2.2 HM3.out.1⟩) (fun hHeld=> ?_);clear hK K
    try simp only[Act.put,sA,sB,sC]
    refine AB (i:=25) rfl (by kernel_rfl) (fun K hK=> ?_);have hB2:=Below.refl Wb.heap.size Wb;refine Ac rfl (.tmp 36) (.tmp 41) _ rfl (rb+1) 9 k0 _ 1 16 Tryz.underlying41 hk hk0 hk1 hk2 rfl (by decide) _ _ _ rfl (hST.1 _ hB2) ⟨_,0,none⟩ 1 1 [strV (m++32::nm)] rfl rfl ?_ (by intro u hu;simp only[List.mem_singleton] at hu;subst hu;rfl) ?_ ?_ ?_ ?_
    ·intro j u hj;exact gb.cell (hTc j u hj) (HF.out _ (by have h0:=hBa.size;unfold Addr.add;split <;>exact h0))
    ·unfold maxLen;omega
    ·omega
    ·have:=hB0.size;have:=gb.size;have:=hB2.size;omega
    intro v2 Wd ownd gd atd;have hFIN:=hST.2 Wb Wd v2 (m++32::nm) hB2 ownd gd atd;refine hK.out _ _ (⟨gd.cell hHeld.1 HM0.out.2,gd.cell hHeld.2.1 HM1.out.2,gd.cell hHeld.2.2.1 HM2.out.2,gd.cell hHeld.2.2.2 HM3.out.2⟩) (fun hHeld=> ?_);clear hK K
    try simp only[Act.put,sA,sB,sC]
    refine AL (by kernel_rfl) ?_;simp only[List.drop_succ_cons,List.drop_zero];have hrbk:Wd.heap[rb]? =w3.heap[rb]? :=(gd.block rb (by have:=hB0.size;have:=gb.size;have:=hB2.size;omega) HM0.out.2).trans ((hB2.block rb (by have:=hB0.size;have:=gb.size;omega)).trans ((gb.block rb (by have:=hB0.size;omega) HM0.out.1).trans (hB0.block rb hlt)));have g9:=(World.frozen?_of_block (a:=⟨rb,9,none⟩) hrbk).trans f9;have g10:=(World.frozen?_of_block (a:=⟨rb,10,none⟩) hrbk).trans f10;have FIN:=zz hFIN;obtain⟨d4,d9,d10,dg⟩:=hHeld;obtain⟨q1,z1,rfl⟩:=ownsRow_succ ownb;obtain⟨q2,z2,rfl⟩:=ownsRow_succ ownd;clear hrbk hFIN hST gd gb hB2 hB0 ownd ownb atd atb f9 f10 HO HSTEP HF k4 k9 k10 kid hTa hTc;go_wp2_with fail
    go_meet
    case rel=>exact⟨(by rw[←e4];exact FIN.out.1),FIN.out.2⟩
  ·go_simp
   generalize hWc:World.drew (World.alloc _ _)=Wc;have hTc:∀j u,[strV (m++32::nm)][j]? =some u→Wc.cell? ((⟨w3.heap.size,0,none⟩:Addr).add j)=some u:=by rw[←hWc];exact Af _ _ _
   have hBc:Below w3.heap.size w3 Wc:=by rw[←hWc];exact((Below.refl _ _).alloc (Nat.le_refl _) _).drew
   clear hWc;refine hK.out _ _ (⟨AC hBc (Nat.le_refl _) hHeld.1,AC hBc (Nat.le_refl _) hHeld.2.1,AC hBc (Nat.le_refl _) hHeld.2.2.1,AC hBc (Nat.le_refl _) hHeld.2.2.2⟩) (fun hHeld=> ?_);clear hK K
   try simp only[Act.put,sA,sB,sC]
   refine AB (i:=14) rfl (by kernel_rfl) (fun K hK=> ?_);go_simp;generalize hWa:World.alloc _ _=Wa;have hTa:∀j u,[idV cid][j]? =some u→Wa.cell? ((⟨Wc.heap.size,0,none⟩:Addr).add j)=some u:=by rw[←hWa];exact Af _ _ _
   have hBa:Below Wc.heap.size Wc Wa:=by rw[←hWa];exact(Below.refl _ _).alloc (Nat.le_refl _) _
   clear hWa;refine hK.out _ _ (⟨AC hBa (Nat.le_refl _) hHeld.1,AC hBa (Nat.le_refl _) hHeld.2.1,AC hBa (Nat.le_refl _) hHeld.2.2.1,AC hBa (Nat.le_refl _) hHeld.2.2.2⟩) (fun hHeld=> ?_);clear hK K
   try simp only[Act.put,sA,sB,sC]
   refine AB (i:=15) rfl (by kernel_rfl) (fun K hK=> ?_);have hB0:Below w3.heap.size w3 Wa:=(((Below.refl w3.heap.size w3)).trans (hBc.mono (Nat.le_refl _))).trans (hBa.mono (Nat.le_trans (Nat.le_refl _) hBc.size));refine Ac rfl (.tmp 22) (.tmp 31) _ rfl (rb+1) 30 j0 _ 1 8 Tryz.underlying31 hj hj0 hj1 hj2 rfl (by decide) _ _ _ rfl (own_below HO.out hB0 (Nat.le_refl _)) ⟨_,0,none⟩ 1 1 [idV cid] rfl rfl ?_ (by intro u hu;simp only[List.mem_singleton] at hu;subst hu;rfl) ?_ ?_ ?_ ?_
   ·exact hTa
   ·unfold maxLen;omega
   ·omega
   ·have:=hB0.size;omega
   intro v1 Wb ownb gb atb;have hST:=HSTEP.out Wa Wb v1 cid hB0 ownb gb atb;refine hK.out _ _ (⟨gb.cell hHeld.1 HM0.out.1,gb.cell hHeld.2.1 HM1.out.1,gb.cell hHeld.2.2.1 HM2.out.1,gb.cell hHeld.2.2.2 HM3.out.1⟩) (fun hHeld=> ?_);clear hK K
   try simp only[Act.put,sA,sB,sC]
   refine AB (i:=25) rfl (by kernel_rfl) (fun K hK=> ?_);have hB2:=Below.refl Wb.heap.size Wb;refine Ac rfl (.tmp 36) (.tmp 41) _ rfl (rb+1) 9 k0 _ 1 16 Tryz.underlying41 hk hk0 hk1 hk2 rfl (by decide) _ _ _ rfl (hST.1 _ hB2) ⟨_,0,none⟩ 1 1 [strV (m++32::nm)] rfl rfl ?_ (by intro u hu;simp only[List.mem_singleton] at hu;subst hu;rfl) ?_ ?_ ?_ ?_
   ·intro j u hj;exact gb.cell (AC hBa (Nat.le_refl _) (hTc j u hj)) (HF.out _ (by have h0:=Nat.le_refl w3.heap.size;unfold Addr.add;split <;>exact h0))
   ·unfold maxLen;omega
   ·omega
   ·have:=hB0.size;have:=gb.size;have:=hB2.size;omega
   intro v2 Wd ownd gd atd;have hFIN:=hST.2 Wb Wd v2 (m++32::nm) hB2 ownd gd atd;refine hK.out _ _ (⟨gd.cell hHeld.1 HM0.out.2,gd.cell hHeld.2.1 HM1.out.2,gd.cell hHeld.2.2.1 HM2.out.2,gd.cell hHeld.2.2.2 HM3.out.2⟩) (fun hHeld=> ?_);clear hK K
   try simp only[Act.put,sA,sB,sC]
   refine AL (by kernel_rfl) ?_;simp only[List.drop_succ_cons,List.drop_zero];have hrbk:Wd.heap[rb]? =w3.heap[rb]? :=(gd.block rb (by have:=hB0.size;have:=gb.size;have:=hB2.size;omega) HM0.out.2).trans ((hB2.block rb (by have:=hB0.size;have:=gb.size;omega)).trans ((gb.block rb (by have:=hB0.size;omega) HM0.out.1).trans (hB0.block rb hlt)));have g9:=(World.frozen?_of_block (a:=⟨rb,9,none⟩) hrbk).trans f9;have g10:=(World.frozen?_of_block (a:=⟨rb,10,none⟩) hrbk).trans f10;have FIN:=zz hFIN;obtain⟨d4,d9,d10,dg⟩:=hHeld;obtain⟨q1,z1,rfl⟩:=ownsRow_succ ownb;obtain⟨q2,z2,rfl⟩:=ownsRow_succ ownd;clear hrbk hFIN hST gd gb hB2 hB0 ownd ownb atd atb f9 f10 HO HSTEP HF k4 k9 k10 kid hTa hTc;go_wp2_with fail
   go_meet
   case rel=>exact⟨(by rw[←e4];exact FIN.out.1),FIN.out.2⟩
 case rest=>
  obtain⟨hR4,hb4⟩:=hcut;clear TN TD TM;have hBw:Below rb w wc:=hb1.trans (hb2.below.trans (hb3.below.trans hb4));have hl4:s.rows.length < s4.rows.length:=Nat.lt_of_lt_of_le hl3 g34.len;have hd4:s4.deep≤90:=by rw[hes.deep];exact hdp
  have hd5:s4.deep=s.deep:=hes.deep;clear hb1 hb2 hb3 hb4 hR hR1 hR2 hR3 e3 enm ecid e4 es1 es2 es3;by_cases hb:s4.enter.bad=true
  ·rw[if_pos hb] at he
   injection he with he;have TQ:=fun W h=>zz (Da (rb:=rb) (s:=s4) (w:=W) (b:=false) h ho4 (by rw[hb];rfl));have hdp2:s4.enter.deep=s4.deep+1:=CP _;clear hb
   go_wp2_with (go_at_call 153;refine((TQ _ hR4).out).mono ?_;rintro e w5 ⟨rfl,hR5,hb5⟩;obtain⟨_,c2,_,_,_⟩:=hR5.cell;have f2:=hR5.frozen 2)
   go_end0;rw[←he];exact⟨rfl,hR5.F8 (by omega) (by omega),hBw.trans (hb5.setCell (p:=⟨rb,2,none⟩) (Nat.le_refl _) _)⟩
  ·rw[if_neg hb] at he
   have hbf:s4.enter.bad=false:=by simpa using hb
   cases ha:Hg.Rd.args f true (s4.enter.need [40]) s.rows.length with
   |none=>rw[ha] at he;simp at he
   |some s5=>
     rw[ha] at he;injection he with he;have eA:=(Hg.Rd.Bi f).2.2 _ _ _ _ ha;have hf5:Fin_ s5:=hf.of (by rw[←he];exact Hg.Rd.BJ _);have hoe:Okk s4.enter:=ho4.enter (by omega) ((Hg.Rd.DC _ _).trans eA.grow) hf5;have hon:Okk (s4.enter.need [40]):=hoe.es (Hg.Rd.AZ _ _) eA.grow hf5;have hde:=DZ hbf;have hdp5:s5.deep=s.deep+1:=by rw[eA.deep,(Hg.Rd.AZ _ _).deep,CP,hd5]
     have hdn:(s4.enter.need [40]).deep≤90:=by rw[(Hg.Rd.AZ _ _).deep];exact hde
     have hln:s.rows.length < (s4.enter.need [40]).rows.length:=Nat.lt_of_lt_of_le hl4 (by have:=(Hg.Rd.DC s4.enter [40]).len;rw[Dm] at this;exact this);have TQ:=fun W h=>zz (Da (rb:=rb) (s:=s4) (w:=W) (b:=true) h ho4 (by rw[hbf];rfl));have TD:=fun W h=>zz (BN (rb:=rb) (s:=s4.enter) (t:=[40]) (w:=W) h hoe);clear hb hbf hoe;generalize s4.enter.need [40]=t0 at*
     go_wp2_with (first
      |(go_at_call 153;refine((TQ _ hR4).out).mono ?_;rintro e w5 ⟨rfl,hR5,hb5⟩)
      |(go_at_call 87;refine((TD _ hR5).out).mono ?_;rintro e w6 ⟨rfl,hR6,hb6⟩))
     go_loopg [8] f (fun k p wr=>Y1 rb s.rows.length s5 f w6 k p wr)
     case atStart=>
      exact⟨true,t0,rfl,ha,hR6,hon,hdn,hln,Below.refl _ _,Nat.le_refl _⟩
     case round=>
      obtain⟨b,t,rfl,hargs,hRt,hot,hdt,hlt,hBt,hkf⟩:=hrel;have hB6:Below rb w wr:=hBw.trans (hb5.trans (hb6.below.trans hBt));clear hBw hb5 hb6 hR4 hR5 hR6 TQ TD ha hln hdn hon eA;obtain⟨_,c2,c3,_,_⟩:=hRt.cell;have f2:=hRt.frozen 2;cases gk with
      |zero=>simp[Hg.Rd.args] at hargs
      |succ k=>
        rw[Hg.Rd.args] at hargs;by_cases hbad:t.bad=true
        ·rw[if_pos hbad] at hargs
         injection hargs with hargs;subst hargs;rw[hbad] at c3;clear hbad;go_wp2;go_end0;rw[←he];exact⟨rfl,hRt.F8 (by omega) (by omega),hB6.setCell (p:=⟨rb,2,none⟩) (Nat.le_refl _) _⟩
        rw[if_neg hbad] at hargs;have hbf:t.bad=false:=by simpa using hbad
        rw[hbf] at c3;clear hbad hbf;by_cases hn:t.next [41]=true
        ·rw[if_pos hn] at hargs
         injection hargs with hargs;have TE:=fun W h=>zz (Cf (rb:=rb) (s:=t) (t:=[41]) (w:=W) h hot hn);rw[hargs] at TE;clear hn
         go_wp2_with (go_at_call 91;refine((TE _ hRt).out).mono ?_;rintro e w7 ⟨rfl,hR7,hb7⟩;obtain⟨_,c2',_,_,_⟩:=hR7.cell;have f2':=hR7.frozen 2)
         go_end0;rw[←he];exact⟨rfl,hR7.F8 (by omega) (by omega),(hB6.trans hb7.below).setCell (p:=⟨rb,2,none⟩) (Nat.le_refl _) _⟩
        rw[if_neg hn] at hargs;have hnf:t.next [41]=false:=by simpa using hn
        clear hn;have TE:=fun W h=>zz (Ai (rb:=rb) (s:=t) (t:=[41]) (w:=W) h hot hnf);clear hnf;cases b with
        |true=>
          rw[if_pos rfl] at hargs;cases hx:Hg.Rd.expr k t s.rows.length with
          |none=>rw[hx] at hargs;simp at hargs
          |some t1=>
            rw[hx] at hargs;dsimp only at hargs;have ex:=(Hg.Rd.Bi k).1 _ _ _ hx;have ey:=(Hg.Rd.Bi k).2.2 _ _ _ _ hargs;have hft:Fin_ t1:=hf5.of ey.grow;have hot1:Okk t1:=hot.es ex ey.grow hf5;have TX:=fun W h=>zz (ihE k (by omega) rb t s.rows.length t1 W hx h hot hdt hft hlt)
            go_wp2_with (first
             |(go_at_call 91;refine((TE _ hRt).out).mono ?_;rintro e w7 ⟨rfl,hR7,hb7⟩)
             |(go_at_call 130;refine((TX _ hR7).out).mono ?_;rintro e w8 ⟨rfl,hR8,hb8⟩))
            go_roundg k
            case measure=>omega
            case rel=>exact⟨false,t1,rfl,hargs,hR8,hot1,(by rw[ex.deep];exact hdt),Nat.lt_of_lt_of_le hlt ex.grow.len,hBt.trans (hb7.below.trans hb8),by omega⟩
        |false=>
          rw[if_neg (by simp)] at hargs;cases hx:Hg.Rd.expr k (t.need [44]) s.rows.length with
          |none=>rw[hx] at hargs;simp at hargs
          |some t1=>
            rw[hx] at hargs;dsimp only at hargs;have en:=Hg.Rd.AZ t [44];have ex:=(Hg.Rd.Bi k).1 _ _ _ hx;have ey:=(Hg.Rd.Bi k).2.2 _ _ _ _ hargs;have hft:Fin_ t1:=hf5.of ey.grow;have hotn:Okk (t.need [44]):=hot.es en (ex.grow.trans ey.grow) hf5;have hot1:Okk t1:=hotn.es ex ey.grow hf5;have hdtn:(t.need [44]).deep≤90:=by rw[en.deep];exact hdt
            have hltn:s.rows.length < (t.need [44]).rows.length:=Nat.lt_of_lt_of_le hlt en.grow.len;have TX:=fun W h=>zz (ihE k (by omega) rb (t.need [44]) s.rows.length t1 W hx h hotn hdtn hft hltn);have TM:=fun W h=>zz (BN (rb:=rb) (s:=t) (t:=[44]) (w:=W) h hot)
            go_wp2_with (first
             |(go_at_call 91;refine((TE _ hRt).out).mono ?_;rintro e w7 ⟨rfl,hR7,hb7⟩)
             |(go_at_call 87;refine((TM _ hR7).out).mono ?_;rintro e w9 ⟨rfl,hR9,hb9⟩)
             |(go_at_call 130;refine((TX _ hR9).out).mono ?_;rintro e w8 ⟨rfl,hR8,hb8⟩))
            go_roundg k
            case measure=>omega
            case rel=>exact⟨false,t1,rfl,hargs,hR8,hot1,(by rw[ex.deep];exact hdtn),Nat.lt_of_lt_of_le hltn ex.grow.len,hBt.trans (hb7.below.trans (hb9.below.trans hb8)),by omega⟩
def NE(Z:Nat→Prop)(w:World)(ab mb c:Nat)(M:Nat→Option Hg.Node)(id:Nat)(nd:Hg.Node)(w':World):Prop:=
 CK (fun q=>Z q∨w.heap.size≤q∧q < w'.heap.size) w' ab mb (if (M id).isSome then c else c+1) (putM M id nd)∧w.grownBy w' (some mb)
theorem SV(Z:Nat→Prop)(ab mb c:Nat)(M:Nat→Option Hg.Node)(id:Nat)(nd:Hg.Node)(ka:Option Addr)(kc:Nat)(w:World)(hA:CK Z w ab mb c M)(hid:id < Ae)(hid0:id≠0)(hfull:(M id).isSome=true∨c < 20000)(hc:c≤1000000)
 (hs:Sl w w.heap.size (.slice ka nd.kids.length kc) nd.kids.length (nd.kids.map idV)) (hlen:nd.kids.length≤1000000):
 Calls Tryz.prog 32 #[.pointer (some ⟨ab,0,none⟩),.int .u64 (id:Int),ndV nd ka kc] w fun e w'=>e= .returned (.int .i64 0)∧NE Z w ab mb c M id nd w':=by
 obtain⟨c0,f0⟩:=hA.read;have hlt:=hA.lt;have hq0:((id:Int)==0)=false:=by simp;omega
 have HA:=zz hA;have HS:=zz hs;have HI:=zz hid;have hb0:Below w.heap.size w (w.alloc (.cells #[.int .u8 (nd.kind:Int),strV nd.name,.int .i64 nd.num,.int .u8 (nd.type:Int),.int .u64 (nd.ref:Int),.slice ka nd.kids.length kc] 33)):=(Below.refl _ _).alloc (Nat.le_refl _) _;obtain⟨k1,c1,hlk,_⟩:=(hA.below hb0 (Nat.le_refl _)).map.WE hid;clear hA hs hid hid0;have hlen7:∀W,CW Z W mb c M→(Builtin.len_ #[66] 3 #[.map (some mb)]).run Tryz.prog W= .ok (.int .i64 (c:Int)) W:=by
  rintro W ⟨⟨D,ho,hs,_⟩,_⟩;rw[ho.len Tryz.underlying66 _,hs]
 have hl7:=hlen7 _ ((HA.out.below hb0 (Nat.le_refl _)).map.below ((Below.refl _ _).alloc (Nat.le_refl _) (.cells #[.int .u8 (((M id).getD Hg.Node.zero).kind:Int),strV ((M id).getD Hg.Node.zero).name,.int .i64 ((M id).getD Hg.Node.zero).num,.int .u8 (((M id).getD Hg.Node.zero).type:Int),.int .u64 (((M id).getD Hg.Node.zero).ref:Int),.slice k1 ((M id).getD Hg.Node.zero).kids.length c1] 33)) (Nat.le_refl _));generalize(M id).getD Hg.Node.zero=n0 at hlk hl7;have HSZ:=zz (show(if (M id).isSome=true then c else c+1)=(if (M id).isSome=true then c else c+1) from rfl);have HF:=zz hfull;have hfin:∀W4,CK (fun q=>Z q∨w.heap.size≤q∧q < W4.heap.size) W4 ab mb (if (M id).isSome=true then c else c+1) (putM M id nd)→w.grownBy W4 (some mb)→NE Z w ab mb c M id nd W4:=fun W4 h1 h2=>⟨h1,h2⟩;have HFI:=zz hfin;have hful2:(M id).isSome=false→decide ((20000:Int)≤(c:Int))=false:=by
  intro h;rcases HF.out with h'|h'
  ·rw[h] at h';cases h'
  ·simp;omega
 clear hlen7 HF hfull hfin;have hmain:∀s,(M id).isSome=s→Calls Tryz.prog 32 #[.pointer (some ⟨ab,0,none⟩),.int .u64 (id:Int),ndV nd ka kc] w fun e w'=>e= .returned (.int .i64 0)∧NE Z w ab mb c M id nd w':=by
  intro s hs;rw[hs] at hlk;have hq1:s=false→decide ((20000:Int)≤(c:Int))=false:=fun e=>hful2 (hs.trans e);clear hs hful2;cases s with
  |true=>
    clear hq1;go_enter Tryz.func32,Tryz.ntmps32;go_upto_region 8 with fail;have hb2:Below w.heap.size w ((w.alloc (.cells #[.int .u8 (nd.kind:Int),strV nd.name,.int .i64 nd.num,.int .u8 (nd.type:Int),.int .u64 (nd.ref:Int),.slice ka nd.kids.length kc] 33)).alloc (.cells #[.int .u8 (n0.kind:Int),strV n0.name,.int .i64 n0.num,.int .u8 (n0.type:Int),.int .u64 (n0.ref:Int),.slice k1 n0.kids.length c1] 33)):=hb0.alloc hb0.size _;have hh0:=heap_alloc2_old w (.cells #[.int .u8 (nd.kind:Int),strV nd.name,.int .i64 nd.num,.int .u8 (nd.type:Int),.int .u64 (nd.ref:Int),.slice ka nd.kids.length kc] 33) (.cells #[.int .u8 (n0.kind:Int),strV n0.name,.int .i64 n0.num,.int .u8 (n0.type:Int),.int .u64 (n0.ref:Int),.slice k1 n0.kids.length c1] 33);have k:=fun i=>cell_of_row _ w.heap.size i _ _ (0,0) hh0;have e0:=k 0;have e1:=k 1;have e2:=k 2;have e3:=k 3;have e4:=k 4;have e5:=k 5;clear k hh0 hlk hl7 hb0;generalize World.alloc (World.alloc w _) _=W2 at hb2 e0 e1 e2 e3 e4 e5⊢;have HA2:=zz (HA.out.below hb2 (Nat.le_refl _));have HK2:=zz (((HS.out.below hb2 (Nat.le_refl _)).more hb2.size).below ((Below.refl W2.heap.size W2).drew) (Nat.le_refl _));have hHeld:(fun w'=>w'.cell? ⟨ab,0,none⟩=some (.map (some mb))∧w'.cell? ⟨w.heap.size,0,none⟩=some (.int .u8 (nd.kind:Int))∧w'.cell? ⟨w.heap.size,1,none⟩=some (strV nd.name)∧w'.cell? ⟨w.heap.size,2,none⟩=some (.int .i64 nd.num)∧w'.cell? ⟨w.heap.size,3,none⟩=some (.int .u8 (nd.type:Int))∧w'.cell? ⟨w.heap.size,4,none⟩=some (.int .u64 (nd.ref:Int))∧w'.cell? ⟨w.heap.size,5,none⟩=some (.slice ka nd.kids.length kc)) W2.drew:=⟨(hb2.cell hlt).trans c0,e0,e1,e2,e3,e4,e5⟩;have hsz2:w.heap.size≤W2.heap.size:=hb2.size;have HN:=zz (show∀W3 W4,Below W2.heap.size W2.drew W3→CW (fun q=>Z q∨w.heap.size≤q∧q < W3.heap.size) W4 mb (if (M id).isSome=true then c else c+1) (putM M id nd)→W3.grownBy W4 (some mb)→NE Z w ab mb c M id nd W4 from fun W3 W4 h1 h2 h3=>by
     have hb3:Below w.heap.size w W3:=(hb2.drew).trans (h1.mono hb2.size);have hne:ab≠mb:=fun e=>by
      have hc:=HA.out.cell;obtain⟨⟨D,ho,_⟩,_⟩:=HA.out.map;obtain⟨es,ck,hm⟩:=IU ho;rw[e,hm] at hc;cases hc
     refine HFI.out W4 (CK.imp (Z:=fun q=>Z q∨w.heap.size≤q∧q < W3.heap.size) ⟨?_,h2⟩ (fun q h=>h.imp (fun x=>x) (fun h=>⟨h.1,Nat.lt_of_lt_of_le h.2 h3.size⟩))) ⟨h3.os.trans hb3.os,h3.tape.trans hb3.tape,h3.output.trans hb3.output,Nat.le_trans hb3.size h3.size,fun i hi hne=>(h3.block i (Nat.lt_of_lt_of_le hi hb3.size) hne).trans (hb3.block i hi)⟩;exact(h3.block ab (Nat.lt_of_lt_of_le hlt hb3.size) (fun e=>hne (by injection e))).trans ((hb3.block ab hlt).trans HA.out.cell))
    clear hb2 e0 e1 e2 e3 e4 e5 c0 f0;refine AR (fun w'=>w'.cell? ⟨ab,0,none⟩=some (.map (some mb))∧w'.cell? ⟨w.heap.size,0,none⟩=some (.int .u8 (nd.kind:Int))∧w'.cell? ⟨w.heap.size,1,none⟩=some (strV nd.name)∧w'.cell? ⟨w.heap.size,2,none⟩=some (.int .i64 nd.num)∧w'.cell? ⟨w.heap.size,3,none⟩=some (.int .u8 (nd.type:Int))∧w'.cell? ⟨w.heap.size,4,none⟩=some (.int .u64 (nd.ref:Int))∧w'.cell? ⟨w.heap.size,5,none⟩=some (.slice ka nd.kids.length kc)) 7 (by kernel_rfl) ?_;refine tz 0 _ _ _ ?_;refine tz 1 _ _ _ ?_;refine tz 2 _ _ _ ?_;refine tz 3 _ _ _ ?_;refine tz 4 _ _ _ ?_;refine tz 5 _ _ _ ?_;refine AB (i:=6) rfl (by kernel_rfl) (fun K hK=> ?_);go_simp;refine(KW W2.heap.size nd ka kc W2.drew (Nat.le_refl _) HK2.out hlen).mono ?_;rintro e w3 ⟨ka3,kc3,rfl,hs3,hb3,hq3⟩;refine hK.out _ _ (⟨AC hb3 (Nat.le_refl _) hHeld.1,AC hb3 (Nat.le_refl _) hHeld.2.1,AC hb3 (Nat.le_refl _) hHeld.2.2.1,AC hb3 (Nat.le_refl _) hHeld.2.2.2.1,AC hb3 (Nat.le_refl _) hHeld.2.2.2.2.1,AC hb3 (Nat.le_refl _) hHeld.2.2.2.2.2.1,AC hb3 (Nat.le_refl _) hHeld.2.2.2.2.2.2⟩) (fun hHeld=> ?_);clear hK K
    try simp only[Act.put,sA,sB,sC]
    refine AL (by kernel_rfl) ?_;simp only[List.drop_succ_cons,List.drop_zero];obtain⟨W4,hrun4,hA4,hg4⟩:=(((HA2.out.below ((Below.refl W2.heap.size W2).drew) (Nat.le_refl _)).map.below hb3 (Nat.le_refl _)).imp (Z':=fun q=>Z q∨w.heap.size≤q∧q < w3.heap.size) (fun q h=> .inl h)).store hc (HI.out) nd ka3 kc3 hs3 hlen (fun q hq=> .inr ⟨by have h1:=(hq3 q hq).1;have h2:W2.drew.heap.size=W2.heap.size:=rfl;have h3:=hsz2;omega,(hq3 q hq).2⟩);have HFIN:=zz (HN.out _ _ hb3 hA4 hg4);clear hA4 hg4 hs3 hb3 hq3 hHeld HK2 HA2 HN;go_wp2_with fail;go_ret;exact⟨rfl,HFIN.out⟩
  |false=>
    have hq1:=hq1 rfl;go_enter Tryz.func32,Tryz.ntmps32;go_upto_region 8 with fail;have hb2:Below w.heap.size w ((w.alloc (.cells #[.int .u8 (nd.kind:Int),strV nd.name,.int .i64 nd.num,.int .u8 (nd.type:Int),.int .u64 (nd.ref:Int),.slice ka nd.kids.length kc] 33)).alloc (.cells #[.int .u8 (n0.kind:Int),strV n0.name,.int .i64 n0.num,.int .u8 (n0.type:Int),.int .u64 (n0.ref:Int),.slice k1 n0.kids.length c1] 33)):=hb0.alloc hb0.size _;have hh0:=heap_alloc2_old w (.cells #[.int .u8 (nd.kind:Int),strV nd.name,.int .i64 nd.num,.int .u8 (nd.type:Int),.int .u64 (nd.ref:Int),.slice ka nd.kids.length kc] 33) (.cells #[.int .u8 (n0.kind:Int),strV n0.name,.int .i64 n0.num,.int .u8 (n0.type:Int),.int .u64 (n0.ref:Int),.slice k1 n0.kids.length c1] 33);have k:=fun i=>cell_of_row _ w.heap.size i _ _ (0,0) hh0;have e0:=k 0;have e1:=k 1;have e2:=k 2;have e3:=k 3;have e4:=k 4;have e5:=k 5;clear k hh0 hlk hl7 hb0;generalize World.alloc (World.alloc w _) _=W2 at hb2 e0 e1 e2 e3 e4 e5⊢;have HA2:=zz (HA.out.below hb2 (Nat.le_refl _));have HK2:=zz (((HS.out.below hb2 (Nat.le_refl _)).more hb2.size).below ((Below.refl W2.heap.size W2).drew) (Nat.le_refl _));have hHeld:(fun w'=>w'.cell? ⟨ab,0,none⟩=some (.map (some mb))∧w'.cell? ⟨w.heap.size,0,none⟩=some (.int .u8 (nd.kind:Int))∧w'.cell? ⟨w.heap.size,1,none⟩=some (strV nd.name)∧w'.cell? ⟨w.heap.size,2,none⟩=some (.int .i64 nd.num)∧w'.cell? ⟨w.heap.size,3,none⟩=some (.int .u8 (nd.type:Int))∧w'.cell? ⟨w.heap.size,4,none⟩=some (.int .u64 (nd.ref:Int))∧w'.cell? ⟨w.heap.size,5,none⟩=some (.slice ka nd.kids.length kc)) W2.drew:=⟨(hb2.cell hlt).trans c0,e0,e1,e2,e3,e4,e5⟩;have hsz2:w.heap.size≤W2.heap.size:=hb2.size;have HN:=zz (show∀W3 W4,Below W2.heap.size W2.drew W3→CW (fun q=>Z q∨w.heap.size≤q∧q < W3.heap.size) W4 mb (if (M id).isSome=true then c else c+1) (putM M id nd)→W3.grownBy W4 (some mb)→NE Z w ab mb c M id nd W4 from fun W3 W4 h1 h2 h3=>by
     have hb3:Below w.heap.size w W3:=(hb2.drew).trans (h1.mono hb2.size);have hne:ab≠mb:=fun e=>by
      have hc:=HA.out.cell;obtain⟨⟨D,ho,_⟩,_⟩:=HA.out.map;obtain⟨es,ck,hm⟩:=IU ho;rw[e,hm] at hc;cases hc
     refine HFI.out W4 (CK.imp (Z:=fun q=>Z q∨w.heap.size≤q∧q < W3.heap.size) ⟨?_,h2⟩ (fun q h=>h.imp (fun x=>x) (fun h=>⟨h.1,Nat.lt_of_lt_of_le h.2 h3.size⟩))) ⟨h3.os.trans hb3.os,h3.tape.trans hb3.tape,h3.output.trans hb3.output,Nat.le_trans hb3.size h3.size,fun i hi hne=>(h3.block i (Nat.lt_of_lt_of_le hi hb3.size) hne).trans (hb3.block i hi)⟩;exact(h3.block ab (Nat.lt_of_lt_of_le hlt hb3.size) (fun e=>hne (by injection e))).trans ((hb3.block ab hlt).trans HA.out.cell))
    clear hb2 e0 e1 e2 e3 e4 e5 c0 f0;refine AR (fun w'=>w'.cell? ⟨ab,0,none⟩=some (.map (some mb))∧w'.cell? ⟨w.heap.size,0,none⟩=some (.int .u8 (nd.kind:Int))∧w'.cell? ⟨w.heap.size,1,none⟩=some (strV nd.name)∧w'.cell? ⟨w.heap.size,2,none⟩=some (.int .i64 nd.num)∧w'.cell? ⟨w.heap.size,3,none⟩=some (.int .u8 (nd.type:Int))∧w'.cell? ⟨w.heap.size,4,none⟩=some (.int .u64 (nd.ref:Int))∧w'.cell? ⟨w.heap.size,5,none⟩=some (.slice ka nd.kids.length kc)) 7 (by kernel_rfl) ?_;refine tz 0 _ _ _ ?_;refine tz 1 _ _ _ ?_;refine tz 2 _ _ _ ?_;refine tz 3 _ _ _ ?_;refine tz 4 _ _ _ ?_;refine tz 5 _ _ _ ?_;refine AB (i:=6) rfl (by kernel_rfl) (fun K hK=> ?_);go_simp;refine(KW W2.heap.size nd ka kc W2.drew (Nat.le_refl _) HK2.out hlen).mono ?_;rintro e w3 ⟨ka3,kc3,rfl,hs3,hb3,hq3⟩;refine hK.out _ _ (⟨AC hb3 (Nat.le_refl _) hHeld.1,AC hb3 (Nat.le_refl _) hHeld.2.1,AC hb3 (Nat.le_refl _) hHeld.2.2.1,AC hb3 (Nat.le_refl _) hHeld.2.2.2.1,AC hb3 (Nat.le_refl _) hHeld.2.2.2.2.1,AC hb3 (Nat.le_refl _) hHeld.2.2.2.2.2.1,AC hb3 (Nat.le_refl _) hHeld.2.2.2.2.2.2⟩) (fun hHeld=> ?_);clear hK K
    try simp only[Act.put,sA,sB,sC]
    refine AL (by kernel_rfl) ?_;simp only[List.drop_succ_cons,List.drop_zero];obtain⟨W4,hrun4,hA4,hg4⟩:=(((HA2.out.below ((Below.refl W2.heap.size W2).drew) (Nat.le_refl _)).map.below hb3 (Nat.le_refl _)).imp (Z':=fun q=>Z q∨w.heap.size≤q∧q < w3.heap.size) (fun q h=> .inl h)).store hc (HI.out) nd ka3 kc3 hs3 hlen (fun q hq=> .inr ⟨by have h1:=(hq3 q hq).1;have h2:W2.drew.heap.size=W2.heap.size:=rfl;have h3:=hsz2;omega,(hq3 q hq).2⟩);have HFIN:=zz (HN.out _ _ hb3 hA4 hg4);clear hA4 hg4 hs3 hb3 hq3 hHeld HK2 HA2 HN;go_wp2_with fail;go_ret;exact⟨rfl,HFIN.out⟩
 exact hmain _ rfl
def ET(M:Nat→Option Hg.Node)(id:Nat)(S:Nat→Prop)(p:Nat)(k:Int):Prop:=
 (p=0∧k=0∧∀i nd,S i→M i=some nd→idxI nd.kids id < 0)∨
 (p≠0∧S p∧(∃nd,M p=some nd∧idxI nd.kids id=k∧0≤k)∧∀i nd,S i→M i=some nd→0≤idxI nd.kids id→p≤i)
theorem ET.skip{M:Nat→Option Hg.Node}{id:Nat}{S S':Nat→Prop}{p:Nat}{k:Int}(h:ET M id S p k){x:Nat}{nx:Hg.Node}(hx:M x=some nx)(hS:∀i,S' i↔S i∨i=x)
 (hk:idxI nx.kids id < 0∨(p≠0∧p≤x)):ET M id S' p k:=by
 rcases h with⟨h1,h2,h3⟩|⟨h1,h2,h3,h4⟩
 ·left
  refine⟨h1,h2,fun i nd hi hn=> ?_⟩;rcases(hS i).1 hi with h|h
  ·exact h3 i nd h hn
  ·subst h
   rw[hx] at hn;injection hn with hn;subst hn;rcases hk with hk|hk
   ·exact hk
   ·exact absurd h1 hk.1
 ·right
  refine⟨h1,(hS p).2 (.inl h2),h3,fun i nd hi hn h0=> ?_⟩;rcases(hS i).1 hi with h|h
  ·exact h4 i nd h hn h0
  ·subst h
   rw[hx] at hn;injection hn with hn;subst hn;rcases hk with hk|hk
   ·omega
   ·exact hk.2
theorem ET.take{M:Nat→Option Hg.Node}{id:Nat}{S S':Nat→Prop}{p:Nat}{k:Int}(h:ET M id S p k){x:Nat}{nx:Hg.Node}(hx:M x=some nx)(hx0:x≠0)(hS:∀i,S' i↔S i∨i=x)
 (hk:0≤idxI nx.kids id) (hp:p=0∨x < p):ET M id S' x (idxI nx.kids id):=by
 right;refine⟨hx0,(hS x).2 (.inr rfl),⟨nx,hx,rfl,hk⟩,fun i nd hi hn h0=> ?_⟩;rcases(hS i).1 hi with h'|h'
 ·rcases h with⟨h1,h2,h3⟩|⟨h1,h2,h3,h4⟩
  ·have:=h3 i nd h' hn;omega
  ·have:=h4 i nd h' hn h0
   rcases hp with hp|hp
   ·exact absurd hp h1
   ·omega
 ·omega
def VO(w:World)(M:Nat→Option Hg.Node)(id:Nat)(e:Ending)(w':World):Prop:=
 ∃p k,ET M id (fun i=>i < Ae) p k∧p < Ae∧e= .returned (.tuple #[.int .u64 (p:Int),.int .i64 k])∧Below w.heap.size w w'
theorem Qj{w:World}{D:DataW Value}{M:Nat→Option Hg.Node}(hk:∀id,id < Ae→Y2 w D id (M id)){x:Int}{c:Value}{kl:Lit}{y:DataW Value}{ps:List MemPlace}
 (h1:keyOf Tryz.prog 30 (.int .u64 x)=some kl) (h2:rawR c=some (y,ps)) (h3:∀zd,D.atKey kl zd=y):
 ∃(i:Nat) (nd:Hg.Node) (ka:Option Addr) (kc:Nat),x=(i:Int)∧i < Ae∧kl=idL i∧M i=some nd∧c=ndV nd ka kc∧Sl w w.heap.size (.slice ka nd.kids.length kc) nd.kids.length (nd.kids.map idV):=by
 obtain⟨x',e1,e2,hw⟩:=Maps.keyOf_int_inv Tryz.underlying30 h1;injection e1 with _ e1;subst e1;have hw':0≤x∧x≤18446744073709551615:=by
  have m1:IntKind.u64.min=0:=rfl;have m2:IntKind.u64.max=18446744073709551615:=rfl;simpa[Lit.wf,m1,m2] using hw
 obtain⟨i,rfl⟩:=Int.eq_ofNat_of_zero_le hw'.1;have hi:i < Ae:=by unfold Ae;omega
 have hx:=hk i hi;have hkl:kl=idL i:=e2;simp only[rawR,Option.some.injEq,Prod.mk.injEq] at h2;obtain⟨h2,_⟩:=h2;subst h2;cases hM:M i with
 |none=>
   rw[hM] at hx;have:=Maps.has_true_of_atKey h3;rw[hkl,show Maps.has D (idL i)=false from hx] at this;cases this
 |some nd=>
   rw[hM] at hx;obtain⟨ka,kc,g1,g2,_⟩:=hx;have g:=g1 (.held c);rw[←hkl,h3] at g;refine⟨i,nd,ka,kc,rfl,hi,hkl,hM, ?_,g2⟩;simpa using g
theorem Ko{left:Lit→Bool}{i j:Nat}(hi:i < Ae)(hj:j < Ae):(left (idL j) && !(idL j).sameKey (idL i))=false↔left (idL j)=false∨j=i:=by
 by_cases e:j=i
 ·subst e
  rw[WideAt.sameKey_self (BS.key (Bb hj))];simp
 ·rw[Maps.sameKey_ne (O3 e)]
  simp[e]
theorem KQ(ab mb c:Nat)(M:Nat→Option Hg.Node)(id:Nat)(w:World)(hA:ArAt w ab mb c M)(hM0:M 0=none):
 Calls Tryz.prog 119 #[.pointer (some ⟨ab,0,none⟩),.int .u64 (id:Int)] w (VO w M id):=by
 obtain⟨c0,f0⟩:=hA.read;have HA:=zz hA;obtain⟨⟨D,ho,hc,hk⟩,hbd⟩:=hA.map;have HK:=zz hk;have HBD:=zz hbd;have HM0:=zz hM0;clear hA hk hbd hM0 f0 hc;go_enter Tryz.func119,Tryz.ntmps119
 go_wp2_with (at_range;refine wpList_range_own _ rfl (.tmp 16) 66 rfl 30 33 BS Tryz.underlying66 rawR mb c D rfl ho ?_;intro w0 hrg0 hg0 hs0)
 go_frame
 have hb0:=JP hg0;clear hg0 c0
 go_loopw [6,7] (fun p k wr=>∃(pn:Nat) (kn:Int) (left:Lit→Bool) (cnt:Nat),p= .int .u64 (pn:Int)∧k= .int .i64 kn∧pn < Ae∧wr.ranges Tryz.prog 30 rawR mb w.heap.size c D left cnt∧ET M id (fun i=>i < Ae∧left (idL i)=false) pn kn∧Below w.heap.size w wr) (fun _ _ wr=>wr.rangeLeft mb w.heap.size)
 case atStart=>
  refine⟨0,0,_,_,rfl,rfl,by decide,hrg0,.inl ⟨rfl,rfl,fun i nd hi hn=> ?_⟩,hb0⟩;have hi:i < Ae∧Maps.has D (idL i)=false:=hi;have hx:=HK.out i hi.1;rw[hn] at hx;obtain⟨_,_,g1,_⟩:=hx;rw[Maps.has_true_of_atKey g1] at hi;cases hi.2
 case round=>
  obtain⟨pn,kn,left,cnt,rfl,rfl,hpt,hrg,hpar,hbw⟩:=hrel;clear hrg0 hb0 hs0 ho;have HPT:=zz hpt;have HP:=zz hpar;clear hpt hpar
  go_wp2_with (at_next;refine wpList_next_ranges (α:=Int) (β:=Value) _ rfl (.tmp 17) rfl 30 BS rawR (Value.int .u64) (fun v=>v) (fun key kl hkey=>by obtain⟨x,rfl,_⟩:=Maps.keyOf_int_inv Tryz.underlying30 hkey;exact⟨x,rfl⟩) (fun v y hv=>⟨v,rfl⟩) mb w.heap.size c D left cnt rfl hrg ?_ ?_)
  ·intro h0 hl
   have hfun:(fun i=>i < Ae∧left (idL i)=false)=fun i=>i < Ae:=by
    funext i
    rw[hl];simp
   have HP2:=zz (hfun ▸ HP.out);clear hl hfun h0 hrg HP;go_wp2;go_ret2;exact⟨pn,kn,HP2.out,HPT.out,rfl,hbw⟩
  ·intro x cv kl y ps w1 cnt1 hkx hlx hrx hax hrg1 hlt1 hg1 hs1 hen
   obtain⟨i,nd,ka,kc,rfl,hi,rfl,hMi,rfl,hsl⟩:=Qj HK.out hkx hrx hax;have hrlt:=hrg.lt;have hle:=hrg.left_eq;have hb1:Below w.heap.size w w1:=hbw.grown hg1 (by omega) (fun k hk=>by injection hk with hk;omega);have hi0:i≠0:=fun e=>by have:=HM0.out;rw[←e,hMi] at this;cases this
   have hlen:=HBD.out i nd hMi;have HS:∀j,(j < Ae∧(left (idL j) && !(idL j).sameKey (idL i))=false)↔(j < Ae∧left (idL j)=false)∨j=i:=by
    intro j;constructor
    ·rintro⟨h1,h2⟩
     rcases(Ko hi h1).1 h2 with h3|h3
     ·exact .inl ⟨h1,h3⟩
     ·exact .inr h3
    ·rintro(⟨h1,h2⟩|h1)
     ·exact⟨h1,(Ko hi h1).2 (.inl h2)⟩
     ·subst h1;exact⟨hi,(Ko hi hi).2 (.inr rfl)⟩
   have HSK:=zz HS;have HSL:=zz hsl;have HMI:=zz hMi;have HR1:=zz hrg1;have HLE:=zz hle;have HIT:=zz hi;have HI0:=zz hi0;clear hkx hlx hrx hax hrg hg1 hsl hMi HS hrg1 hle hi hi0;have hnb:∀z,Below w.heap.size w (w1.alloc (.cells z 33)):=fun z=>hb1.alloc hb1.size _;have TI:=zz (fun W (h:Below w.heap.size w W)=>Nz w.heap.size _ nd.kids id W (HSL.out.below h (Nat.le_refl _)) hlen);have hend:∀z,(w1.alloc (.cells z 33)).ranges Tryz.prog 30 rawR mb w.heap.size c D (fun z=>left z && !z.sameKey (idL i)) cnt1:=fun z=>HR1.out.alloc _;have HE:=zz hend;have HNB:=zz hnb;have hskip:idxI nd.kids id < 0∨(pn≠0∧pn≤i)→ET M id (fun j=>j < Ae∧(left (idL j) && !(idL j).sameKey (idL i))=false) pn kn:=fun h=>HP.out.skip HMI.out HSK.out h;have htake:0≤idxI nd.kids id→(pn=0∨i < pn)→ET M id (fun j=>j < Ae∧(left (idL j) && !(idL j).sameKey (idL i))=false) i (idxI nd.kids id):=fun h k=>HP.out.take HMI.out HI0.out HSK.out h k;have HSKIP:=zz hskip;have HTAKE:=zz htake;generalize idxI nd.kids id=q at TI HSKIP HTAKE;clear hnb hend hskip htake hlen HP HSK HI0;by_cases hq:0≤q
   ·have hq1:decide (0≤q)=true:=by simpa using hq
    by_cases hp0:pn=0
    ·have ht:=zz (HTAKE.out hq (.inl hp0))
     have hp1:((pn:Int)==0)=true:=by simp[hp0]
     have HP0:=zz hp0;have HQ:=zz hq;clear hp0 hq HSKIP HTAKE
     go_wp2_with (go_at_call 122;refine(TI.out _ (HNB.out _)).mono ?_;rintro e w2 ⟨rfl,rfl⟩)
     go_roundw
     case rel=>exact⟨i,q,_,cnt1,rfl,rfl,HIT.out,HE.out _,ht.out,HNB.out _⟩
     case measure=>rw[(HE.out _).left_eq,HLE.out];exact hlt1
    ·by_cases hip:i < pn
     ·have ht:=zz (HTAKE.out hq (.inr hip))
      have hp1:((pn:Int)==0)=false:=by simp;omega
      have hp2:decide ((i:Int) < (pn:Int))=true:=by simpa using hip
      have hp3:decide (i < pn)=true:=by simpa using hip
      have HP0:=zz hp0;have HQ:=zz hq;have HIP:=zz hip;clear hp0 hq hip HSKIP HTAKE
      go_wp2_with (go_at_call 122;refine(TI.out _ (HNB.out _)).mono ?_;rintro e w2 ⟨rfl,rfl⟩)
      go_roundw
      case rel=>exact⟨i,q,_,cnt1,rfl,rfl,HIT.out,HE.out _,ht.out,HNB.out _⟩
      case measure=>rw[(HE.out _).left_eq,HLE.out];exact hlt1
     ·have ht:=zz (HSKIP.out (.inr ⟨hp0,by omega⟩))
      have hp1:((pn:Int)==0)=false:=by simp;omega
      have hp2:decide ((i:Int) < (pn:Int))=false:=by simp;omega
      have hp3:decide (i < pn)=false:=by simp;omega
      have HP0:=zz hp0;have HQ:=zz hq;have HIP:=zz hip;clear hp0 hq hip HSKIP HTAKE
      go_wp2_with (go_at_call 122;refine(TI.out _ (HNB.out _)).mono ?_;rintro e w2 ⟨rfl,rfl⟩)
      go_roundw
      case rel=>exact⟨pn,kn,_,cnt1,rfl,rfl,HPT.out,HE.out _,ht.out,HNB.out _⟩
      case measure=>rw[(HE.out _).left_eq,HLE.out];exact hlt1
   ·have ht:=zz (HSKIP.out (.inl (by omega)))
    have hq1:decide (0≤q)=false:=by simp;omega
    have HQ:=zz hq;clear hq HSKIP HTAKE
    go_wp2_with (go_at_call 122;refine(TI.out _ (HNB.out _)).mono ?_;rintro e w2 ⟨rfl,rfl⟩)
    go_roundw
    case rel=>exact⟨pn,kn,_,cnt1,rfl,rfl,HPT.out,HE.out _,ht.out,HNB.out _⟩
    case measure=>rw[(HE.out _).left_eq,HLE.out];exact hlt1
inductive JR (M:Nat→Option Hg.Node) (kind:Nat):Nat→Nat→Prop
 |zero:JR M kind 0 0
 |none (id:Nat) (h:M id=none):JR M kind id 0
 |hit (id:Nat) (n:Hg.Node) (h0:id≠0) (h:M id=some n) (hk:n.kind=kind):JR M kind id id
 |step (id:Nat) (n:Hg.Node) (p:Nat) (k:Int) (r:Nat) (h0:id≠0) (h:M id=some n) (hk:n.kind≠kind) (hp:ET M id (fun i=>i < Ae) p k) (hr:JR M kind p r):JR M kind id r
theorem ET.unique{M:Nat→Option Hg.Node}{id:Nat}{S:Nat→Prop}{p p':Nat}{k k':Int}(h:ET M id S p k)(h':ET M id S p' k'):p=p'∧k=k':=by
 rcases h with⟨h1,h2,h3⟩|⟨h1,h2,⟨nd,hn,h3,h5⟩,h4⟩
 ·rcases h' with⟨g1,g2,g3⟩|⟨g1,g2,⟨nd',hn',g3,g5⟩,g4⟩
  ·exact⟨h1.trans g1.symm,h2.trans g2.symm⟩
  ·have:=h3 p' nd' g2 hn';omega
 ·rcases h' with⟨g1,g2,g3⟩|⟨g1,g2,⟨nd',hn',g3,g5⟩,g4⟩
  ·have:=g3 p nd h2 hn;omega
  ·have a1:=h4 p' nd' g2 hn' (by omega)
   have a2:=g4 p nd h2 hn (by omega);have e:p=p':=by omega
   subst e;rw[hn] at hn';injection hn' with hn';subst hn';exact⟨rfl,h3.symm.trans g3⟩
def Gt(w:World)(sb n cur:Nat):Prop:=∃D,w.ownsMap Tryz.prog 30 rawR sb n D∧∀j,j≤cur→Maps.has D (idL j)=false
theorem Gt.look{w:World}{sb n cur:Nat}(h:Gt w sb n cur)(hc:cur < Ae):(Instr.lookup 116 (.map (some sb)) (.int .u64 (cur:Int)) false).run Tryz.prog w= .ok (.bool false) w:=by
 obtain⟨D,ho,hs⟩:=h;have hz:(zeroValue 4).run Tryz.prog w= .ok (.bool false) w:=by kernel_rfl
 obtain⟨v,ps,hrun,hv⟩:=ho.lookup BS Tryz.underlying116 hz (zd:= .held (.bool false)) (zp:=[]) rfl (Bb hc);rw[Maps.atKey_of_not_has (hs cur (Nat.le_refl _))] at hv;simp only[rawR,Option.some.injEq,Prod.mk.injEq] at hv;have e:v= .bool false:=by simpa using hv.1
 rw[hrun,e]
theorem Gt.put{w:World}{sb n cur:Nat}(h:Gt w sb n cur)(hc:cur < Ae)(hn:n≤1000000000)(p:Nat)(hp:p < cur):
 ∃w',(Instr.mapUpdate 116 (.map (some sb)) (.int .u64 (cur:Int)) (.bool true)).run Tryz.prog w= .ok () w'∧Gt w' sb (n+1) p∧w.grownBy w' (some sb):=by
 obtain⟨D,ho,hs⟩:=h;obtain⟨w',hrun,ho',hg⟩:=ho.update BS Tryz.underlying116 (by unfold maxLen;omega) (Bb hc) (val:= .bool true) (d:= .held (.bool true)) (ps:=[]) rfl;refine⟨w',hrun,⟨_,ho',fun j hj=> ?_⟩,hg⟩;rw[Maps.has_put_other (O3 (by omega))];exact hs j (by omega)
theorem Gt.below{w w':World}{sb n cur B:Nat}(h:Gt w sb n cur)(hb:Below B w w')(hB:w.heap.size≤B):Gt w' sb n cur:=by
 obtain⟨D,ho,hs⟩:=h;exact⟨D,ho.kept (below_grown (hb.mono hB) none) (by simp),hs⟩
theorem Gt.lt{w:World}{sb n cur:Nat}(h:Gt w sb n cur):sb < w.heap.size:=by
 obtain⟨D,ho,_⟩:=h;exact ho.lt
theorem VM(ab mb c:Nat)(M:Nat→Option Hg.Node)(kind id r:Nat)(w:World)(hA:ArAt w ab mb c M)(hM0:M 0=none)(hid:id≤1000000)(hkind:∀i n,M i=some n→n.kind≤255)(hk255:kind≤255)
 (hdec:∀i n p k,M i=some n→ET M i (fun i=>i < Ae) p k→p < i∨p=0) (hch:JR M kind id r):
 Calls Tryz.prog 123 #[.pointer (some ⟨ab,0,none⟩),.int .u64 (id:Int),.int .u8 (kind:Int)] w fun e w'=>e= .returned (.int .u64 (r:Int))∧Below w.heap.size w w':=by
 have hmm:= @run_makeMap Tryz.prog;have hlt:=hA.lt;have HA:=zz hA;have HM0:=zz hM0;have HDEC:=zz hdec;have HCH:=zz hch;have HKD:=zz hkind;clear hA hM0 hdec hch hkind;go_enter Tryz.func123,Tryz.ntmps123;go_wp2;have hb0:Below w.heap.size w (w.alloc (.map #[] 0)):=(Below.refl _ _).alloc (Nat.le_refl _) _;have hs0:Gt (w.alloc (.map #[] 0)) w.heap.size 0 id:=⟨.map [],World.ownsMap_made w _ _ _,fun j _=>rfl⟩;clear hmm
 go_loopw [1] (fun p wr=>∃(cur n:Nat),p= .int .u64 (cur:Int)∧cur≤1000000∧n+cur≤2000000∧Gt wr w.heap.size n cur∧JR M kind cur r∧Below w.heap.size w wr) (fun p wr=>(intOf p).toNat)
 case atStart=>exact⟨id,0,rfl,hid,by omega,hs0,HCH.out,hb0⟩
 case round=>
  obtain⟨cur,n,rfl,hc6,hn6,hset,hch,hbw⟩:=hrel;have HS:=zz hset;have hsb:=hset.lt;have hct:cur < Ae:=by unfold Ae;omega
  clear hb0 hs0 hset HCH;by_cases h0:cur=0
  ·subst h0
   have hr0:r=0:=by
    cases hch with
    |zero=>rfl
    |none _ _=>rfl
    |hit _ _ h0 _ _=>exact absurd rfl h0
    |step _ _ _ _ _ h0 _ _ _ _=>exact absurd rfl h0
   subst hr0;clear hch;go_wp2;go_ret;exact⟨rfl,hbw⟩
  ·have hq0:((cur:Int)==0)=false:=by simp;omega
   have hq0':((cur:Int) !=0)=true:=by simp;omega
   have hlk:=HS.out.look hct;have hB:w.heap.size≤wr.heap.size:=hbw.size;have TG:=Xw ab mb c M cur wr (HA.out.below hbw (Nat.le_refl _)) hct;have HQ:=zz h0;clear h0;cases hM:M cur with
   |none=>
     have hr0:r=0:=by
      cases hch with
      |zero=>rfl
      |none _ _=>rfl
      |hit _ n _ h _=>rw[hM] at h;cases h
      |step _ n _ _ _ _ h _ _ _=>rw[hM] at h;cases h
     subst hr0;rw[hM] at TG;have TG:=zz TG;clear hch hM;go_wp2_with fail;refine TG.out.mono ?_;rintro e w1 ⟨ka,kc,rfl,hs1,hb1⟩;simp only[Option.getD_none,Option.isSome_none];have hb1':=hbw.trans (hb1.mono hB);clear hs1 hb1 hlk;go_wp2;go_ret;exact⟨rfl,hb1'.alloc hb1'.size _⟩
   |some nd=>
     rw[hM] at TG;have TG:=zz TG;have hkn:=HKD.out cur nd hM;by_cases hk:nd.kind=kind
     ·have hr0:r=cur:=by
       cases hch with
       |zero=>exact absurd rfl HQ.out
       |none _ h=>rw[hM] at h;cases h
       |hit _ n _ h _=>rfl
       |step _ n _ _ _ _ h hk2 _ _=>rw[hM] at h;injection h with h;subst h;exact absurd hk hk2
      subst hr0;have hk1:((nd.kind:Int)==(kind:Int))=true:=by simp[hk]
      clear hch hM hk;go_wp2_with fail;refine TG.out.mono ?_;rintro e w1 ⟨ka,kc,rfl,hs1,hb1⟩;simp only[Option.getD_some,Option.isSome_some];have hb1':=hbw.trans (hb1.mono hB);clear hs1 hb1 hlk;go_wp2;go_ret;exact⟨rfl,hb1'.alloc hb1'.size _⟩
     ·have hst:∃p k,ET M cur (fun i=>i < Ae) p k∧JR M kind p r:=by
       cases hch with
       |zero=>exact absurd rfl HQ.out
       |none _ h=>rw[hM] at h;cases h
       |hit _ n _ h hk2=>rw[hM] at h;injection h with h;subst h;exact absurd hk2 hk
       |step _ n p k _ _ h _ hp hr=>exact⟨p,k,hp,hr⟩
      obtain⟨p,k,hp,hr⟩:=hst;have hpc:p < cur:=by
       rcases HDEC.out cur nd p k hM hp with h|h
       ·exact h
       ·have:=HQ.out;omega
      have HP:=zz hp;have HR:=zz hr;have hk1:((nd.kind:Int)==(kind:Int))=false:=by simp;omega
      clear hch hM hk hp hr;go_wp2_with fail;refine TG.out.mono ?_;rintro e w1 ⟨ka,kc,rfl,hs1,hb1⟩;simp only[Option.getD_some,Option.isSome_some];have hb1':=hbw.trans (hb1.mono hB);have hset2:Gt (w1.alloc (.cells #[.int .u8 (nd.kind:Int),strV nd.name,.int .i64 nd.num,.int .u8 (nd.type:Int),.int .u64 (nd.ref:Int),.slice ka nd.kids.length kc] 33)) w.heap.size n cur:=
       (HS.out.below hb1 (Nat.le_refl _)).below ((Below.refl _ _).alloc (Nat.le_refl _) _) (Nat.le_refl _)
      obtain⟨W2,hrun2,hset3,hg2⟩:=hset2.put hct (by omega) p hpc;have hb2:Below w.heap.size w W2:=(hb1'.alloc hb1'.size _).grown hg2 (by have:=hb1'.size;simp;omega) (fun k hk=>by injection hk with hk;omega);have HS3:=zz hset3;have TP:=zz (KQ ab mb c M cur W2 (HA.out.below hb2 (Nat.le_refl _)) HM0.out);have hB2:=hb2.size;clear hs1 hb1 hlk hset2 hg2 hset3;go_wp2_with fail;refine TP.out.mono ?_;rintro e w3 ⟨p',k',hp',_,rfl,hb3⟩;obtain⟨rfl,rfl⟩:=HP.out.unique hp';have HS4:=zz (HS3.out.below hb3 (Nat.le_refl _));have hb4:=hb2.trans (hb3.mono hB2);clear hrun2 hp' hb3;go_wp2;go_roundw
      case rel=>exact⟨p,n+1,rfl,by omega,by omega,HS4.out,HR.out,hb4⟩
      case measure=>simp[intOf];omega
end Go.Proofs.YtljmibnfmilfbaaGreatDoor
namespace Go.Proofs.YtljmibnfmilfbaaGreatDoor
open Go.RowKit
open Hg (Dc)
def tabC(rows:List Hg.Row):Nat→Option Hg.Node:=fun i=>if i=0 then none else(rows[i-1]?).map (·.node)
theorem XX{rows:List Hg.Row}{k:Nat}{r:Hg.Row}(h:rows[k]? =some r):tabC rows (k+1)=some r.node:=by
 unfold tabC;rw[if_neg (by omega),Nat.add_sub_cancel,h];rfl
def GH(x:List Hg.Row)(j:Nat):Nat→Option Hg.Node:=if j=0 then Jt else tabC (x.take j)
theorem UT{x:List Hg.Row}{j:Nat}{r:Hg.Row}(h:x[j]? =some r):putM (GH x j) (j+1) r.node=GH x (j+1):=by
 have hj:j < x.length:=(List.getElem?_eq_some_iff.1 h).1
 funext i
 unfold GH;rw[if_neg (show¬j+1=0 by omega)];unfold putM;by_cases hi:i=j+1
 ·rw[if_pos hi,hi]
  exact(XX (by rw[List.getElem?_take_of_lt (by omega)];exact h)).symm
 ·rw[if_neg hi]
  by_cases hj0:j=0
  ·subst hj0
   rw[if_pos rfl];unfold Jt putM tabC;rw[if_neg (by omega)];by_cases h0:i=0
   ·rw[if_pos h0]
   ·rw[if_neg h0,List.getElem?_eq_none (by rw[List.length_take];omega)]
    rfl
  ·rw[if_neg hj0]
   unfold tabC;by_cases h0:i=0
   ·rw[if_pos h0,if_pos h0]
   ·rw[if_neg h0,if_neg h0]
    by_cases hlt:i-1 < j
    ·rw[List.getElem?_take_of_lt hlt,List.getElem?_take_of_lt (by omega)]
    ·rw[List.getElem?_eq_none (by rw[List.length_take];omega),List.getElem?_eq_none (by rw[List.length_take];omega)]
theorem Qn(x:List Hg.Row)(j:Nat):(GH x j (j+1)).isSome=decide (j=0):=by
 unfold GH;by_cases hj:j=0
 ·subst hj;rfl
 ·rw[if_neg hj]
  unfold tabC;rw[if_neg (by omega),Nat.add_sub_cancel,List.getElem?_eq_none (by rw[List.length_take];omega)]
  simp[hj]
theorem Qb:∀(x:List Hg.Row) (a i:Nat),Dc a x→x.find? (fun r=>r.id==i)=if a≤i then x[i-a]? else none
 |[],a,i,_=>by simp
 |r::x,a,i,h=>by
   have h0:=h.head;rw[List.find?_cons,Qb x (a+1) i h.tail];by_cases e:a=i
   ·subst e
    simp[h0]
   ·have hb:(r.id==i)=false:=by rw[h0];simpa using e
    rw[hb];by_cases hl:a≤i
    ·rw[if_pos hl,if_pos (by omega),show i-a=(i-(a+1))+1 by omega]
     simp
    ·rw[if_neg hl,if_neg (by omega)]
def Vn(x:List Hg.Row):Nat→Option Hg.Node:=fun id=>(x.find? (fun r=>r.id==id)).map Hg.Row.node
theorem SE{x:List Hg.Row}(h:Dc 1 x)(h0:x≠[]):GH x x.length=Vn x:=by
 unfold GH;rw[if_neg (by cases x with|nil=>exact absurd rfl h0|cons a l=>simp),List.take_length]
 funext i
 unfold tabC Vn;rw[Qb x 1 i h];by_cases e:i=0
 ·rw[if_pos e,if_neg (by omega)];rfl
 ·rw[if_neg e,if_pos (by omega)]
def YA(x:List Hg.Row)(w:World)(e:Ending)(w':World):Prop:=
 ∃ab mb c,e= .returned (.pointer (some ⟨ab,0,none⟩))∧ArAt w' ab mb c (Vn x)∧Below w.heap.size w w'
theorem Ul(v:Value)(x:List Hg.Row)(w:World)(hx:Az w w.heap.size v x)(hi:Dc 1 x)(h0:x≠[])(hl:x.length≤20000)(hk:∀(k:Nat) (r:Hg.Row),x[k]? =some r→r.node.kids.length≤1000000):
 Calls Tryz.prog 7 #[v] w (YA x w):=by
 obtain⟨a4,c4,rfl⟩:=hx.form;have HX:=zz hx;have HI:=zz hi;have HK:=zz hk;have HALL:=zz (SE hi h0);have TN:=zz (fun W=>Sg (fun _=>True) W);clear hx hi hk h0;go_enter Tryz.func7,Tryz.ntmps7;go_wp2_with fail;refine(TN.out w).mono ?_;rintro e w5 ⟨ab,mb,rfl,hab,hmb,hA5,hb5⟩;have HA5:=zz hA5;have HB5:=zz hb5;clear hA5 hb5 TN;go_wp2
 go_loopw [9] (fun p wr=>∃(j cj:Nat),p= .int .i64 (j:Int)∧j≤x.length∧ArAt wr ab mb cj (GH x j)∧cj≤j+1∧(0 < j→cj≤j)∧Below w.heap.size w wr) (fun p wr=>x.length-(intOf p).toNat)
 case atStart=>exact⟨0,1,rfl,Nat.zero_le _,HA5.out,by omega,fun h=>by omega,HB5.out⟩
 case round=>
  obtain⟨j,cj,rfl,hj,hA,hc1,hc2,hb⟩:=hrel;have HA:=zz hA;have HB:=zz hb;have HC:=zz (And.intro hc1 hc2);clear hA hc1 hc2 HA5 HB5;by_cases hlt:j < x.length
  ·obtain⟨r,hr⟩:∃r,x[j]? =some r:=⟨_,List.getElem?_eq_getElem hlt⟩
   obtain⟨b,o,ka,kc,rfl,hbl,hks,r0,r1,r2,r3,r4,r5,r6⟩:=(HX.out.below hb (Nat.le_refl _)).at_ hr;have hid:r.id=j+1:=by have:=HI.out j r hr;omega
   have hkl:=HK.out j r hr;have hbN:Below wr.heap.size wr (wr.alloc (.cells #[.int .u64 (r.id:Int),.int .u8 (r.node.kind:Int),strV r.node.name,.int .i64 r.node.num,.int .u8 (r.node.type:Int),.int .u64 (r.node.ref:Int),.slice ka r.node.kids.length kc] 55)):=(Below.refl _ _).alloc (Nat.le_refl _) _;have hiM:(GH x j r.id).isSome=decide (j=0):=by rw[hid];exact Qn x j
   have TPU:=SV (fun _=>True) ab mb cj (GH x j) r.id r.node ka kc _ (HA.out.below hbN (Nat.le_refl _)) (by unfold Ae;omega) (by omega) (by
    rw[hiM];by_cases e:j=0
    ·exact .inl (by simp[e])
    ·exact .inr (by have:=HC.out.2 (by omega);omega)) (by have:=HC.out.1;omega) ((hks.more hb.size).below hbN (Nat.le_refl _)|>.more hbN.size) hkl
   have TPU:=zz TPU;have HR:=zz (And.intro hr (And.intro hid hiM));have HBN:=zz (HB.out.trans (hbN.mono HB.out.size));clear hr hid hiM hkl hb hbN hks;go_wp2_with fail;refine TPU.out.mono ?_;rintro e w7 ⟨rfl,hA7,hg7⟩;have HB7:=zz (show Below w.heap.size w w7 from HBN.out.grown hg7 HBN.out.size (fun k hk=>by injection hk with hk;omega));have HA7:=zz (show∃c7,ArAt w7 ab mb c7 (GH x (j+1))∧c7≤j+1 from by
    have h1:=hA7.imp (Z':=fun _=>True) (fun _ _=>trivial);obtain⟨g1,g2,g3⟩:=HR.out;rw[g3,g2,UT g1] at h1;refine⟨_,h1, ?_⟩;have h2:=HC.out;by_cases e:j=0
    ·rw[if_pos (by simpa using e)];omega
    ·rw[if_neg (by simpa using e)];have:=h2.2 (by omega);omega)
   clear hA7 hg7 TPU;go_wp2;go_roundw
   case rel=>
    obtain⟨c7,h1,h2⟩:=HA7.out;exact⟨j+1,c7,by go_num,by omega,h1,by omega,fun _=>h2,HB7.out⟩
   case measure=>simp[intOf];omega
  ·obtain rfl:j=x.length:=by omega
   have hA:=HA.out;rw[HALL.out] at hA;have HAF:=zz hA;clear hA hb;go_wp2;go_ret;exact⟨ab,mb,cj,rfl,HAF.out,HB.out⟩
end Go.Proofs.YtljmibnfmilfbaaGreatDoor
namespace Go.Proofs.YtljmibnfmilfbaaGreatDoor
open Go.RowKit
theorem Ro(f:Nat)(ihE:KU f)(ihC:Qs f):KU (f+1):=by
 intro rb s u s' w he hR ho hdp hf hu;rw[Hg.Rd.expr] at he;by_cases h2:s.text 2≠[]
 ·rw[if_pos h2] at he
  injection he with he;subst he;exact PE rb s u w hR ho h2 hf hu
 rw[if_neg h2] at he;have h2':s.text 2=[]:=by simpa using h2
 by_cases h1:s.text 1≠[]
 ·rw[if_pos h1] at he
  dsimp only at he;by_cases hd:s.step.next [46]=true
  ·rw[if_pos hd] at he
   exact Rq rb s s' u w hR ho h2' h1 hd f ihC hdp he hf hu
  ·rw[if_neg hd] at he
   injection he with he;exact U4 rb s s' u w hR ho h2' h1 (by simpa using hd) he.symm hf hu
 rw[if_neg h1] at he;have h1':s.text 1=[]:=by simpa using h1
 by_cases ht:s.next Hg.Eo=true
 ·rw[if_pos ht] at he
  injection he with he;exact Rn rb s s' u w hR ho h2' h1' ht he.symm hf hu
 rw[if_neg ht] at he;have ht':s.next Hg.Eo=false:=by simpa using ht
 by_cases hfa:s.next Hg.EI=true
 ·rw[if_pos hfa] at he
  injection he with he;exact Qi rb s s' u w hR ho h2' h1' ht' hfa he.symm hf hu
 rw[if_neg hfa] at he;have hfa':s.next Hg.EI=false:=by simpa using hfa
 by_cases hr:s.next Hg.GJ=true
 ·rw[if_pos hr] at he
  injection he with he;exact Rp rb s s' u w hR ho h2' h1' ht' hfa' hr he.symm hf hu
 rw[if_neg hr] at he;have hr':s.next Hg.GJ=false:=by simpa using hr
 by_cases h33:s.next [33]=true
 ·rw[if_pos (.inl h33)] at he
  dsimp only at he;rw[if_pos h33] at he;by_cases hb:(s.step.node u (Hg.Rd.nd 16)).enter.bad=true
  ·rw[if_pos hb] at he
   injection he with he;exact NQ rb s s' u w hR ho h2' h1' ht' hfa' hr' h33 hb he.symm hdp hf hu
  ·rw[if_neg hb] at he
   cases hx:Hg.Rd.expr f (s.step.node u (Hg.Rd.nd 16)).enter s.rows.length with
   |none=>rw[hx] at he;simp at he
   |some s1=>
     rw[hx] at he;injection he with he;exact PG rb s s' u w hR ho h2' h1' ht' hfa' hr' h33 (by simpa using hb) f ihE s1 hx he.symm hdp hf hu
 have h33':s.next [33]=false:=by simpa using h33
 by_cases h45:s.next [45]=true
 ·rw[if_pos (.inr h45)] at he
  dsimp only at he;rw[if_neg h33] at he;by_cases hb:(s.step.node u (Hg.Rd.nd 17)).enter.bad=true
  ·rw[if_pos hb] at he
   injection he with he;exact NR rb s s' u w hR ho h2' h1' ht' hfa' hr' h33' h45 hb he.symm hdp hf hu
  ·rw[if_neg hb] at he
   cases hx:Hg.Rd.expr f (s.step.node u (Hg.Rd.nd 17)).enter s.rows.length with
   |none=>rw[hx] at he;simp at he
   |some s1=>
     rw[hx] at he;injection he with he;exact PH rb s s' u w hR ho h2' h1' ht' hfa' hr' h33' h45 (by simpa using hb) f ihE s1 hx he.symm hdp hf hu
 rw[if_neg (by simp[h33,h45])] at he;have h45':s.next [45]=false:=by simpa using h45
 by_cases h40:s.next [40]=true
 ·rw[if_pos h40] at he
  dsimp only at he;by_cases hb:(s.step.node u (Hg.Rd.nd 18)).enter.bad=true
  ·rw[if_pos hb] at he
   injection he with he;exact NT rb s s' u w hR ho h2' h1' ht' hfa' hr' h33' h45' h40 hb he.symm hdp hf hu
  ·rw[if_neg hb] at he
   have hb':(s.step.node u (Hg.Rd.nd 18)).enter.bad=false:=by simpa using hb
   cases hx:Hg.Rd.expr f (s.step.node u (Hg.Rd.nd 18)).enter s.rows.length with
   |none=>rw[hx] at he;simp at he
   |some s1=>
     rw[hx] at he;dsimp only at he;by_cases hz:Hg.Rd.opOf (s1.text 4)=0
     ·rw[if_pos hz] at he
      cases hy:Hg.Rd.expr f ((s1.BL s.rows.length (Hg.Rd.opOf (s1.text 4):Nat)).setBad).step s.rows.length with
      |none=>rw[hy] at he;simp at he
      |some s4=>
        rw[hy] at he;injection he with he;exact Mw rb s s' u w hR ho h2' h1' ht' hfa' hr' h33' h45' h40 hb' f ihE s1 s4 _ hx rfl hz hy he.symm hdp hf hu
     ·rw[if_neg hz] at he
      cases hy:Hg.Rd.expr f ((s1.BL s.rows.length (Hg.Rd.opOf (s1.text 4):Nat))).step s.rows.length with
      |none=>rw[hy] at he;simp at he
      |some s4=>
        rw[hy] at he;injection he with he;exact PI rb s s' u w hR ho h2' h1' ht' hfa' hr' h33' h45' h40 hb' f ihE s1 s4 _ hx rfl hz hy he.symm hdp hf hu
 rw[if_neg h40] at he;injection he with he;subst he;exact U7 rb s s u w hR ho h2' h1' ht' hfa' hr' h33' h45' (by simpa using h40)
theorem OE(f:Nat):KU f∧Qs f:=by
 induction f using Nat.strongRecOn with
 |_ f ih=>
   cases f with
   |zero=>exact⟨fun rb s u s' w he=>by simp[Hg.Rd.expr] at he,fun rb s u m s' w he=>by simp[Hg.Rd.call] at he⟩
   |succ f=>
     exact⟨Ro f (ih f (Nat.lt_succ_self f)).1 (ih f (Nat.lt_succ_self f)).2,VG f fun g hg=>(ih g (by omega)).1⟩
theorem Fb(f:Nat):KU f:=(OE f).1
theorem VH(f:Nat):Qs f:=(OE f).2
end Go.Proofs.YtljmibnfmilfbaaGreatDoor
