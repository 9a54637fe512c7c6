/-
  A part of the proof.
-/
import Derived.Test.YtijhlanclfajiaaGreatDoorKiAP
import Derived.Test.YtijhlanclfajiaaGreatDoorKiAR
import Derived.Test.YtijhlanclfajiaaGreatDoorKiAS
set_option linter.all false
set_option maxHeartbeats 32000000
set_option maxRecDepth 100000
namespace Go.Proofs.YtijhlanclfajiaaGreatDoor
open Go.RowKit
theorem MG:(Tryz.prog.info? 9).map (fun i=>(i.zero,i.size,i.bytes))=some (some (.string ⟨#[]⟩),1,16):=by kernel_rfl
theorem AY{B:Nat}{w w':World}(h:Below B w w')(hB:w.heap.size≤B){p:Addr}{v:Value}(hc:w.cell? p=some v):w'.cell? p=some v:=
 (h.cell (Ae (World.block_lt_of_cell? w p hc) hB)).trans hc
@[simp,go_sem] theorem bytes_append(a b:List UInt8):ByteArray.mk a.toArray++ByteArray.mk b.toArray=ByteArray.mk (a++b).toArray:=by
 apply ByteArray.ext;rw[ByteArray.data_append];simp
theorem NR{s:Hg.Rd}{k:Nat}{r:Hg.Row}(h:s.rows[k]? =some r):s.idAt k=r.id:=by simp[Hg.Rd.idAt,h]
def Zi(rb n:Nat)(sE:Hg.Rd)(f:Nat)(w0:World)(k:Nat)(p:Value)(wr:World):Prop:=
 ∃(b:Bool) (t:Hg.Rd),p= .bool b∧Hg.Rd.args k b t n=some sE∧RdAt wr rb t∧Okk t∧t.deep≤90∧n < t.rows.length∧Below rb w0 wr∧k≤f
theorem VV(f:Nat)(ihE:∀g,g≤f→O1 g):UK (f+1):=by
 intro rb s u m s' w hcall hR ho hdp hf hu hm;have hbook:∃s3 nm cid s4,((s.node u (Hg.Rd.nd 19)).need [46]).name=s3∧((s.node u (Hg.Rd.nd 19)).need [46]).text 1=nm∧s3.idAt s.rows.length=cid∧{s3 with calls:=s3.calls++[cid],wants:=s3.wants++[m++32::nm]}=s4∧
  (if s4.enter.bad=true then some s4.enter.leave else(Hg.Rd.args f true (s4.enter.need [40]) s.rows.length).map Hg.Rd.leave)=some s':=by
  refine⟨_,_,_,_,rfl,rfl,rfl,rfl, ?_⟩;rw[←hcall,Hg.Rd.call];simp only[List.append_assoc,List.cons_append,List.nil_append]
 obtain⟨s3,nm,cid,s4,e3,enm,ecid,e4,he⟩:=hbook;clear hcall;have hes:Hg.Rd.Ak s s4:=by
  subst e4 ecid e3 enm;have hrn:((s.node u (Hg.Rd.nd 19)).need [46]).name.rows=(s.node u (Hg.Rd.nd 19)).rows:=(Hg.Rd.Ck _).2.2.trans (Hg.Rd.EL _ _).2.2;have hid:((s.node u (Hg.Rd.nd 19)).need [46]).name.idAt s.rows.length=s.rows.length+1:=(Hg.Rd.Og hrn _).trans (Hg.Rd.Oh s u _);have A:Hg.Rd.Ak s ((s.node u (Hg.Rd.nd 19)).need [46]).name:=((Hg.Rd.Av s u _ (Hg.Rd.Cm _)).trans (Hg.Rd.Al _ _)).trans (Hg.Rd.Co _);have hl:((s.node u (Hg.Rd.nd 19)).need [46]).name.rows.length=s.rows.length+1:=by rw[hrn,Hg.Rd.BK]
  exact Hg.Rd.XG A (by omega) ((Hg.Rd.Ck _).1.trans (Hg.Rd.EL _ _).1) ((Hg.Rd.Ck _).2.1.trans (Hg.Rd.EL _ _).2.1) (by rw[hid,hl];omega) (Hg.Rd.Ak.refl _)
 have g34:Hg.Rd.Grow s3 s4:=by rw[←e4];exact Hg.Rd.Bq rfl AA id rfl
 have g4:Hg.Rd.Grow s4 s':=by
  by_cases hb:s4.enter.bad=true
  ·rw[if_pos hb] at he
   injection he with he;rw[←he];exact(Hg.Rd.DD _).trans (Hg.Rd.DC _)
  ·rw[if_neg hb] at he
   cases ha:Hg.Rd.args f true (s4.enter.need [40]) s.rows.length with
   |none=>rw[ha] at he;simp at he
   |some s5=>
     rw[ha] at he;injection he with he;rw[←he];exact(Hg.Rd.DD _).trans ((Hg.Rd.Cg _ _).trans ((((Hg.Rd.CF f).2.2 _ _ _ _ ha).grow).trans (Hg.Rd.DC _)))
 have ho4:Okk s4:=ho.es hes g4 hf;obtain⟨j0,hj,hj0,hj1,hj2⟩:=info_parts SN;obtain⟨k0,hk,hk0,hk1,hk2⟩:=info_parts MG;have es1:=Hg.Rd.Av s u (Hg.Rd.nd 19) rfl;have es2:=Hg.Rd.Al (s.node u (Hg.Rd.nd 19)) [46];have es3:=Hg.Rd.Co ((s.node u (Hg.Rd.nd 19)).need [46]);rw[e3] at es3;have ho3:Okk s3:=by
  have A:=(es1.trans es2).trans es3;exact ho.es A (g34.trans g4) hf
 have ho1:Okk (s.node u (Hg.Rd.nd 19)):=ho.es es1 (es2.grow.trans es3.grow) ho3.fin;have ho2:Okk ((s.node u (Hg.Rd.nd 19)).need [46]):=ho1.es es2 es3.grow ho3.fin;have hl3:s.rows.length < s3.rows.length:=by
  have a1:=es2.grow.len;have a2:=es3.grow.len;rw[Hg.Rd.BK] at a1;omega
 have hnm:nm.length≤1000000:=by rw[←enm];exact ho2.text 1
 have TN:=fun W h=>zz (Fy (rb:=rb) (s:=s) (under:=u) s.rows.length (Hg.Rd.nd 19) (w:=W) h ho rfl hu rfl);have TD:=fun W h=>zz (Cx (rb:=rb) (s:=s.node u (Hg.Rd.nd 19)) (t:=[46]) (w:=W) h ho1);have TM:=fun W h=>zz (IV (rb:=rb) (s:=(s.node u (Hg.Rd.nd 19)).need [46]) (w:=W) h ho2);rw[e3,enm] at TM;go_enter Tryz.func164,Tryz.ntmps164;go_upto_region 3 with(first
  |(go_at_call 89;refine((TN _ hR).out).mono ?_;rintro e w1 ⟨rfl,hR1,hb1⟩)
  |(go_at_call 90;refine((TD _ hR1).out).mono ?_;rintro e w2 ⟨rfl,hR2,hb2⟩)
  |(go_at_call 91;refine((TM _ hR2).out).mono ?_;rintro e w3 ⟨rfl,hR3,hb3⟩))
 go_cut [] from 17 (fun wx=>RdAt wx rb s4∧Below rb w3 wx)
 case first=>
  obtain⟨a1,c1,a2,c2,k9,k10,hown1,hrb1,hrb2,hneR,hstep⟩:=hR3.U8;obtain⟨g,c,k4,hg1,hg2,kid,_,_,_⟩:=hR3.forCell (k:=s.rows.length) (AX hl3);rw[←NR (AX hl3),ecid] at kid;have HM0:=zz (show(some rb≠Value.ownBlock (.slice a1 s3.calls.length c1))∧(some rb≠Value.ownBlock (.slice a2 s3.wants.length c2)) from⟨fun e=>absurd (hrb1 rb e.symm) (Nat.lt_irrefl _),fun e=>absurd (hrb2 rb e.symm) (Nat.lt_irrefl _)⟩);have HM1:=HM0;have HM2:=HM0;have HM3:=zz (show(some g≠Value.ownBlock (.slice a1 s3.calls.length c1))∧(some g≠Value.ownBlock (.slice a2 s3.wants.length c2)) from⟨(hneR g _ _ k4).1.symm,(hneR g _ _ k4).2.symm⟩);have HF:=zz (show∀b,w3.heap.size≤b→some b≠Value.ownBlock (.slice a1 s3.calls.length c1) from fun b hb e=>absurd (hown1.lt b e.symm).2 (by omega));have HO:=zz hown1;have HSTEP:=zz hstep;have hlt:=hR3.lt;have f9:=hR3.frozen 9;have f10:=hR3.frozen 10;have hHeld:(fun w'=>w'.cell? ⟨rb,4,none⟩=some (.slice (some ⟨g,0,none⟩) s3.rows.length c)∧w'.cell? ⟨rb,9,none⟩=some (.slice a1 s3.calls.length c1)∧w'.cell? ⟨rb,10,none⟩=some (.slice a2 s3.wants.length c2)∧w'.cell? ⟨g,s.rows.length*7,none⟩=some (.int .u64 (cid:Int))) (World.drew w3):=⟨k4,k9,k10,kid⟩;have hi1:(0:Int)≤(s.rows.length:Int):=by omega
  have hi2:(s.rows.length:Int) < (s3.rows.length:Int):=by omega
  have hsm:=ho3.inv.calls;have hfr:=ho3.fin.rows;have hsw:s3.wants.length≤10000000:=by rw[ho3.inv.wants];omega
  have hcat1:¬9223372036854775807 < m.length+1:=by omega
  have hcat2:¬9223372036854775807 < m.length+1+nm.length:=by omega
  have hcat3:¬9223372036854775807 < m.length+(nm.length+1):=by omega
  clear hrb1 hrb2 hneR hstep hown1;refine wp_region_any (by kernel_rfl) ?_;refine wpAny_take (i:=1) (v:= ?_) rfl (by kernel_rfl) (by kernel_rfl) (by kernel_rfl) (fun _ _ _ h=>h) (Or.inl ⟨by rfl, ?_⟩) ?_;rotate_left
  ·(intro w';go_simp;try with_reducible rfl)
  try simp only[Act.put,sA,sB,sC]
  refine FP (S:=fun w'=>w'.cell? ⟨rb,4,none⟩=some (.slice (some ⟨g,0,none⟩) s3.rows.length c)∧w'.cell? ⟨rb,9,none⟩=some (.slice a1 s3.calls.length c1)∧w'.cell? ⟨rb,10,none⟩=some (.slice a2 s3.wants.length c2)∧w'.cell? ⟨g,s.rows.length*7,none⟩=some (.int .u64 (cid:Int))) (n:=26) _ _ _ _ ?_;refine ty [1] 0 ?_;refine ty [1] 2 ?_;refine ty [1] 3 ?_;refine ty [1] 4 ?_;refine ty [1] 5 ?_;refine ty [1] 6 ?_;refine ty [1] 7 ?_;refine ty [1] 8 ?_;refine ty [1] 9 ?_;refine ty [1] 10 ?_;refine ty [1] 11 ?_;refine ty [1] 12 ?_;refine ty [1] 13 ?_;refine ty [1] 16 ?_;refine ty [1] 17 ?_;refine ty [1] 18 ?_;refine ty [1] 19 ?_;refine ty [1] 20 ?_;refine ty [1] 21 ?_;refine ty [1] 22 ?_;refine ty [1] 23 ?_;refine FQ (i:=14) (j:=24) rfl rfl (by kernel_rfl) ?xA ?xB
  case' xA=>
   intro K hK;go_simp;generalize hWa:World.drew (World.alloc _ _)=Wa;have hTa:∀j u,[idV cid][j]? =some u→Wa.cell? ((⟨w3.heap.size,0,none⟩:Addr).add j)=some u:=by rw[←hWa];exact Ao _ _ _
   have hBa:Below w3.heap.size w3 Wa:=by rw[←hWa];exact((AP).alloc AA _).drew
   clear hWa;refine hK.out _ _ (⟨AY hBa AA hHeld.1,AY hBa AA hHeld.2.1,AY hBa AA hHeld.2.2.1,AY hBa AA hHeld.2.2.2⟩) (fun hHeld=> ?_);clear hK K
   try simp only[Act.put,sA,sB,sC]
   refine FQ (i:=15) (j:=24) rfl rfl (by kernel_rfl) ?xC ?xD
  case' xC=>
   intro K hK;have hB0:Below w3.heap.size w3 Wa:=((Below.refl w3.heap.size w3)).trans (hBa.mono AA);refine Az rfl (.tmp 22) (.tmp 31) _ rfl (rb+1) 37 j0 _ 1 8 Tryz.underlying42 hj hj0 hj1 hj2 rfl (by decide) _ _ _ rfl (own_below HO.out hB0 AA) ⟨_,0,none⟩ 1 1 [idV cid] rfl rfl ?_ (by intro u hu;simp only[List.mem_singleton] at hu;subst hu;rfl) ?_ ?_ ?_ ?_
   ·exact hTa
   ·unfold maxLen;omega
   ·omega
   ·have:=hB0.size;omega
   intro v1 Wb ownb gb atb;have hST:=HSTEP.out Wa Wb v1 cid hB0 ownb gb atb;refine hK.out _ _ (⟨gb.cell hHeld.1 HM0.out.1,gb.cell hHeld.2.1 HM1.out.1,gb.cell hHeld.2.2.1 HM2.out.1,gb.cell hHeld.2.2.2 HM3.out.1⟩) (fun hHeld=> ?_);clear hK K
   try simp only[Act.put,sA,sB,sC]
   refine AR (i:=24) rfl (by kernel_rfl) (fun K hK=> ?_);go_simp;generalize hWc:World.alloc _ _=Wc;have hTc:∀j u,[strV (m++32::nm)][j]? =some u→Wc.cell? ((⟨Wb.heap.size,0,none⟩:Addr).add j)=some u:=by rw[←hWc];exact Ao _ _ _
   have hBc:Below Wb.heap.size Wb Wc:=by rw[←hWc];exact(AP).alloc AA _
   clear hWc;refine hK.out _ _ (⟨AY hBc AA hHeld.1,AY hBc AA hHeld.2.1,AY hBc AA hHeld.2.2.1,AY hBc AA hHeld.2.2.2⟩) (fun hHeld=> ?_);clear hK K
   try simp only[Act.put,sA,sB,sC]
   refine AR (i:=25) rfl (by kernel_rfl) (fun K hK=> ?_);have hB2:=hBc;refine Az rfl (.tmp 36) (.tmp 41) _ rfl (rb+1) 9 k0 _ 1 16 Tryz.underlying87 hk hk0 hk1 hk2 rfl (by decide) _ _ _ rfl (hST.1 _ hB2) ⟨_,0,none⟩ 1 1 [strV (m++32::nm)] rfl rfl ?_ (by intro u hu;simp only[List.mem_singleton] at hu;subst hu;rfl) ?_ ?_ ?_ ?_
   ·exact hTc
   ·unfold maxLen;omega
   ·omega
   ·have:=hB0.size;have:=gb.size;have:=hB2.size;omega
   intro v2 Wd ownd gd atd
  case' xD=>
   intro K hK;go_simp;generalize hWc:World.alloc _ _=Wc;have hTc:∀j u,[strV (m++32::nm)][j]? =some u→Wc.cell? ((⟨Wa.heap.size,0,none⟩:Addr).add j)=some u:=by rw[←hWc];exact Ao _ _ _
   have hBc:Below Wa.heap.size Wa Wc:=by rw[←hWc];exact(AP).alloc AA _
   clear hWc;refine hK.out _ _ (⟨AY hBc AA hHeld.1,AY hBc AA hHeld.2.1,AY hBc AA hHeld.2.2.1,AY hBc AA hHeld.2.2.2⟩) (fun hHeld=> ?_);clear hK K
   try simp only[Act.put,sA,sB,sC]
   refine AR (i:=15) rfl (by kernel_rfl) (fun K hK=> ?_);have hB0:Below w3.heap.size w3 Wc:=(((Below.refl w3.heap.size w3)).trans (hBa.mono AA)).trans (hBc.mono (AO AA hBa.size));refine Az rfl (.tmp 22) (.tmp 31) _ rfl (rb+1) 37 j0 _ 1 8 Tryz.underlying42 hj hj0 hj1 hj2 rfl (by decide) _ _ _ rfl (own_below HO.out hB0 AA) ⟨_,0,none⟩ 1 1 [idV cid] rfl rfl ?_ (by intro u hu;simp only[List.mem_singleton] at hu;subst hu;rfl) ?_ ?_ ?_ ?_
   ·intro j u hj;exact AY hBc AA (hTa j u hj)
   ·unfold maxLen;omega
   ·omega
   ·have:=hB0.size;omega
   intro v1 Wb ownb gb atb;have hST:=HSTEP.out Wc Wb v1 cid hB0 ownb gb atb;refine hK.out _ _ (⟨gb.cell hHeld.1 HM0.out.1,gb.cell hHeld.2.1 HM1.out.1,gb.cell hHeld.2.2.1 HM2.out.1,gb.cell hHeld.2.2.2 HM3.out.1⟩) (fun hHeld=> ?_);clear hK K
   try simp only[Act.put,sA,sB,sC]
   refine AR (i:=25) rfl (by kernel_rfl) (fun K hK=> ?_);have hB2:=Below.refl Wb.heap.size Wb;refine Az rfl (.tmp 36) (.tmp 41) _ rfl (rb+1) 9 k0 _ 1 16 Tryz.underlying87 hk hk0 hk1 hk2 rfl (by decide) _ _ _ rfl (hST.1 _ hB2) ⟨_,0,none⟩ 1 1 [strV (m++32::nm)] rfl rfl ?_ (by intro u hu;simp only[List.mem_singleton] at hu;subst hu;rfl) ?_ ?_ ?_ ?_
   ·intro j u hj;exact gb.cell (hTc j u hj) (HF.out _ (by have h0:=hBa.size;unfold Addr.add;split <;>exact h0))
   ·unfold maxLen;omega
   ·omega
   ·have:=hB0.size;have:=gb.size;have:=hB2.size;omega
   intro v2 Wd ownd gd atd
  case' xB=>
   intro K hK;go_simp;generalize hWc:World.drew (World.alloc _ _)=Wc;have hTc:∀j u,[strV (m++32::nm)][j]? =some u→Wc.cell? ((⟨w3.heap.size,0,none⟩:Addr).add j)=some u:=by rw[←hWc];exact Ao _ _ _
   have hBc:Below w3.heap.size w3 Wc:=by rw[←hWc];exact((AP).alloc AA _).drew
   clear hWc;refine hK.out _ _ (⟨AY hBc AA hHeld.1,AY hBc AA hHeld.2.1,AY hBc AA hHeld.2.2.1,AY hBc AA hHeld.2.2.2⟩) (fun hHeld=> ?_);clear hK K
   try simp only[Act.put,sA,sB,sC]
   refine AR (i:=14) rfl (by kernel_rfl) (fun K hK=> ?_);go_simp;generalize hWa:World.alloc _ _=Wa;have hTa:∀j u,[idV cid][j]? =some u→Wa.cell? ((⟨Wc.heap.size,0,none⟩:Addr).add j)=some u:=by rw[←hWa];exact Ao _ _ _
   have hBa:Below Wc.heap.size Wc Wa:=by rw[←hWa];exact(AP).alloc AA _
   clear hWa;refine hK.out _ _ (⟨AY hBa AA hHeld.1,AY hBa AA hHeld.2.1,AY hBa AA hHeld.2.2.1,AY hBa AA hHeld.2.2.2⟩) (fun hHeld=> ?_);clear hK K
   try simp only[Act.put,sA,sB,sC]
   refine AR (i:=15) rfl (by kernel_rfl) (fun K hK=> ?_);have hB0:Below w3.heap.size w3 Wa:=(((Below.refl w3.heap.size w3)).trans (hBc.mono AA)).trans (hBa.mono (AO AA hBc.size));refine Az rfl (.tmp 22) (.tmp 31) _ rfl (rb+1) 37 j0 _ 1 8 Tryz.underlying42 hj hj0 hj1 hj2 rfl (by decide) _ _ _ rfl (own_below HO.out hB0 AA) ⟨_,0,none⟩ 1 1 [idV cid] rfl rfl ?_ (by intro u hu;simp only[List.mem_singleton] at hu;subst hu;rfl) ?_ ?_ ?_ ?_
   ·exact hTa
   ·unfold maxLen;omega
   ·omega
   ·have:=hB0.size;omega
   intro v1 Wb ownb gb atb;have hST:=HSTEP.out Wa Wb v1 cid hB0 ownb gb atb;refine hK.out _ _ (⟨gb.cell hHeld.1 HM0.out.1,gb.cell hHeld.2.1 HM1.out.1,gb.cell hHeld.2.2.1 HM2.out.1,gb.cell hHeld.2.2.2 HM3.out.1⟩) (fun hHeld=> ?_);clear hK K
   try simp only[Act.put,sA,sB,sC]
   refine AR (i:=25) rfl (by kernel_rfl) (fun K hK=> ?_);have hB2:=Below.refl Wb.heap.size Wb;refine Az rfl (.tmp 36) (.tmp 41) _ rfl (rb+1) 9 k0 _ 1 16 Tryz.underlying87 hk hk0 hk1 hk2 rfl (by decide) _ _ _ rfl (hST.1 _ hB2) ⟨_,0,none⟩ 1 1 [strV (m++32::nm)] rfl rfl ?_ (by intro u hu;simp only[List.mem_singleton] at hu;subst hu;rfl) ?_ ?_ ?_ ?_
   ·intro j u hj;exact gb.cell (AY hBa AA (hTc j u hj)) (HF.out _ (by have h0:=Nat.le_refl w3.heap.size;unfold Addr.add;split <;>exact h0))
   ·unfold maxLen;omega
   ·omega
   ·have:=hB0.size;have:=gb.size;have:=hB2.size;omega
   intro v2 Wd ownd gd atd
  all_goals
   have hFIN:=hST.2 _ Wd v2 (m++32::nm) hB2 ownd gd atd;refine hK.out _ _ (⟨gd.cell hHeld.1 HM0.out.2,gd.cell hHeld.2.1 HM1.out.2,gd.cell hHeld.2.2.1 HM2.out.2,gd.cell hHeld.2.2.2 HM3.out.2⟩) (fun hHeld=> ?_);clear hK K
   try simp only[Act.put,sA,sB,sC]
   refine Ag (by kernel_rfl) ?_;simp only[List.drop_succ_cons,List.drop_zero];have hrbk:Wd.heap[rb]? =w3.heap[rb]? :=(gd.block rb (by have:=hB0.size;have:=gb.size;have:=hB2.size;omega) HM0.out.2).trans ((hB2.block rb (by have:=hB0.size;have:=gb.size;omega)).trans ((gb.block rb (by have:=hB0.size;omega) HM0.out.1).trans (hB0.block rb hlt)));have g9:=(World.frozen?_of_block (a:=⟨rb,9,none⟩) hrbk).trans f9;have g10:=(World.frozen?_of_block (a:=⟨rb,10,none⟩) hrbk).trans f10;have FIN:=zz hFIN;obtain⟨d4,d9,d10,dg⟩:=hHeld;obtain⟨q1,z1,rfl⟩:=ownsRow_succ ownb;obtain⟨q2,z2,rfl⟩:=ownsRow_succ ownd;clear hrbk hFIN hST gd gb hB2 hB0 ownd ownb atd atb f9 f10 HO HSTEP HF k4 k9 k10 kid hTa hTc;go_wp2_with fail
   go_meet
   case rel=>exact⟨(by rw[←e4];exact FIN.out.1),FIN.out.2⟩
 case rest=>
  obtain⟨hR4,hb4⟩:=hcut;clear TN TD TM;have hBw:Below rb w wc:=hb1.trans (hb2.below.trans (hb3.below.trans hb4));have hl4:s.rows.length < s4.rows.length:=Ae hl3 g34.len;have hd4:s4.deep≤90:=by rw[hes.deep];exact hdp
  have hd5:s4.deep=s.deep:=hes.deep;clear hb1 hb2 hb3 hb4 hR hR1 hR2 hR3 e3 enm ecid e4 es1 es2 es3;by_cases hb:s4.enter.bad=true
  ·rw[if_pos hb] at he
   injection he with he;have TQ:=fun W h=>zz (JD (rb:=rb) (s:=s4) (w:=W) (b:=false) h ho4 (by rw[hb];rfl));have hdp2:s4.enter.deep=s4.deep+1:=Du _;clear hb
   go_wp2_with (go_at_call 166;refine((TQ _ hR4).out).mono ?_;rintro e w5 ⟨rfl,hR5,hb5⟩;obtain⟨_,c2,_,_,_⟩:=hR5.cell;have f2:=hR5.frozen 2)
   go_end0;rw[←he];exact⟨rfl,hR5.NG (by omega) (by omega),hBw.trans (hb5.setCell (p:=⟨rb,2,none⟩) AA _)⟩
  ·rw[if_neg hb] at he
   have hbf:s4.enter.bad=false:=by simpa using hb
   cases ha:Hg.Rd.args f true (s4.enter.need [40]) s.rows.length with
   |none=>rw[ha] at he;simp at he
   |some s5=>
     rw[ha] at he;injection he with he;have eA:=(Hg.Rd.CF f).2.2 _ _ _ _ ha;have hf5:Fin_ s5:=hf.of (by rw[←he];exact Hg.Rd.DC _);have hoe:Okk s4.enter:=ho4.enter (by omega) ((Hg.Rd.Cg _ _).trans eA.grow) hf5;have hon:Okk (s4.enter.need [40]):=hoe.es (Hg.Rd.Al _ _) eA.grow hf5;have hde:=El hbf;have hdp5:s5.deep=s.deep+1:=by rw[eA.deep,(Hg.Rd.Al _ _).deep,Du,hd5]
     have hdn:(s4.enter.need [40]).deep≤90:=by rw[(Hg.Rd.Al _ _).deep];exact hde
     have hln:s.rows.length < (s4.enter.need [40]).rows.length:=Ae hl4 (by have:=(Hg.Rd.Cg s4.enter [40]).len;rw[Hm] at this;exact this);have TQ:=fun W h=>zz (JD (rb:=rb) (s:=s4) (w:=W) (b:=true) h ho4 (by rw[hbf];rfl));have TD:=fun W h=>zz (Cx (rb:=rb) (s:=s4.enter) (t:=[40]) (w:=W) h hoe);clear hb hbf hoe;generalize s4.enter.need [40]=t0 at*
     go_wp2_with (first
      |(go_at_call 166;refine((TQ _ hR4).out).mono ?_;rintro e w5 ⟨rfl,hR5,hb5⟩)
      |(go_at_call 90;refine((TD _ hR5).out).mono ?_;rintro e w6 ⟨rfl,hR6,hb6⟩))
     go_loopg [8] f (fun k p wr=>Zi rb s.rows.length s5 f w6 k p wr)
     case atStart=>
      exact⟨true,t0,rfl,ha,hR6,hon,hdn,hln,AP,AA⟩
     case round=>
      obtain⟨b,t,rfl,hargs,hRt,hot,hdt,hlt,hBt,hkf⟩:=hrel;have hB6:Below rb w wr:=hBw.trans (hb5.trans (hb6.below.trans hBt));clear hBw hb5 hb6 hR4 hR5 hR6 TQ TD ha hln hdn hon eA;obtain⟨_,c2,c3,_,_⟩:=hRt.cell;have f2:=hRt.frozen 2;cases gk with
      |zero=>simp[Hg.Rd.args] at hargs
      |succ k=>
        rw[Hg.Rd.args] at hargs;by_cases hbad:t.bad=true
        ·rw[if_pos hbad] at hargs
         injection hargs with hargs;subst hargs;rw[hbad] at c3;clear hbad;go_wp2;go_end0;rw[←he];exact⟨rfl,hRt.NG (by omega) (by omega),hB6.setCell (p:=⟨rb,2,none⟩) AA _⟩
        rw[if_neg hbad] at hargs;have hbf:t.bad=false:=by simpa using hbad
        rw[hbf] at c3;clear hbad hbf;by_cases hn:t.next [41]=true
        ·rw[if_pos hn] at hargs
         injection hargs with hargs;have TE:=fun W h=>zz (Ii (rb:=rb) (s:=t) (t:=[41]) (w:=W) h hot hn);rw[hargs] at TE;clear hn
         go_wp2_with (go_at_call 94;refine((TE _ hRt).out).mono ?_;rintro e w7 ⟨rfl,hR7,hb7⟩;obtain⟨_,c2',_,_,_⟩:=hR7.cell;have f2':=hR7.frozen 2)
         go_end0;rw[←he];exact⟨rfl,hR7.NG (by omega) (by omega),(hB6.trans hb7.below).setCell (p:=⟨rb,2,none⟩) AA _⟩
        rw[if_neg hn] at hargs;have hnf:t.next [41]=false:=by simpa using hn
        clear hn;have TE:=fun W h=>zz (KY (rb:=rb) (s:=t) (t:=[41]) (w:=W) h hot hnf);clear hnf;generalize er0:(if b=true then t else t.need [44])=r0 at hargs;have B0:Hg.Rd.Ak t r0:=by rw[←er0];split <;>first|exact Hg.Rd.Ak.refl _|exact Hg.Rd.Al _ _
        cases hx:Hg.Rd.expr k r0 s.rows.length with
        |none=>rw[hx] at hargs;simp at hargs
        |some t1=>
          rw[hx] at hargs;dsimp only at hargs;have ex:=(Hg.Rd.CF k).1 _ _ _ hx;have ey:=(Hg.Rd.CF k).2.2 _ _ _ _ hargs;have hotr:Okk r0:=hot.es B0 (ex.grow.trans ey.grow) hf5;have hot1:Okk t1:=hotr.es ex ey.grow hf5;have BE:=B0.trans ex;have TX:=fun W h=>zz (ihE k (by omega) rb r0 s.rows.length t1 W hx h hotr (by rw[B0.deep];exact hdt) (hf5.of ey.grow) (Ae hlt B0.grow.len));have TM:=fun W h=>zz (Cx (rb:=rb) (s:=t) (t:=[44]) (w:=W) h hot);clear hx;cases b
          case' false=>
           rw[if_neg (by simp)] at er0;rw[er0] at TM
           go_wp2_with (first
            |(go_at_call 94;refine((TE _ hRt).out).mono ?_;rintro e w7 ⟨rfl,hR7,hb7⟩)
            |(go_at_call 90;refine((TM _ hR7).out).mono ?_;rintro e w9 ⟨rfl,hR9,hb9⟩))
           have hB9:=hb7.below.trans hb9.below;clear er0
          case' true=>
           rw[if_pos rfl] at er0;subst er0
           go_wp2_with (go_at_call 94;refine((TE _ hRt).out).mono ?_;rintro e w9 ⟨rfl,hR9,hb9⟩)
           have hB9:=hb9.below
          all_goals
           go_wp2_with (go_at_call 143;refine((TX _ hR9).out).mono ?_;rintro e w8 ⟨rfl,hR8,hb8⟩)
           go_roundg k
           case measure=>omega
           case rel=>exact⟨false,t1,rfl,hargs,hR8,hot1,(by rw[BE.deep];exact hdt),Ae hlt BE.grow.len,hBt.trans (hB9.trans hb8),by omega⟩
def Pp(Z:Nat→Prop)(w:World)(ab mb c:Nat)(M:Nat→Option Hg.Node)(id:Nat)(nd:Hg.Node)(w':World):Prop:=
 EY (fun q=>Z q∨w.heap.size≤q∧q < w'.heap.size) w' ab mb (if (M id).isSome then c else c+1) (putM M id nd)∧w.grownBy w' (some mb)
theorem YB(Z:Nat→Prop)(ab mb c:Nat)(M:Nat→Option Hg.Node)(id:Nat)(nd:Hg.Node)(ka:Option Addr)(kc:Nat)(w:World)(hA:EY Z w ab mb c M)(hid:id < Aj)(hid0:id≠0)(hfull:(M id).isSome=true∨c < 20000)(hc:c≤1000000)
 (hs:Sl w w.heap.size (.slice ka nd.kids.length kc) nd.kids.length (nd.kids.map idV)) (hlen:nd.kids.length≤1000000):
 Calls Tryz.prog 17 #[.pointer (some ⟨ab,0,none⟩),.int .u64 (id:Int),ndV nd ka kc] w fun e w'=>e= .returned (.int .i64 0)∧Pp Z w ab mb c M id nd w':=by
 obtain⟨c0,f0⟩:=hA.read;have hlt:=hA.lt;have hq0:((id:Int)==0)=false:=by simp;omega
 have HA:=zz hA;have HS:=zz hs;have HI:=zz hid;have hb0:Below w.heap.size w (w.alloc (.cells #[.int .u8 (nd.kind:Int),strV nd.name,.int .i64 nd.num,.int .u8 (nd.type:Int),.int .u64 (nd.ref:Int),.slice ka nd.kids.length kc] 44)):=(AP).alloc AA _;obtain⟨k1,c1,hlk,_⟩:=(hA.below hb0 AA).map.Wh hid;clear hA hs hid hid0;have hlen7:∀W,Cc Z W mb c M→(Builtin.len_ #[49] 3 #[.map (some mb)]).run Tryz.prog W= .ok (.int .i64 (c:Int)) W:=by
  rintro W ⟨⟨D,ho,hs,_⟩,_⟩;rw[ho.len Tryz.underlying49 _,hs]
 have hl7:=hlen7 _ ((HA.out.below hb0 AA).map.below ((AP).alloc AA (.cells #[.int .u8 (((M id).getD Hg.Node.zero).kind:Int),strV ((M id).getD Hg.Node.zero).name,.int .i64 ((M id).getD Hg.Node.zero).num,.int .u8 (((M id).getD Hg.Node.zero).type:Int),.int .u64 (((M id).getD Hg.Node.zero).ref:Int),.slice k1 ((M id).getD Hg.Node.zero).kids.length c1] 44)) AA);generalize(M id).getD Hg.Node.zero=n0 at hlk hl7;have HSZ:=zz (show(if (M id).isSome=true then c else c+1)=(if (M id).isSome=true then c else c+1) from rfl);have HF:=zz hfull;have hfin:∀W4,EY (fun q=>Z q∨w.heap.size≤q∧q < W4.heap.size) W4 ab mb (if (M id).isSome=true then c else c+1) (putM M id nd)→w.grownBy W4 (some mb)→Pp Z w ab mb c M id nd W4:=fun W4 h1 h2=>⟨h1,h2⟩;have HFI:=zz hfin;have hful2:(M id).isSome=false→decide ((20000:Int)≤(c:Int))=false:=by
  intro h;rcases HF.out with h'|h'
  ·rw[h] at h';cases h'
  ·simp;omega
 clear hlen7 HF hfull hfin;have hmain:∀s,(M id).isSome=s→Calls Tryz.prog 17 #[.pointer (some ⟨ab,0,none⟩),.int .u64 (id:Int),ndV nd ka kc] w fun e w'=>e= .returned (.int .i64 0)∧Pp Z w ab mb c M id nd w':=by
  intro s hs;rw[hs] at hlk;have hq1:s=false→decide ((20000:Int)≤(c:Int))=false:=fun e=>hful2 (hs.trans e);clear hs hful2;cases s
  case' true=>clear hq1
  case' false=>have hq1:=hq1 rfl
  all_goals
   go_enter Tryz.func17,Tryz.ntmps17;go_upto_region 8 with fail;have hb2:Below w.heap.size w ((w.alloc (.cells #[.int .u8 (nd.kind:Int),strV nd.name,.int .i64 nd.num,.int .u8 (nd.type:Int),.int .u64 (nd.ref:Int),.slice ka nd.kids.length kc] 44)).alloc (.cells #[.int .u8 (n0.kind:Int),strV n0.name,.int .i64 n0.num,.int .u8 (n0.type:Int),.int .u64 (n0.ref:Int),.slice k1 n0.kids.length c1] 44)):=hb0.alloc hb0.size _;have hh0:=heap_alloc2_old w (.cells #[.int .u8 (nd.kind:Int),strV nd.name,.int .i64 nd.num,.int .u8 (nd.type:Int),.int .u64 (nd.ref:Int),.slice ka nd.kids.length kc] 44) (.cells #[.int .u8 (n0.kind:Int),strV n0.name,.int .i64 n0.num,.int .u8 (n0.type:Int),.int .u64 (n0.ref:Int),.slice k1 n0.kids.length c1] 44);have k:=fun i=>AJ _ w.heap.size i _ _ (0,0) hh0;have e0:=k 0;have e1:=k 1;have e2:=k 2;have e3:=k 3;have e4:=k 4;have e5:=k 5;clear k hh0 hlk hl7 hb0;generalize World.alloc (World.alloc w _) _=W2 at hb2 e0 e1 e2 e3 e4 e5⊢;have HA2:=zz (HA.out.below hb2 AA);have HK2:=zz (((HS.out.below hb2 AA).more hb2.size).below ((Below.refl W2.heap.size W2).drew) AA);have hHeld:(fun w'=>w'.cell? ⟨ab,0,none⟩=some (.map (some mb))∧w'.cell? ⟨w.heap.size,0,none⟩=some (.int .u8 (nd.kind:Int))∧w'.cell? ⟨w.heap.size,1,none⟩=some (strV nd.name)∧w'.cell? ⟨w.heap.size,2,none⟩=some (.int .i64 nd.num)∧w'.cell? ⟨w.heap.size,3,none⟩=some (.int .u8 (nd.type:Int))∧w'.cell? ⟨w.heap.size,4,none⟩=some (.int .u64 (nd.ref:Int))∧w'.cell? ⟨w.heap.size,5,none⟩=some (.slice ka nd.kids.length kc)) W2.drew:=⟨(hb2.cell hlt).trans c0,e0,e1,e2,e3,e4,e5⟩;have hsz2:w.heap.size≤W2.heap.size:=hb2.size;have HN:=zz (show∀W3 W4,Below W2.heap.size W2.drew W3→Cc (fun q=>Z q∨w.heap.size≤q∧q < W3.heap.size) W4 mb (if (M id).isSome=true then c else c+1) (putM M id nd)→W3.grownBy W4 (some mb)→Pp Z w ab mb c M id nd W4 from fun W3 W4 h1 h2 h3=>by
    have hb3:Below w.heap.size w W3:=(hb2.drew).trans (h1.mono hb2.size);have hne:ab≠mb:=fun e=>by
     have hc:=HA.out.cell;obtain⟨⟨D,ho,_⟩,_⟩:=HA.out.map;obtain⟨es,ck,hm⟩:=M4 ho;rw[e,hm] at hc;cases hc
    refine HFI.out W4 (EY.imp (Z:=fun q=>Z q∨w.heap.size≤q∧q < W3.heap.size) ⟨?_,h2⟩ (fun q h=>h.imp (fun x=>x) (fun h=>⟨h.1,Ae h.2 h3.size⟩))) ⟨h3.os.trans hb3.os,h3.tape.trans hb3.tape,h3.output.trans hb3.output,AO hb3.size h3.size,fun i hi hne=>(h3.block i (Ae hi hb3.size) hne).trans (hb3.block i hi)⟩;exact(h3.block ab (Ae hlt hb3.size) (fun e=>hne (by injection e))).trans ((hb3.block ab hlt).trans HA.out.cell))
   clear hb2 e0 e1 e2 e3 e4 e5 c0 f0;refine Ay (fun w'=>w'.cell? ⟨ab,0,none⟩=some (.map (some mb))∧w'.cell? ⟨w.heap.size,0,none⟩=some (.int .u8 (nd.kind:Int))∧w'.cell? ⟨w.heap.size,1,none⟩=some (strV nd.name)∧w'.cell? ⟨w.heap.size,2,none⟩=some (.int .i64 nd.num)∧w'.cell? ⟨w.heap.size,3,none⟩=some (.int .u8 (nd.type:Int))∧w'.cell? ⟨w.heap.size,4,none⟩=some (.int .u64 (nd.ref:Int))∧w'.cell? ⟨w.heap.size,5,none⟩=some (.slice ka nd.kids.length kc)) 7 (by kernel_rfl) ?_;refine tz 0 ?_;refine tz 1 ?_;refine tz 2 ?_;refine tz 3 ?_;refine tz 4 ?_;refine tz 5 ?_;refine AR (i:=6) rfl (by kernel_rfl) (fun K hK=> ?_);go_simp;refine(N8 W2.heap.size nd ka kc W2.drew AA HK2.out hlen).mono ?_;rintro e w3 ⟨ka3,kc3,rfl,hs3,hb3,hq3⟩;refine hK.out _ _ (⟨AY hb3 AA hHeld.1,AY hb3 AA hHeld.2.1,AY hb3 AA hHeld.2.2.1,AY hb3 AA hHeld.2.2.2.1,AY hb3 AA hHeld.2.2.2.2.1,AY hb3 AA hHeld.2.2.2.2.2.1,AY hb3 AA hHeld.2.2.2.2.2.2⟩) (fun hHeld=> ?_);clear hK K
   try simp only[Act.put,sA,sB,sC]
   refine Ag (by kernel_rfl) ?_;simp only[List.drop_succ_cons,List.drop_zero];obtain⟨W4,hrun4,hA4,hg4⟩:=(((HA2.out.below ((Below.refl W2.heap.size W2).drew) AA).map.below hb3 AA).imp (Z':=fun q=>Z q∨w.heap.size≤q∧q < w3.heap.size) (fun q h=> .inl h)).store hc (HI.out) nd ka3 kc3 hs3 hlen (fun q hq=> .inr ⟨by have h1:=(hq3 q hq).1;have h2:W2.drew.heap.size=W2.heap.size:=rfl;have h3:=hsz2;omega,(hq3 q hq).2⟩);have HFIN:=zz (HN.out _ _ hb3 hA4 hg4);clear hA4 hg4 hs3 hb3 hq3 hHeld HK2 HA2 HN;go_wp2_with fail;go_ret;exact⟨rfl,HFIN.out⟩
 exact hmain _ rfl
def Dx(M:Nat→Option Hg.Node)(id:Nat)(S:Nat→Prop)(p:Nat)(k:Int):Prop:=
 (p=0∧k=0∧∀i nd,S i→M i=some nd→idxI nd.kids id < 0)∨
 (p≠0∧S p∧(∃nd,M p=some nd∧idxI nd.kids id=k∧0≤k)∧∀i nd,S i→M i=some nd→0≤idxI nd.kids id→p≤i)
theorem Dx.skip{M:Nat→Option Hg.Node}{id:Nat}{S S':Nat→Prop}{p:Nat}{k:Int}(h:Dx M id S p k){x:Nat}{nx:Hg.Node}(hx:M x=some nx)(hS:∀i,S' i↔S i∨i=x)
 (hk:idxI nx.kids id < 0∨(p≠0∧p≤x)):Dx M id S' p k:=by
 rcases h with⟨h1,h2,h3⟩|⟨h1,h2,h3,h4⟩
 ·left
  refine⟨h1,h2,fun i nd hi hn=> ?_⟩;rcases(hS i).1 hi with h|h
  ·exact h3 i nd h hn
  ·subst h
   rw[hx] at hn;injection hn with hn;subst hn;rcases hk with hk|hk
   ·exact hk
   ·exact absurd h1 hk.1
 ·right
  refine⟨h1,(hS p).2 (.inl h2),h3,fun i nd hi hn h0=> ?_⟩;rcases(hS i).1 hi with h|h
  ·exact h4 i nd h hn h0
  ·subst h
   rw[hx] at hn;injection hn with hn;subst hn;rcases hk with hk|hk
   ·omega
   ·exact hk.2
theorem Dx.take{M:Nat→Option Hg.Node}{id:Nat}{S S':Nat→Prop}{p:Nat}{k:Int}(h:Dx M id S p k){x:Nat}{nx:Hg.Node}(hx:M x=some nx)(hx0:x≠0)(hS:∀i,S' i↔S i∨i=x)
 (hk:0≤idxI nx.kids id) (hp:p=0∨x < p):Dx M id S' x (idxI nx.kids id):=by
 right;refine⟨hx0,(hS x).2 (.inr rfl),⟨nx,hx,rfl,hk⟩,fun i nd hi hn h0=> ?_⟩;rcases(hS i).1 hi with h'|h'
 ·rcases h with⟨h1,h2,h3⟩|⟨h1,h2,h3,h4⟩
  ·have:=h3 i nd h' hn;omega
  ·have:=h4 i nd h' hn h0
   rcases hp with hp|hp
   ·exact absurd hp h1
   ·omega
 ·omega
def Vi(w:World)(M:Nat→Option Hg.Node)(id:Nat)(e:Ending)(w':World):Prop:=
 ∃p k,Dx M id (fun i=>i < Aj) p k∧p < Aj∧e= .returned (.tuple #[.int .u64 (p:Int),.int .i64 k])∧Below w.heap.size w w'
theorem Na{w:World}{D:DataW Value}{M:Nat→Option Hg.Node}(hk:∀id,id < Aj→Xn w D id (M id)){x:Int}{c:Value}{kl:Lit}{y:DataW Value}{ps:List MemPlace}
 (h1:keyOf Tryz.prog 37 (.int .u64 x)=some kl) (h2:rawR c=some (y,ps)) (h3:∀zd,D.atKey kl zd=y):
 ∃(i:Nat) (nd:Hg.Node) (ka:Option Addr) (kc:Nat),x=(i:Int)∧i < Aj∧kl=idL i∧M i=some nd∧c=ndV nd ka kc∧Sl w w.heap.size (.slice ka nd.kids.length kc) nd.kids.length (nd.kids.map idV):=by
 obtain⟨x',e1,e2,hw⟩:=Maps.keyOf_int_inv Tryz.underlying37 h1;injection e1 with _ e1;subst e1;have hw':0≤x∧x≤18446744073709551615:=by
  have m1:IntKind.u64.min=0:=rfl;have m2:IntKind.u64.max=18446744073709551615:=rfl;simpa[Lit.wf,m1,m2] using hw
 obtain⟨i,rfl⟩:=Int.eq_ofNat_of_zero_le hw'.1;have hi:i < Aj:=by unfold Aj;omega
 have hx:=hk i hi;have hkl:kl=idL i:=e2;simp only[rawR,Option.some.injEq,Prod.mk.injEq] at h2;obtain⟨h2,_⟩:=h2;subst h2;cases hM:M i with
 |none=>
   rw[hM] at hx;have:=Maps.has_true_of_atKey h3;rw[hkl,show Maps.has D (idL i)=false from hx] at this;cases this
 |some nd=>
   rw[hM] at hx;obtain⟨ka,kc,g1,g2,_⟩:=hx;have g:=g1 (.held c);rw[←hkl,h3] at g;refine⟨i,nd,ka,kc,rfl,hi,hkl,hM, ?_,g2⟩;simpa using g
theorem LB{left:Lit→Bool}{i j:Nat}(hi:i < Aj)(hj:j < Aj):(left (idL j) && !(idL j).sameKey (idL i))=false↔left (idL j)=false∨j=i:=by
 by_cases e:j=i
 ·subst e
  rw[WideAt.sameKey_self (BM.key (BZ hj))];simp
 ·rw[Maps.sameKey_ne (PY e)]
  simp[e]
theorem Kj(ab mb c:Nat)(M:Nat→Option Hg.Node)(id:Nat)(w:World)(hA:ArAt w ab mb c M)(hM0:M 0=none):
 Calls Tryz.prog 105 #[.pointer (some ⟨ab,0,none⟩),.int .u64 (id:Int)] w (Vi w M id):=by
 obtain⟨c0,f0⟩:=hA.read;have HA:=zz hA;obtain⟨⟨D,ho,hc,hk⟩,hbd⟩:=hA.map;have HK:=zz hk;have HBD:=zz hbd;have HM0:=zz hM0;clear hA hk hbd hM0 f0 hc;go_enter Tryz.func105,Tryz.ntmps105
 go_wp2_with (at_range;refine wpList_range_own _ rfl (.tmp 16) 49 rfl 37 44 BM Tryz.underlying49 rawR mb c D rfl ho ?_;intro w0 hrg0 hg0 hs0)
 go_frame
 have hb0:=GJ hg0;clear hg0 c0
 go_loopw [6,7] (fun p k wr=>∃(pn:Nat) (kn:Int) (left:Lit→Bool) (cnt:Nat),p= .int .u64 (pn:Int)∧k= .int .i64 kn∧pn < Aj∧wr.ranges Tryz.prog 37 rawR mb w.heap.size c D left cnt∧Dx M id (fun i=>i < Aj∧left (idL i)=false) pn kn∧Below w.heap.size w wr) (fun _ _ wr=>wr.rangeLeft mb w.heap.size)
 case atStart=>
  refine⟨0,0,_,_,rfl,rfl,by decide,hrg0,.inl ⟨rfl,rfl,fun i nd hi hn=> ?_⟩,hb0⟩;have hi:i < Aj∧Maps.has D (idL i)=false:=hi;have hx:=HK.out i hi.1;rw[hn] at hx;obtain⟨_,_,g1,_⟩:=hx;rw[Maps.has_true_of_atKey g1] at hi;cases hi.2
 case round=>
  obtain⟨pn,kn,left,cnt,rfl,rfl,hpt,hrg,hpar,hbw⟩:=hrel;clear hrg0 hb0 hs0 ho;have HPT:=zz hpt;have HP:=zz hpar;clear hpt hpar
  go_wp2_with (at_next;refine wpList_next_ranges (α:=Int) (β:=Value) _ rfl (.tmp 17) rfl 37 BM rawR (Value.int .u64) (fun v=>v) (fun key kl hkey=>by obtain⟨x,rfl,_⟩:=Maps.keyOf_int_inv Tryz.underlying37 hkey;exact⟨x,rfl⟩) (fun v y hv=>⟨v,rfl⟩) mb w.heap.size c D left cnt rfl hrg ?_ ?_)
  ·intro h0 hl
   have hfun:(fun i=>i < Aj∧left (idL i)=false)=fun i=>i < Aj:=by
    funext i
    rw[hl];simp
   have HP2:=zz (hfun ▸ HP.out);clear hl hfun h0 hrg HP;go_wp2;go_ret2;exact⟨pn,kn,HP2.out,HPT.out,rfl,hbw⟩
  ·intro x cv kl y ps w1 cnt1 hkx hlx hrx hax hrg1 hlt1 hg1 hs1 hen
   obtain⟨i,nd,ka,kc,rfl,hi,rfl,hMi,rfl,hsl⟩:=Na HK.out hkx hrx hax;have hrlt:=hrg.lt;have hle:=hrg.left_eq;have hb1:Below w.heap.size w w1:=hbw.grown hg1 (by omega) (fun k hk=>by injection hk with hk;omega);have hi0:i≠0:=fun e=>by have:=HM0.out;rw[←e,hMi] at this;cases this
   have hlen:=HBD.out i nd hMi;have HS:∀j,(j < Aj∧(left (idL j) && !(idL j).sameKey (idL i))=false)↔(j < Aj∧left (idL j)=false)∨j=i:=by
    intro j;constructor
    ·rintro⟨h1,h2⟩
     rcases(LB hi h1).1 h2 with h3|h3
     ·exact .inl ⟨h1,h3⟩
     ·exact .inr h3
    ·rintro(⟨h1,h2⟩|h1)
     ·exact⟨h1,(LB hi h1).2 (.inl h2)⟩
     ·subst h1;exact⟨hi,(LB hi hi).2 (.inr rfl)⟩
   have HSK:=zz HS;have HSL:=zz hsl;have HMI:=zz hMi;have HR1:=zz hrg1;have HLE:=zz hle;have HIT:=zz hi;have HI0:=zz hi0;clear hkx hlx hrx hax hrg hg1 hsl hMi HS hrg1 hle hi hi0;have hnb:∀z,Below w.heap.size w (w1.alloc (.cells z 44)):=fun z=>hb1.alloc hb1.size _;have TI:=zz (fun W (h:Below w.heap.size w W)=>Oe w.heap.size _ nd.kids id W (HSL.out.below h AA) hlen);have hend:∀z,(w1.alloc (.cells z 44)).ranges Tryz.prog 37 rawR mb w.heap.size c D (fun z=>left z && !z.sameKey (idL i)) cnt1:=fun z=>HR1.out.alloc _;have HE:=zz hend;have HNB:=zz hnb;have hskip:idxI nd.kids id < 0∨(pn≠0∧pn≤i)→Dx M id (fun j=>j < Aj∧(left (idL j) && !(idL j).sameKey (idL i))=false) pn kn:=fun h=>HP.out.skip HMI.out HSK.out h;have htake:0≤idxI nd.kids id→(pn=0∨i < pn)→Dx M id (fun j=>j < Aj∧(left (idL j) && !(idL j).sameKey (idL i))=false) i (idxI nd.kids id):=fun h k=>HP.out.take HMI.out HI0.out HSK.out h k;have HSKIP:=zz hskip;have HTAKE:=zz htake;generalize idxI nd.kids id=q at TI HSKIP HTAKE;clear hnb hend hskip htake hlen HP HSK HI0;by_cases hq:0≤q
   ·have hq1:decide (0≤q)=true:=by simpa using hq
    by_cases hp0:pn=0
    ·have ht:=zz (HTAKE.out hq (.inl hp0))
     have hp1:((pn:Int)==0)=true:=by simp[hp0]
     have HP0:=zz hp0;have HQ:=zz hq;clear hp0 hq HSKIP HTAKE
     go_wp2_with (go_at_call 108;refine(TI.out _ (HNB.out _)).mono ?_;rintro e w2 ⟨rfl,rfl⟩)
     go_roundw
     case rel=>exact⟨i,q,_,cnt1,rfl,rfl,HIT.out,HE.out _,ht.out,HNB.out _⟩
     case measure=>rw[(HE.out _).left_eq,HLE.out];exact hlt1
    ·by_cases hip:i < pn
     ·have ht:=zz (HTAKE.out hq (.inr hip))
      have hp1:((pn:Int)==0)=false:=by simp;omega
      have hp2:decide ((i:Int) < (pn:Int))=true:=by simpa using hip
      have hp3:decide (i < pn)=true:=by simpa using hip
      have HP0:=zz hp0;have HQ:=zz hq;have HIP:=zz hip;clear hp0 hq hip HSKIP HTAKE
      go_wp2_with (go_at_call 108;refine(TI.out _ (HNB.out _)).mono ?_;rintro e w2 ⟨rfl,rfl⟩)
      go_roundw
      case rel=>exact⟨i,q,_,cnt1,rfl,rfl,HIT.out,HE.out _,ht.out,HNB.out _⟩
      case measure=>rw[(HE.out _).left_eq,HLE.out];exact hlt1
     ·have ht:=zz (HSKIP.out (.inr ⟨hp0,by omega⟩))
      have hp1:((pn:Int)==0)=false:=by simp;omega
      have hp2:decide ((i:Int) < (pn:Int))=false:=by simp;omega
      have hp3:decide (i < pn)=false:=by simp;omega
      have HP0:=zz hp0;have HQ:=zz hq;have HIP:=zz hip;clear hp0 hq hip HSKIP HTAKE
      go_wp2_with (go_at_call 108;refine(TI.out _ (HNB.out _)).mono ?_;rintro e w2 ⟨rfl,rfl⟩)
      go_roundw
      case rel=>exact⟨pn,kn,_,cnt1,rfl,rfl,HPT.out,HE.out _,ht.out,HNB.out _⟩
      case measure=>rw[(HE.out _).left_eq,HLE.out];exact hlt1
   ·have ht:=zz (HSKIP.out (.inl (by omega)))
    have hq1:decide (0≤q)=false:=by simp;omega
    have HQ:=zz hq;clear hq HSKIP HTAKE
    go_wp2_with (go_at_call 108;refine(TI.out _ (HNB.out _)).mono ?_;rintro e w2 ⟨rfl,rfl⟩)
    go_roundw
    case rel=>exact⟨pn,kn,_,cnt1,rfl,rfl,HPT.out,HE.out _,ht.out,HNB.out _⟩
    case measure=>rw[(HE.out _).left_eq,HLE.out];exact hlt1
inductive JX (M:Nat→Option Hg.Node) (kind:Nat):Nat→Nat→Prop
 |zero:JX M kind 0 0
 |none (id:Nat) (h:M id=none):JX M kind id 0
 |hit (id:Nat) (n:Hg.Node) (h0:id≠0) (h:M id=some n) (hk:n.kind=kind):JX M kind id id
 |step (id:Nat) (n:Hg.Node) (p:Nat) (k:Int) (r:Nat) (h0:id≠0) (h:M id=some n) (hk:n.kind≠kind) (hp:Dx M id (fun i=>i < Aj) p k) (hr:JX M kind p r):JX M kind id r
theorem Dx.unique{M:Nat→Option Hg.Node}{id:Nat}{S:Nat→Prop}{p p':Nat}{k k':Int}(h:Dx M id S p k)(h':Dx M id S p' k'):p=p'∧k=k':=by
 rcases h with⟨h1,h2,h3⟩|⟨h1,h2,⟨nd,hn,h3,h5⟩,h4⟩
 ·rcases h' with⟨g1,g2,g3⟩|⟨g1,g2,⟨nd',hn',g3,g5⟩,g4⟩
  ·exact⟨h1.trans g1.symm,h2.trans g2.symm⟩
  ·have:=h3 p' nd' g2 hn';omega
 ·rcases h' with⟨g1,g2,g3⟩|⟨g1,g2,⟨nd',hn',g3,g5⟩,g4⟩
  ·have:=g3 p nd h2 hn;omega
  ·have a1:=h4 p' nd' g2 hn' (by omega)
   have a2:=g4 p nd h2 hn (by omega);have e:p=p':=by omega
   subst e;rw[hn] at hn';injection hn' with hn';subst hn';exact⟨rfl,h3.symm.trans g3⟩
def Gj(w:World)(sb n cur:Nat):Prop:=∃D,w.ownsMap Tryz.prog 37 rawR sb n D∧∀j,j≤cur→Maps.has D (idL j)=false
theorem Gj.look{w:World}{sb n cur:Nat}(h:Gj w sb n cur)(hc:cur < Aj):(Instr.lookup 156 (.map (some sb)) (.int .u64 (cur:Int)) false).run Tryz.prog w= .ok (.bool false) w:=by
 obtain⟨D,ho,hs⟩:=h;have hz:(zeroValue 4).run Tryz.prog w= .ok (.bool false) w:=by kernel_rfl
 obtain⟨v,ps,hrun,hv⟩:=ho.lookup BM Tryz.underlying156 hz (zd:= .held (.bool false)) (zp:=[]) rfl (BZ hc);rw[Maps.atKey_of_not_has (hs cur AA)] at hv;simp only[rawR,Option.some.injEq,Prod.mk.injEq] at hv;have e:v= .bool false:=by simpa using hv.1
 rw[hrun,e]
theorem Gj.put{w:World}{sb n cur:Nat}(h:Gj w sb n cur)(hc:cur < Aj)(hn:n≤1000000000)(p:Nat)(hp:p < cur):
 ∃w',(Instr.mapUpdate 156 (.map (some sb)) (.int .u64 (cur:Int)) (.bool true)).run Tryz.prog w= .ok () w'∧Gj w' sb (n+1) p∧w.grownBy w' (some sb):=by
 obtain⟨D,ho,hs⟩:=h;obtain⟨w',hrun,ho',hg⟩:=ho.update BM Tryz.underlying156 (by unfold maxLen;omega) (BZ hc) (val:= .bool true) (d:= .held (.bool true)) (ps:=[]) rfl;refine⟨w',hrun,⟨_,ho',fun j hj=> ?_⟩,hg⟩;rw[Maps.has_put_other (PY (by omega))];exact hs j (by omega)
theorem Gj.below{w w':World}{sb n cur B:Nat}(h:Gj w sb n cur)(hb:Below B w w')(hB:w.heap.size≤B):Gj w' sb n cur:=by
 obtain⟨D,ho,hs⟩:=h;exact⟨D,ho.kept (below_grown (hb.mono hB) none) (by simp),hs⟩
theorem Gj.lt{w:World}{sb n cur:Nat}(h:Gj w sb n cur):sb < w.heap.size:=by
 obtain⟨D,ho,_⟩:=h;exact ho.lt
theorem Vg(ab mb c:Nat)(M:Nat→Option Hg.Node)(kind id r:Nat)(w:World)(hA:ArAt w ab mb c M)(hM0:M 0=none)(hid:id≤1000000)(hkind:∀i n,M i=some n→n.kind≤255)(hk255:kind≤255)
 (hdec:∀i n p k,M i=some n→Dx M i (fun i=>i < Aj) p k→p < i∨p=0) (hch:JX M kind id r):
 Calls Tryz.prog 109 #[.pointer (some ⟨ab,0,none⟩),.int .u64 (id:Int),.int .u8 (kind:Int)] w fun e w'=>e= .returned (.int .u64 (r:Int))∧Below w.heap.size w w':=by
 have hmm:= @run_makeMap Tryz.prog;have hlt:=hA.lt;have HA:=zz hA;have HM0:=zz hM0;have HDEC:=zz hdec;have HCH:=zz hch;have HKD:=zz hkind;clear hA hM0 hdec hch hkind;go_enter Tryz.func109,Tryz.ntmps109;go_wp2;have hb0:Below w.heap.size w (w.alloc (.map #[] 0)):=(AP).alloc AA _;have hs0:Gj (w.alloc (.map #[] 0)) w.heap.size 0 id:=⟨.map [],World.ownsMap_made w _ _ _,fun j _=>rfl⟩;clear hmm
 go_loopw [1] (fun p wr=>∃(cur n:Nat),p= .int .u64 (cur:Int)∧cur≤1000000∧n+cur≤2000000∧Gj wr w.heap.size n cur∧JX M kind cur r∧Below w.heap.size w wr) (fun p wr=>(intOf p).toNat)
 case atStart=>exact⟨id,0,rfl,hid,by omega,hs0,HCH.out,hb0⟩
 case round=>
  obtain⟨cur,n,rfl,hc6,hn6,hset,hch,hbw⟩:=hrel;have HS:=zz hset;have hsb:=hset.lt;have hct:cur < Aj:=by unfold Aj;omega
  clear hb0 hs0 hset HCH;by_cases h0:cur=0
  ·subst h0
   have hr0:r=0:=by
    cases hch with
    |zero=>rfl
    |none _ _=>rfl
    |hit _ _ h0 _ _=>exact absurd rfl h0
    |step _ _ _ _ _ h0 _ _ _ _=>exact absurd rfl h0
   subst hr0;clear hch;go_wp2;go_ret;exact⟨rfl,hbw⟩
  ·have hq0:((cur:Int)==0)=false:=by simp;omega
   have hq0':((cur:Int) !=0)=true:=by simp;omega
   have hlk:=HS.out.look hct;have hB:w.heap.size≤wr.heap.size:=hbw.size;have TG:=YX ab mb c M cur wr (HA.out.below hbw AA) hct;have HQ:=zz h0;clear h0;cases hM:M cur with
   |none=>
     have hr0:r=0:=by
      cases hch with
      |zero=>rfl
      |none _ _=>rfl
      |hit _ n _ h _=>rw[hM] at h;cases h
      |step _ n _ _ _ _ h _ _ _=>rw[hM] at h;cases h
     subst hr0;rw[hM] at TG;have TG:=zz TG;clear hch hM;go_wp2_with fail;refine TG.out.mono ?_;rintro e w1 ⟨ka,kc,rfl,hs1,hb1⟩;simp only[Option.getD_none,Option.isSome_none];have hb1':=hbw.trans (hb1.mono hB);clear hs1 hb1 hlk;go_wp2;go_ret;exact⟨rfl,hb1'.alloc hb1'.size _⟩
   |some nd=>
     rw[hM] at TG;have TG:=zz TG;have hkn:=HKD.out cur nd hM;by_cases hk:nd.kind=kind
     ·have hr0:r=cur:=by
       cases hch with
       |zero=>exact absurd rfl HQ.out
       |none _ h=>rw[hM] at h;cases h
       |hit _ n _ h _=>rfl
       |step _ n _ _ _ _ h hk2 _ _=>rw[hM] at h;injection h with h;subst h;exact absurd hk hk2
      subst hr0;have hk1:((nd.kind:Int)==(kind:Int))=true:=by simp[hk]
      clear hch hM hk;go_wp2_with fail;refine TG.out.mono ?_;rintro e w1 ⟨ka,kc,rfl,hs1,hb1⟩;simp only[Option.getD_some,Option.isSome_some];have hb1':=hbw.trans (hb1.mono hB);clear hs1 hb1 hlk;go_wp2;go_ret;exact⟨rfl,hb1'.alloc hb1'.size _⟩
     ·have hst:∃p k,Dx M cur (fun i=>i < Aj) p k∧JX M kind p r:=by
       cases hch with
       |zero=>exact absurd rfl HQ.out
       |none _ h=>rw[hM] at h;cases h
       |hit _ n _ h hk2=>rw[hM] at h;injection h with h;subst h;exact absurd hk2 hk
       |step _ n p k _ _ h _ hp hr=>exact⟨p,k,hp,hr⟩
      obtain⟨p,k,hp,hr⟩:=hst;have hpc:p < cur:=by
       rcases HDEC.out cur nd p k hM hp with h|h
       ·exact h
       ·have:=HQ.out;omega
      have HP:=zz hp;have HR:=zz hr;have hk1:((nd.kind:Int)==(kind:Int))=false:=by simp;omega
      clear hch hM hk hp hr;go_wp2_with fail;refine TG.out.mono ?_;rintro e w1 ⟨ka,kc,rfl,hs1,hb1⟩;simp only[Option.getD_some,Option.isSome_some];have hb1':=hbw.trans (hb1.mono hB);have hset2:Gj (w1.alloc (.cells #[.int .u8 (nd.kind:Int),strV nd.name,.int .i64 nd.num,.int .u8 (nd.type:Int),.int .u64 (nd.ref:Int),.slice ka nd.kids.length kc] 44)) w.heap.size n cur:=
       (HS.out.below hb1 AA).below ((AP).alloc AA _) AA
      obtain⟨W2,hrun2,hset3,hg2⟩:=hset2.put hct (by omega) p hpc;have hb2:Below w.heap.size w W2:=(hb1'.alloc hb1'.size _).grown hg2 (by have:=hb1'.size;simp;omega) (fun k hk=>by injection hk with hk;omega);have HS3:=zz hset3;have TP:=zz (Kj ab mb c M cur W2 (HA.out.below hb2 AA) HM0.out);have hB2:=hb2.size;clear hs1 hb1 hlk hset2 hg2 hset3;go_wp2_with fail;refine TP.out.mono ?_;rintro e w3 ⟨p',k',hp',_,rfl,hb3⟩;obtain⟨rfl,rfl⟩:=HP.out.unique hp';have HS4:=zz (HS3.out.below hb3 AA);have hb4:=hb2.trans (hb3.mono hB2);clear hrun2 hp' hb3;go_wp2;go_roundw
      case rel=>exact⟨p,n+1,rfl,by omega,by omega,HS4.out,HR.out,hb4⟩
      case measure=>simp[intOf];omega
end Go.Proofs.YtijhlanclfajiaaGreatDoor
namespace Go.Proofs.YtijhlanclfajiaaGreatDoor
open Go.RowKit
open Hg (Cq)
def tabC(rows:List Hg.Row):Nat→Option Hg.Node:=fun i=>if i=0 then none else(rows[i-1]?).map (·.node)
theorem X0{rows:List Hg.Row}{k:Nat}{r:Hg.Row}(h:rows[k]? =some r):tabC rows (k+1)=some r.node:=by
 unfold tabC;rw[if_neg (by omega),Nat.add_sub_cancel,h];rfl
def Ez(x:List Hg.Row)(j:Nat):Nat→Option Hg.Node:=if j=0 then WF else tabC (x.take j)
theorem Um{x:List Hg.Row}{j:Nat}{r:Hg.Row}(h:x[j]? =some r):putM (Ez x j) (j+1) r.node=Ez x (j+1):=by
 have hj:j < x.length:=(Af.1 h).1
 funext i
 unfold Ez;rw[if_neg (show¬j+1=0 by omega)];unfold putM;by_cases hi:i=j+1
 ·rw[if_pos hi,hi]
  exact(X0 (by rw[List.getElem?_take_of_lt (by omega)];exact h)).symm
 ·rw[if_neg hi]
  by_cases hj0:j=0
  ·subst hj0
   rw[if_pos rfl];unfold WF putM tabC;rw[if_neg (by omega)];by_cases h0:i=0
   ·rw[if_pos h0]
   ·rw[if_neg h0,List.getElem?_eq_none (by rw[List.length_take];omega)]
    rfl
  ·rw[if_neg hj0]
   unfold tabC;by_cases h0:i=0
   ·rw[if_pos h0,if_pos h0]
   ·rw[if_neg h0,if_neg h0]
    by_cases hlt:i-1 < j
    ·rw[List.getElem?_take_of_lt hlt,List.getElem?_take_of_lt (by omega)]
    ·rw[List.getElem?_eq_none (by rw[List.length_take];omega),List.getElem?_eq_none (by rw[List.length_take];omega)]
theorem RS(x:List Hg.Row)(j:Nat):(Ez x j (j+1)).isSome=decide (j=0):=by
 unfold Ez;by_cases hj:j=0
 ·subst hj;rfl
 ·rw[if_neg hj]
  unfold tabC;rw[if_neg (by omega),Nat.add_sub_cancel,List.getElem?_eq_none (by rw[List.length_take];omega)]
  simp[hj]
theorem Q5:∀(x:List Hg.Row) (a i:Nat),Cq a x→x.find? (fun r=>r.id==i)=if a≤i then x[i-a]? else none
 |[],a,i,_=>by simp
 |r::x,a,i,h=>by
   have h0:=h.head;rw[List.find?_cons,Q5 x (a+1) i h.tail];by_cases e:a=i
   ·subst e
    simp[h0]
   ·have hb:(r.id==i)=false:=by rw[h0];simpa using e
    rw[hb];by_cases hl:a≤i
    ·rw[if_pos hl,if_pos (by omega),show i-a=(i-(a+1))+1 by omega]
     simp
    ·rw[if_neg hl,if_neg (by omega)]
def WC(x:List Hg.Row):Nat→Option Hg.Node:=fun id=>(x.find? (fun r=>r.id==id)).map Hg.Row.node
theorem Nj{x:List Hg.Row}(h:Cq 1 x)(h0:x≠[]):Ez x x.length=WC x:=by
 unfold Ez;rw[if_neg (by cases x with|nil=>exact absurd rfl h0|cons a l=>simp),List.take_length]
 funext i
 unfold tabC WC;rw[Q5 x 1 i h];by_cases e:i=0
 ·rw[if_pos e,if_neg (by omega)];rfl
 ·rw[if_neg e,if_pos (by omega)]
end Go.Proofs.YtijhlanclfajiaaGreatDoor
namespace Hg
def KT(s:Str):List Row:=if (CE (s.take 900)).2≠0 then[⟨1,⟨1,[],0,0,0,[]⟩⟩] else(CE (s.take 900)).1
structure Tg (l:List Row):Prop where
 tr:Tr l
 len:l.length≤20000
 nk:∀r∈l,Nk 900 r.node
 rf:∀r∈l,r.node.ref≤30000
 pos:0 < l.length
theorem Jk(s:Str):Tg (KT s):=by
 unfold KT;split
 ·refine⟨Rd.P9 _ rfl rfl,by decide,fun r hr=> ?_,fun r hr=> ?_,by decide⟩
  all_goals
   rw[List.mem_singleton] at hr;subst hr
  ·exact⟨by decide,by decide,by decide⟩
  ·decide
 ·obtain⟨h1,h2⟩:=Mx (s.take 900)
  rename_i h0
  refine⟨?_,h2,fun r hr=> ?_,fun r hr=>AO (WL _ r hr) (AO h2 (by decide)),Uq _ (Classical.not_not.1 h0)⟩
  ·rcases h1 with h1|h1
   ·rw[h1];exact⟨fun k r h=>(by cases h),fun k r h=>(by cases h),List.Perm.refl _,fun k r h=>(by cases h),fun r h=>(by cases h)⟩
   ·exact h1
  ·have h3:=QX (s.take 900) r hr
   have hl:(s.take 900).length≤900:=by rw[List.length_take];omega
   exact⟨h3.1,h3.2.1,by have:=h3.2.2;omega⟩
end Hg
namespace Go.Proofs.YtijhlanclfajiaaGreatDoor
open Go.RowKit
open Hg (KT Tg Cq)
theorem Tg.rok{l:List Hg.Row}(h:Tg l):Rok l:=by
 have h1:=h.len;refine⟨by omega,by rw[h.tr.sum];omega,fun j r hr=> ?_,fun j r hr=> ?_,fun j r hr=> ?_,fun j r hr=> ?_⟩
 all_goals have hm:=List.mem_of_getElem? hr
 ·have:=h.tr.kids r hm;omega
 ·have:=(h.nk r hm).1;omega
 ·have:=(h.nk r hm).2.2;omega
 ·exact(h.nk r hm).2.1
theorem QR{l:List Hg.Row}(h:Tg l)(B:Nat)(v:Value)(w:World)(hB:B≤w.heap.size)(hx:Aw w B v l):
 ∃r,Hg.D5 l=some r∧Calls Tryz.prog 9 #[v] w fun e w'=>e= .returned (.int .i64 (r:Int))∧Below w.heap.size w w':=by
 obtain⟨r,hr⟩:=Hg.Gw l;have hrok:=Tg.rok h;have hl:=h.len;have hkn:∀x,(Hg.AL l x).kids.length≤4000000:=by
  intro x;cases hk:Hg.atI l x with
  |none=>rw[Hg.Cw _ x hk];simp[Hg.Node.zero]
  |some k=>rw[Hg.DR _ x k hk];have:=h.tr.kids _ (List.mem_of_getElem? (D6 hk));omega
 have hz:∀x,∀k∈(Hg.AL l x).kids,k≠0:=fun x k hk=>h.tr.kid0 x k hk;refine⟨r,hr,Ru B v _ w hB hx hrok (fun W al hW hX hsh hal=> ?_) r hr⟩;refine Xb B v _ W hW hX hrok.len hrok.sum hkn hz (fun id wb al vi W' hwb hid hX' hWk hvis=> ?_) al hal;exact LZ B wb v _ id hrok.len hwb hkn (QL hsh) hz 201 id (.slice none 0 0) [] al vi W' hid hX' (Sl.nil _ _) (by simp[Value.ownBlock]) (by simp) hWk hvis
theorem Tg.ids{l:List Hg.Row}(h:Tg l):Cq 1 l:=fun k r hr=>by have:=h.tr.rid k r hr;omega
end Go.Proofs.YtijhlanclfajiaaGreatDoor
namespace Hg
theorem J6{l:List Row}{k:Nat}(hk:k < l.length){n:Node}(h1:n.kind=l[k].node.kind)(h2:n.kids.Perm l[k].node.kids){j:Nat}{r:Row}(hr:(l.set k ⟨k+1,n⟩)[j]? =some r)(hid:∀(k:Nat) (r:Row),l[k]? =some r→r.id=k+1):
 ∃r0,l[j]? =some r0∧r.node.kind=r0.node.kind∧(∀c,c∈r.node.kids↔c∈r0.node.kids)∧r.id=j+1:=by
 by_cases e:k=j
 ·subst e
  rw[List.getElem?_set_self hk] at hr;injection hr with hr;subst hr;exact⟨l[k],AX hk,h1,fun c=>h2.mem_iff,rfl⟩
 ·rw[List.getElem?_set_ne e] at hr
  exact⟨r,hr,rfl,fun c=>Iff.rfl,hid j r hr⟩
theorem Tr.set{l:List Row}(h:Tr l){k:Nat}(hk:k < l.length){n:Node}(h1:n.kind=l[k].node.kind)(h2:n.kids.Perm l[k].node.kids):Tr (l.set k ⟨k+1,n⟩):=by
 refine⟨fun j r hr=> ?_,fun j r hr c hc=> ?_, ?_,fun j r hr c hc r' hr'=> ?_,fun r hr=> ?_⟩
 ·obtain⟨_,_,_,_,e⟩:=J6 hk h1 h2 hr h.rid;exact e
 ·obtain⟨r0,g1,g2,g3,_⟩:=J6 hk h1 h2 hr h.rid
  rw[List.length_set];exact h.up j r0 g1 c ((g3 c).1 hc)
 ·rw[List.length_set]
  refine List.Perm.trans ?_ h.perm;rw[List.set_eq_take_append_cons_drop,if_pos hk];have e:l=l.take k++l[k]::l.drop (k+1):=by rw[←Au hk,List.take_append_drop]
  conv=>rhs;rw[e]
  rw[List.flatMap_append,List.flatMap_append,List.flatMap_cons,List.flatMap_cons];exact List.Perm.append_left _ (h2.append_right _)
 ·obtain⟨r0,g1,g2,g3,_⟩:=J6 hk h1 h2 hr h.rid
  obtain⟨r1,g4,g5,_,_⟩:=J6 hk h1 h2 hr' h.rid;rw[g2,g5];exact h.kind j r0 g1 c ((g3 c).1 hc) r1 g4
 ·obtain⟨r0,g1,g2,_,_⟩:=J6 hk h1 h2 hr h.rid
  rw[g2];exact h.root r0 g1
theorem S9(x:Node)(len:Nat)(b:Bend):(Dv x len b).kids.Perm x.kids:=by
 unfold Dv;(repeat' split) <;>first|exact List.Perm.refl _|exact List.reverse_perm _
theorem Tg.FB{l:List Row}(h:Tg l)(b:Bend):Tg (FB l b):=by
 have hk:b.k % l.length < l.length:=Nat.mod_lt _ h.pos;have hget:l[b.k % l.length]? =some l[b.k % l.length]:=AX hk;have hrow:rowAt l (b.k % l.length)=l[b.k % l.length]:=by simp[rowAt,hget]
 have hids:Cq 1 l:=fun k r hr=>by have:=h.tr.rid k r hr;omega
 have hid:(rowAt l (b.k % l.length)).id=b.k % l.length+1:=by
  rw[hrow];exact h.tr.rid _ _ hget
 have he:Hg.FB l b=l.set (b.k % l.length) ⟨b.k % l.length+1,Dv l[b.k % l.length].node l.length b⟩:=by
  unfold Hg.FB;rw[hid,hrow,putRow_set _ hids hk]
 have hm:l[b.k % l.length]∈l:=List.getElem_mem hk;have hl:=h.len;have hTr:=h.tr.set hk (Jq l[b.k % l.length].node l.length b) (S9 _ _ _);have key:∀{P:Row→Prop},(∀r∈l,P r)→P ⟨b.k % l.length+1,Dv l[b.k % l.length].node l.length b⟩→∀r∈Hg.FB l b,P r:=by
  intro P h1 h2 r hr;rw[he] at hr;rcases List.mem_or_eq_of_mem_set hr with q|q
  ·exact h1 r q
  ·rw[q];exact h2
 have hpos:=h.pos;have hnk:=h.nk _ hm;have hrf:=h.rf _ hm;refine⟨by rw[he];exact hTr,by rw[he,List.length_set];exact hl,key h.nk ?_,key h.rf ?_,by rw[he,List.length_set];exact hpos⟩
 ·generalize l[b.k % l.length].node=x at hnk
  refine⟨by rw[Jq];exact hnk.1, ?_, ?_⟩
  ·have:=hnk.2.1
   unfold Dv
   (repeat' split) <;>first|exact this|(dsimp only;omega)
  ·have:=hnk.2.2
   unfold Dv
   (repeat' split) <;>first|exact this|(simp;omega)
 ·generalize l[b.k % l.length].node=x at hrf
  have hmod:=Nat.mod_lt b.id (show 0 < l.length+2 by omega);unfold Dv
  (repeat' split) <;>first|exact hrf|(dsimp only;omega)
theorem Tg.bent:∀(bs:List Bend) (i:Nat) {l:List Row},Tg l→Tg (bent i bs l)
 |[],_,_,h=>h
 |b::bs,i,l,h=>by
   rw[Hg.bent];split
   ·exact h
   ·exact Tg.bent bs (i+1) (h.FB b)
theorem Un(s:Str)(bs:List Bend):Tg (IM s bs):=Tg.bent bs 0 (Jk s)
end Hg
namespace Go.Proofs.YtijhlanclfajiaaGreatDoor
open Go.RowKit
open Hg (Cq)
def Yi(x:List Hg.Row)(w:World)(e:Ending)(w':World):Prop:=
 ∃ab mb c,e= .returned (.pointer (some ⟨ab,0,none⟩))∧ArAt w' ab mb c (WC x)∧Below w.heap.size w w'
theorem VB(v:Value)(x:List Hg.Row)(w:World)(hx:Aw w w.heap.size v x)(hi:Cq 1 x)(h0:x≠[])(hl:x.length≤20000)(hk:∀(k:Nat) (r:Hg.Row),x[k]? =some r→r.node.kids.length≤1000000):
 Calls Tryz.prog 6 #[v] w (Yi x w):=by
 obtain⟨a4,c4,rfl⟩:=hx.form;have HX:=zz hx;have HI:=zz hi;have HK:=zz hk;have HALL:=zz (Nj hi h0);have TN:=zz (fun W=>YN (fun _=>True) W);clear hx hi hk h0;go_enter Tryz.func6,Tryz.ntmps6;go_wp2_with fail;refine(TN.out w).mono ?_;rintro e w5 ⟨ab,mb,rfl,hab,hmb,hA5,hb5⟩;have HA5:=zz hA5;have HB5:=zz hb5;clear hA5 hb5 TN;go_wp2
 go_loopw [9] (fun p wr=>∃(j cj:Nat),p= .int .i64 (j:Int)∧j≤x.length∧ArAt wr ab mb cj (Ez x j)∧cj≤j+1∧(0 < j→cj≤j)∧Below w.heap.size w wr) (fun p wr=>x.length-(intOf p).toNat)
 case atStart=>exact⟨0,1,rfl,Nat.zero_le _,HA5.out,by omega,fun h=>by omega,HB5.out⟩
 case round=>
  obtain⟨j,cj,rfl,hj,hA,hc1,hc2,hb⟩:=hrel;have HA:=zz hA;have HB:=zz hb;have HC:=zz (And.intro hc1 hc2);clear hA hc1 hc2 HA5 HB5;by_cases hlt:j < x.length
  ·obtain⟨r,hr⟩:∃r,x[j]? =some r:=⟨_,AX hlt⟩
   obtain⟨b,o,ka,kc,rfl,hbl,hks,r0,r1,r2,r3,r4,r5,r6⟩:=(HX.out.below hb AA).at_ hr;have hid:r.id=j+1:=by have:=HI.out j r hr;omega
   have hkl:=HK.out j r hr;have hbN:Below wr.heap.size wr (wr.alloc (.cells #[.int .u64 (r.id:Int),.int .u8 (r.node.kind:Int),strV r.node.name,.int .i64 r.node.num,.int .u8 (r.node.type:Int),.int .u64 (r.node.ref:Int),.slice ka r.node.kids.length kc] 46)):=(AP).alloc AA _;have hiM:(Ez x j r.id).isSome=decide (j=0):=by rw[hid];exact RS x j
   have TPU:=YB (fun _=>True) ab mb cj (Ez x j) r.id r.node ka kc _ (HA.out.below hbN AA) (by unfold Aj;omega) (by omega) (by
    rw[hiM];by_cases e:j=0
    ·exact .inl (by simp[e])
    ·exact .inr (by have:=HC.out.2 (by omega);omega)) (by have:=HC.out.1;omega) ((hks.more hb.size).below hbN AA|>.more hbN.size) hkl
   have TPU:=zz TPU;have HR:=zz (And.intro hr (And.intro hid hiM));have HBN:=zz (HB.out.trans (hbN.mono HB.out.size));clear hr hid hiM hkl hb hbN hks;go_wp2_with fail;refine TPU.out.mono ?_;rintro e w7 ⟨rfl,hA7,hg7⟩;have HB7:=zz (show Below w.heap.size w w7 from HBN.out.grown hg7 HBN.out.size (fun k hk=>by injection hk with hk;omega));have HA7:=zz (show∃c7,ArAt w7 ab mb c7 (Ez x (j+1))∧c7≤j+1 from by
    have h1:=hA7.imp (Z':=fun _=>True) (fun _ _=>trivial);obtain⟨g1,g2,g3⟩:=HR.out;rw[g3,g2,Um g1] at h1;refine⟨_,h1, ?_⟩;have h2:=HC.out;by_cases e:j=0
    ·rw[if_pos (by simpa using e)];omega
    ·rw[if_neg (by simpa using e)];have:=h2.2 (by omega);omega)
   clear hA7 hg7 TPU;go_wp2;go_roundw
   case rel=>
    obtain⟨c7,h1,h2⟩:=HA7.out;exact⟨j+1,c7,by go_num,by omega,h1,by omega,fun _=>h2,HB7.out⟩
   case measure=>simp[intOf];omega
  ·obtain rfl:j=x.length:=by omega
   have hA:=HA.out;rw[HALL.out] at hA;have HAF:=zz hA;clear hA hb;go_wp2;go_ret;exact⟨ab,mb,cj,rfl,HAF.out,HB.out⟩
end Go.Proofs.YtijhlanclfajiaaGreatDoor
namespace Go.Proofs.YtijhlanclfajiaaGreatDoor
open Go.RowKit
structure Ra (rb:Nat) (w0:World) (s' s:Hg.Rd) (w:World):Prop where
 r:RdAt w rb s
 b:Below rb w0 w
 i:Hg.Rd.Inv s
 d:s.deep≤1000
 v:s.level≤1000
 g:Hg.Rd.Grow s s'
 f:Fin_ s'
section
variable {rb:Nat} {w0 w w':World} {s' s a:Hg.Rd}
theorem Ra.ok(h:Ra rb w0 s' s w):Okk s:=⟨h.i,h.f.of h.g,h.d,h.v⟩
theorem Ra.go(h:Ra rb w0 s' s w)(e:Hg.Rd.Ak s a)(g:Hg.Rd.Grow a s')(hr:RdAt w' rb a)(hb:Below rb w w'):Ra rb w0 s' a w':=⟨hr,h.b.trans hb,e.inv h.i,by rw[e.deep];exact h.d,by rw[e.level];exact h.v,g,h.f⟩
theorem Ra.text(h:Ra rb w0 s' s w)(z:Int)(k:Nat){x:List UInt8}(hz:z=(k:Int))(hx:s.text k=x):Calls Tryz.prog 138 #[.pointer (some ⟨rb,0,none⟩),.int .u8 z] w fun e w'=>e= .returned (strV x)∧Ra rb w0 s' s w':=
 (Xw z k h.r h.ok hx hz).mono fun _ _ ⟨e,r,b⟩=>⟨e,h.go (Hg.Rd.Ak.refl _) h.g r b.below⟩
theorem Ra.next(h:Ra rb w0 s' s w){t:List UInt8}{b:Bool}(hn:s.next t=b):Calls Tryz.prog 139 #[.pointer (some ⟨rb,0,none⟩),strV t] w fun e w'=>e= .returned (.bool b)∧Ra rb w0 s' s w':=
 (NB h.r h.ok hn).mono fun _ _ ⟨e,r,b⟩=>⟨e,h.go (Hg.Rd.Ak.refl _) h.g r b.below⟩
theorem Ra.no(h:Ra rb w0 s' s w){t:List UInt8}(hn:s.next t=false):Calls Tryz.prog 94 #[.pointer (some ⟨rb,0,none⟩),strV t] w fun e w'=>e= .returned (.bool false)∧Ra rb w0 s' s w':=
 (KY h.r h.ok hn).mono fun _ _ ⟨e,r,b⟩=>⟨e,h.go (Hg.Rd.Ak.refl _) h.g r b.below⟩
theorem Ra.yes(h:Ra rb w0 s' s w){t:List UInt8}(hn:s.next t=true)(g:Hg.Rd.Grow s.step s'):Calls Tryz.prog 94 #[.pointer (some ⟨rb,0,none⟩),strV t] w fun e w'=>e= .returned (.bool true)∧Ra rb w0 s' s.step w':=
 (Ii h.r h.ok hn).mono fun _ _ ⟨e,r,b⟩=>⟨e,h.go (Hg.Rd.BN _) g r b.below⟩
theorem Ra.need(h:Ra rb w0 s' s w){t:List UInt8}(g:Hg.Rd.Grow (s.need t) s'):Calls Tryz.prog 90 #[.pointer (some ⟨rb,0,none⟩),strV t] w fun e w'=>e= .returned (.tuple #[])∧Ra rb w0 s' (s.need t) w':=
 (Cx h.r h.ok).mono fun _ _ ⟨e,r,b⟩=>⟨e,h.go (Hg.Rd.Al _ _) g r b.below⟩
theorem Ra.node(h:Ra rb w0 s' s w){u n:Nat}(nd:Hg.Node)(hk:nd.kids=[])(hu:u < s.rows.length)(hn:s.rows.length=n)(g:Hg.Rd.Grow (s.node u nd) s'):
 Calls Tryz.prog 89 #[.pointer (some ⟨rb,0,none⟩),.int .i64 (u:Int),Tn nd (.slice none 0 0)] w fun e w'=>e= .returned (.int .i64 (n:Int))∧Ra rb w0 s' (s.node u nd) w':=
 (Fy n nd h.r h.ok hk hu hn).mono fun _ _ ⟨e,r,b⟩=>⟨e,h.go (Hg.Rd.Av _ _ _ hk) g r b⟩
theorem Ra.enter(h:Ra rb w0 s' s w)(hd:s.deep≤999){b:Bool}(hb:(!s.enter.bad)=b)(g:Hg.Rd.Grow s.enter s'):Calls Tryz.prog 166 #[.pointer (some ⟨rb,0,none⟩)] w fun e w'=>e= .returned (.bool b)∧Ra rb w0 s' s.enter w':=
 (JD h.r h.ok hb).mono fun _ _ ⟨e,r,b⟩=>⟨e,r,h.b.trans b,Ou h.i,by rw[Du];omega,by rw[F4];exact h.v,g,h.f⟩
theorem Ra.expr(h:Ra rb w0 s' s w){f u:Nat}(ih:O1 f)(he:Hg.Rd.expr f s u=some a)(hd:s.deep≤90)(hu:u < s.rows.length)(g:Hg.Rd.Grow a s'):
 Calls Tryz.prog 143 #[.pointer (some ⟨rb,0,none⟩),.int .i64 (u:Int)] w fun e w'=>e= .returned (.tuple #[])∧Ra rb w0 s' a w':=
 (ih rb s u a w he h.r h.ok hd (h.f.of g) hu).mono fun _ _ ⟨e,r,b⟩=>⟨e,h.go ((Hg.Rd.CF f).1 _ _ _ he) g r b⟩
theorem Ra.step(h:Ra rb w0 s' s w)(g:Hg.Rd.Grow s.step s'):Ra rb w0 s' s.step (w.setCell ⟨rb,1,none⟩ (.int .i64 ((s.at_:Int)+1))):=h.go (Hg.Rd.BN _) g (h.r.setAt (s.at_+1)) ((AP).setCell (p:=⟨rb,1,none⟩) AA _)
theorem Ra.leave(h:Ra rb w0 s' s w){x:Int}(hx:x=(s.deep:Int)-1)(hp:1≤s.deep):RdAt (w.setCell ⟨rb,2,none⟩ (.int .i64 x)) rb s.leave∧Below rb w0 (w.setCell ⟨rb,2,none⟩ (.int .i64 x)):=⟨h.r.NG hx hp,h.b.setCell (p:=⟨rb,2,none⟩) AA _⟩
theorem Ra.end_(h:Ra rb w0 s s w):RdAt w rb s∧Below rb w0 w:=⟨h.r,h.b⟩
end
theorem VJ(f:Nat)(ihE:O1 f)(ihC:UK f):O1 (f+1):=by
 intro rb s u s' w he hR ho hdp hf hu;have h:Ra rb w s' s w:=⟨hR,AP,ho.inv,ho.deep,ho.level,((Hg.Rd.CF (f+1)).1 _ _ _ he).grow,hf⟩;have b1:=ho.fin.at_;rw[Hg.Rd.expr] at he;clear hR;go_enter Tryz.func143,Tryz.ntmps143;go_wp2_with fail;by_cases h2:s.text 2≠[]
 ·rw[if_pos h2] at he
  injection he with he;have ht:=ho.text 2;have T:=h.text 2 2 rfl rfl;have hq:(s.text 2==[])=false:=by simp[h2]
  have hq2:(s.text 2).isEmpty=false:=by simp[h2]
  have hpos:0 < (s.text 2).length:=List.length_pos_iff.2 h2;generalize s.text 2=tx at*;clear h2 h;refine T.mono ?_;rintro e w1 ⟨rfl,h⟩;obtain⟨c1,-,-,-,-⟩:=h.r.cell;have f1:=h.r.frozen 1;clear T;go_wp2_with fail;refine(IR _ hpos _ (by omega)).mono ?_;rintro e w2 ⟨rfl,rfl⟩;go_wp2_with fail;refine((h.step (by rw[←he];exact Hg.Rd.FL _ _ _)).node (Hg.Rd.Lj 13 (Hg.CK tx)) rfl hu rfl (by rw[he];exact Hg.Rd.Grow.refl _)).mono ?_;rintro e w3 ⟨rfl,h⟩;rw[he] at h;go_wp2;refine bodyPost_ret (results_none rfl _ _ _) rfl ⟨rfl,h.end_⟩
 have h2:s.text 2=[]:=by simpa using h2
 rw[if_neg (by simp[h2])] at he;refine(h.text 2 2 rfl h2).mono ?_;clear h;rintro e w1 ⟨rfl,h⟩;go_wp2_with fail;by_cases h1:s.text 1≠[]
 ·rw[if_pos h1] at he
  try dsimp only at he
  have ht:=ho.text 1;have T:=h.text 1 1 rfl rfl;have hq:(s.text 1==[])=false:=by simp[h1]
  have hq2:(s.text 1).isEmpty=false:=by simp[h1]
  generalize s.text 1=tx at*;clear h h1 h2;refine T.mono ?_;rintro e w2 ⟨rfl,h⟩;obtain⟨c1,-,-,-,-⟩:=h.r.cell;have f1:=h.r.frozen 1;clear T;go_wp2_with fail;by_cases hd:s.step.next [46]=true
  ·rw[if_pos hd] at he
   refine((h.step ((Hg.Rd.CF f).2.1 _ _ _ _ he).grow).next hd).mono ?_;clear h c1 f1;rintro e w3 ⟨rfl,h⟩;go_wp2_with fail;refine(ihC rb s.step u tx s' _ he h.r h.ok hdp hf hu ht).mono ?_;rintro e w4 ⟨rfl,hr,hb⟩;go_wp2;exact bodyPost_ret (results_none rfl _ _ _) rfl ⟨rfl,hr,h.b.trans hb⟩
  ·rw[if_neg hd] at he
   injection he with he;have hd:s.step.next [46]=false:=by simpa using hd
   have es1:=Hg.Rd.Av s.step u (Hg.Rd.nd 15) rfl;have es2:=Hg.Rd.MO (s.step.node u (Hg.Rd.nd 15)) tx;have g3:=Hg.Rd.Lp ((s.step.node u (Hg.Rd.nd 15)).find tx).2 s.rows.length ((s.step.node u (Hg.Rd.nd 15)).find tx).1;have hnn:s.step.rows.length=s.rows.length:=rfl;rw[hnn] at he;rw[he] at g3;have hln:(s.step.node u (Hg.Rd.nd 15)).rows.length=s.rows.length+1:=Hg.Rd.BK _ _ _;have hgr:=es2.grow.len;refine((h.step (es1.grow.trans (es2.grow.trans g3))).next hd).mono ?_;clear h c1 f1;rintro e w3 ⟨rfl,h⟩;go_wp2_with fail;refine(h.node (Hg.Rd.nd 15) rfl hu hnn (es2.grow.trans g3)).mono ?_;clear h;rintro e w4 ⟨rfl,h⟩;generalize hs1:s.step.node u (Hg.Rd.nd 15)=s1 at*;obtain⟨g,c,c4,hg1,hg2,-⟩:=h.r.forCell (k:=s.rows.length) (AX (by omega));have hHeld:(fun w'=>w'.cell? ⟨rb,4,none⟩=some (.slice (some ⟨g,0,none⟩) s1.rows.length c)) w4.drew:=c4;go_upto_region 10 with fail;refine Ay (fun w'=>w'.cell? ⟨rb,4,none⟩=some (.slice (some ⟨g,0,none⟩) s1.rows.length c)) 8 (by kernel_rfl) ?_;refine tz 0 ?_;refine tz 1 ?_;refine tz 2 ?_;refine tz 3 ?_;refine tz 4 ?_;refine tz 5 ?_;refine tz 6 ?_;refine AR (i:=7) rfl (by kernel_rfl) (fun K hK=> ?_);go_simp
   go_at_call 165
   refine(RA (t:=tx) (h.r.drewN 1) h.ok).mono ?_;rintro e w5 ⟨rfl,hR5,hb5⟩;refine hK.out _ _ (hb5.c4.trans hHeld) (fun hHeld=> ?_);clear hK K
   try simp only[Act.put,sA,sB,sC]
   refine Ag (by kernel_rfl) ?_;simp only[List.drop_succ_cons,List.drop_zero];clear hHeld;obtain⟨g',c',c4',-,hg3,-,hcs,hfz,hset⟩:=hR5.forCell (k:=s.rows.length) (AX (by omega));have hgg:=hb5.c4.symm.trans c4';rw[show(w4.drewN 1).cell? ⟨rb,4,none⟩=w4.cell? ⟨rb,4,none⟩ from rfl,c4] at hgg;injection hgg with hgg;injection hgg with e1 e2 e3;injection e1 with e1;injection e1 with e1;subst e1;obtain⟨u5,hc5⟩:=hcs 5 (by omega);have hf5:=hfz (s.rows.length*7+5);have HS:=zz hset;have hi1:(0:Int)≤(s.rows.length:Int):=by omega
   have hi2:(s.rows.length:Int) < (s1.rows.length:Int):=by omega
   clear hset hcs hfz;go_wp2;refine bodyPost_ret (results_none rfl _ _ _) rfl ?_;obtain⟨r1,r2⟩:=HS.out 5 (.int .u64 ((s1.find tx).1:Int)) (fun x=>{x with node:={x.node with ref:=(s1.find tx).1}}) (by omega) (fun _ _=>rfl) (fun _=>rfl);rw[show s.rows.length*7+1+4=s.rows.length*7+5 by omega];subst he;exact⟨rfl,r1,h.b.trans (((below_drewN (AP) 1).trans hb5.below).trans r2)⟩
 have h1:s.text 1=[]:=by simpa using h1
 rw[if_neg (by simp[h1])] at he;refine(h.text 1 1 rfl h1).mono ?_;clear h h1 h2;rintro e w2 ⟨rfl,h⟩;go_wp2_with fail;by_cases hy:s.next Hg.Ju=true
 ·rw[if_pos hy] at he
  injection he with he;refine(h.yes hy (by rw[←he];exact Hg.Rd.FL _ _ _)).mono ?_;clear h;rintro e w3 ⟨rfl,h⟩;go_wp2_with fail;refine(h.node (Hg.Rd.Lj 14 1) rfl hu rfl (by rw[he];exact Hg.Rd.Grow.refl _)).mono ?_;clear h;rintro e w4 ⟨rfl,h⟩;rw[he] at h;go_wp2;go_end0;exact⟨rfl,h.end_⟩
 rw[if_neg hy] at he;have hy:s.next Hg.Ju=false:=by simpa using hy
 refine(h.no hy).mono ?_;clear h hy;rintro e w3 ⟨rfl,h⟩;go_wp2_with fail;by_cases hy:s.next Hg.Gq=true
 ·rw[if_pos hy] at he
  injection he with he;refine(h.yes hy (by rw[←he];exact Hg.Rd.FL _ _ _)).mono ?_;clear h;rintro e w3 ⟨rfl,h⟩;go_wp2_with fail;refine(h.node (Hg.Rd.nd 14) rfl hu rfl (by rw[he];exact Hg.Rd.Grow.refl _)).mono ?_;clear h;rintro e w4 ⟨rfl,h⟩;rw[he] at h;go_wp2;go_end0;exact⟨rfl,h.end_⟩
 rw[if_neg hy] at he;have hy:s.next Hg.Gq=false:=by simpa using hy
 refine(h.no hy).mono ?_;clear h hy;rintro e w3 ⟨rfl,h⟩;go_wp2_with fail;by_cases hy:s.next Hg.Jv=true
 ·rw[if_pos hy] at he
  injection he with he;refine(h.yes hy (by rw[←he];exact Hg.Rd.FL _ _ _)).mono ?_;clear h;rintro e w3 ⟨rfl,h⟩;go_wp2_with fail;refine(h.node (Hg.Rd.nd 20) rfl hu rfl (by rw[he];exact Hg.Rd.Grow.refl _)).mono ?_;clear h;rintro e w4 ⟨rfl,h⟩;rw[he] at h;go_wp2;go_end0;exact⟨rfl,h.end_⟩
 rw[if_neg hy] at he;have hy:s.next Hg.Jv=false:=by simpa using hy
 refine(h.no hy).mono ?_;clear h hy;rintro e w3 ⟨rfl,h⟩;go_wp2_with fail;by_cases hor:s.next [33]=true∨s.next [45]=true
 ·rw[if_pos hor] at he
  try dsimp only at he
  by_cases h33:s.next [33]=true
  case' pos=>
   rw[if_pos h33] at he;refine(h.next h33).mono ?_;clear h;rintro e w6 ⟨rfl,h⟩;go_wp2_with fail;generalize hnd:Hg.Rd.nd 16=nk at he
  case' neg=>
   rw[if_neg h33] at he;have h33':s.next [33]=false:=by simpa using h33
   refine(h.next h33').mono ?_;clear h;rintro e w6 ⟨rfl,h⟩;go_wp2_with fail;refine(h.next (hor.resolve_left h33)).mono ?_;clear h;rintro e w7 ⟨rfl,h⟩;go_wp2_with fail;generalize hnd:Hg.Rd.nd 17=nk at he
  all_goals
   refine(h.next rfl).mono ?_;clear h;rintro e w8 ⟨rfl,h⟩;simp only[h33];obtain⟨c1,-,-,-,-⟩:=h.r.cell;have f1:=h.r.frozen 1;go_wp2_with fail;have hkk:nk.kids=[]:=by rw[←hnd];rfl
   have es0:=Hg.Rd.Av s.step u nk hkk;have hl1:s.rows.length < (s.step.node u nk).enter.rows.length:=by rw[Hm,Hg.Rd.BK];exact Nat.lt_succ_self _
   have hdp2:(s.step.node u nk).enter.deep=s.deep+1:=by rw[Du,es0.deep];rfl
   have hd0:(s.step.node u nk).deep≤999:=by rw[es0.deep];show s.deep≤999;omega
   by_cases hb:(s.step.node u nk).enter.bad=true
   case' pos=>
    rw[if_pos hb] at he;injection he with he;have g3:Hg.Rd.Grow (s.step.node u nk).enter s':=by rw[←he];exact Hg.Rd.DC _
    have hbe:(!(s.step.node u nk).enter.bad)=false:=by rw[hb];rfl
   case' neg=>
    rw[if_neg hb] at he;cases hx:Hg.Rd.expr f (s.step.node u nk).enter s.rows.length with
    |none=>rw[hx] at he;simp at he
    |some s1=> ?_
    rw[hx] at he;injection he with he;have es1:=(Hg.Rd.CF f).1 _ _ _ hx;have g4:Hg.Rd.Grow s1 s':=by rw[←he];exact Hg.Rd.DC _
    have g3:=es1.grow.trans g4;have hbe:(!(s.step.node u nk).enter.bad)=true:=by simpa using hb
    have hd90:=El (s:=s.step.node u nk) (by simpa using hb);have hds:=es1.deep
   all_goals
    have T:=(h.step (es0.grow.trans ((Hg.Rd.DD _).trans g3))).node nk hkk hu rfl ((Hg.Rd.DD _).trans g3);subst hnd;refine T.mono ?_;clear T h c1 f1;rintro e w9 ⟨rfl,h⟩;go_wp2_with fail;refine(h.enter hd0 hbe g3).mono ?_;clear h;rintro e w10 ⟨rfl,h⟩;obtain⟨-,c2,-,-,-⟩:=h.r.cell;have f2:=h.r.frozen 2;go_wp2_with fail
    first
     | (refine (h.expr ihE hx hd90 hl1 g4).mono ?_
        clear h c2 f2;rintro e w11 ⟨rfl,h⟩;obtain⟨-,c2,-,-,-⟩:=h.r.cell;have f2:=h.r.frozen 2;have hds:s1.deep=s.deep+1:=by omega
        go_wp2)
     |skip
    go_end0;rw[←he];exact⟨rfl,h.leave (by omega) (by omega)⟩
 rw[if_neg hor] at he;have h33:s.next [33]=false:=by
  cases e:s.next [33] with
  |false=>rfl
  |true=>exact absurd (.inl e) hor
 have h45:s.next [45]=false:=by
  cases e:s.next [45] with
  |false=>rfl
  |true=>exact absurd (.inr e) hor
 refine(h.next h33).mono ?_;clear h;rintro e w6 ⟨rfl,h⟩;go_wp2_with fail;refine(h.next h45).mono ?_;clear h;rintro e w7 ⟨rfl,h⟩;go_wp2_with fail;by_cases h40:s.next [40]=true
 ·rw[if_pos h40] at he
  try dsimp only at he
  generalize hnd:Hg.Rd.nd 18=nk at he;have hkk:nk.kids=[]:=by rw[←hnd];rfl
  have es0:=Hg.Rd.Av s.step u nk hkk;have hl1:s.rows.length < (s.step.node u nk).enter.rows.length:=by rw[Hm,Hg.Rd.BK];exact Nat.lt_succ_self _
  have hdp2:(s.step.node u nk).enter.deep=s.deep+1:=by rw[Du,es0.deep];rfl
  have hd0:(s.step.node u nk).deep≤999:=by rw[es0.deep];show s.deep≤999;omega
  by_cases hb:(s.step.node u nk).enter.bad=true
  ·rw[if_pos hb] at he
   injection he with he;have g3:Hg.Rd.Grow (s.step.node u nk).enter s':=by rw[←he];exact Hg.Rd.DC _
   refine(h.yes h40 (es0.grow.trans ((Hg.Rd.DD _).trans g3))).mono ?_;clear h;rintro e w8 ⟨rfl,h⟩;go_wp2_with fail;have T:=h.node (n:=s.rows.length) nk hkk hu rfl ((Hg.Rd.DD _).trans g3);subst hnd;refine T.mono ?_;clear T h;rintro e w9 ⟨rfl,h⟩;go_wp2_with fail;refine(h.enter hd0 (by rw[hb]) g3).mono ?_;clear h;rintro e w10 ⟨rfl,h⟩;obtain⟨-,c2,-,-,-⟩:=h.r.cell;have f2:=h.r.frozen 2;go_wp2;go_end0;rw[←he];exact⟨rfl,h.leave (by omega) (by omega)⟩
  ·rw[if_neg hb] at he
   have hb:(s.step.node u nk).enter.bad=false:=by simpa using hb
   have hd3:=El hb;cases hx:Hg.Rd.expr f (s.step.node u nk).enter s.rows.length with
   |none=>rw[hx] at he;simp at he
   |some s1=>
   rw[hx] at he
   try dsimp only at he
   have es1:=(Hg.Rd.CF f).1 _ _ _ hx;have esn:=Hg.Rd.LM s1 s.rows.length (Hg.Rd.opOf (s1.text 4):Nat);generalize hop:Hg.Rd.opOf (s1.text 4)=op at he esn;obtain⟨s3,hs3⟩:∃s3,(if op=0 then(s1.CX s.rows.length (op:Nat)).setBad else s1.CX s.rows.length (op:Nat))=s3:=⟨_,rfl⟩;rw[hs3] at he;cases hy:Hg.Rd.expr f s3.step s.rows.length with
   |none=>rw[hy] at he;simp at he
   |some s4=>
   rw[hy] at he;injection he with he;have es2:Hg.Rd.Ak (s1.CX s.rows.length (op:Nat)) s3:=by rw[←hs3];split <;>first|exact Hg.Rd.Gg _|exact Hg.Rd.Ak.refl _
   have es4:=(Hg.Rd.CF f).1 _ _ _ hy;have g6:Hg.Rd.Grow (s4.need [41]) s':=by rw[←he];exact Hg.Rd.DC _
   have g5:=(Hg.Rd.Cg s4 [41]).trans g6;have g4:=(Hg.Rd.grow_step s3).trans (es4.grow.trans g5);have g2:=esn.grow.trans (es2.grow.trans g4);have g1:=(Hg.Rd.DD (s.step.node u nk)).trans (es1.grow.trans g2);have hl2:=es1.grow.len;have hl3:=esn.grow.len;have hl4:=es2.grow.len;have hdd:s1.deep=s.deep+1:=by rw[es1.deep];exact hdp2
   have hd5:s3.deep=s.deep+1:=by rw[es2.deep,esn.deep];exact hdd
   have hd6:(s4.need [41]).deep=s.deep+1:=by rw[(Hg.Rd.Al s4 [41]).deep,es4.deep];exact hd5
   refine(h.yes h40 (es0.grow.trans g1)).mono ?_;clear h;rintro e w8 ⟨rfl,h⟩;go_wp2_with fail;have T:=h.node (n:=s.rows.length) nk hkk hu rfl g1;subst hnd;refine T.mono ?_;clear T h;rintro e w9 ⟨rfl,h⟩;go_wp2_with fail;refine(h.enter hd0 (by rw[hb]) (es1.grow.trans g2)).mono ?_;clear h;rintro e w10 ⟨rfl,h⟩;go_wp2_with fail;refine(h.expr ihE hx hd3 hl1 g2).mono ?_;clear h;rintro e w11 ⟨rfl,h⟩;go_wp2_with fail;refine(h.text 4 4 rfl rfl).mono ?_;clear h;rintro e w12 ⟨rfl,h⟩;go_wp2_with fail;have TO:=YF (s1.text 4) w12;rw[hop] at TO;generalize s1.text 4=t4 at TO hop⊢;refine TO.mono ?_;rintro e w13 ⟨rfl,hb13⟩;have hr:=h.r.below hb13 AA;have h:=h.go (Hg.Rd.Ak.refl _) h.g hr (hb13.mono (Nat.le_of_lt h.r.lt));obtain⟨g,c,c4,hg1,hg2,-,hcs,hfz,hset⟩:=h.r.forCell (k:=s.rows.length) (AX (by omega));obtain⟨u5,hc5⟩:=hcs 3 (by omega);have hf5:=hfz (s.rows.length*7+3);have HS:=zz hset;have hi1:(0:Int)≤(s.rows.length:Int):=by omega
   have hi2:(s.rows.length:Int) < (s1.rows.length:Int):=by omega
   clear hset hcs hfz TO;by_cases hz:op=0
   case' pos=>
    have q:(((op:Nat):Int)==0)=true:=by simp[hz]
    rw[if_pos hz] at hs3;have f3:=h.r.frozen 3;obtain⟨-,-,c3,-,-⟩:=h.r.cell;clear hz;go_upto_region 36 with fail;obtain⟨r1,r2⟩:=HS.out 3 (.int .i64 (op:Int)) (fun x=>{x with node:={x.node with num:=(op:Int)}}) (by omega) (fun _ _=>rfl) (fun _=>rfl);rw[show s.rows.length*7+1+2=s.rows.length*7+3 by omega];have hr3:=r1.setBad;have hb3:=r2.setCell (p:=⟨rb,3,none⟩) AA (.bool true)
   case' neg=>
    have q:(((op:Nat):Int)==0)=false:=by simp[hz]
    rw[if_neg hz] at hs3;clear hz;go_upto_region 36 with fail;obtain⟨hr3,hb3⟩:=HS.out 3 (.int .i64 (op:Int)) (fun x=>{x with node:={x.node with num:=(op:Int)}}) (by omega) (fun _ _=>rfl) (fun _=>rfl);rw[show s.rows.length*7+1+2=s.rows.length*7+3 by omega]
   all_goals
    have h:=h.go (a:=s3) (esn.trans es2) g4 (hs3 ▸ hr3) hb3;clear hr3 hb3 hc5 hf5 HS;generalize World.setCell _ _ _=w14 at h⊢;obtain⟨c1,-,-,-,-⟩:=h.r.cell;have f1:=h.r.frozen 1;have b3:=(hf.of g4).at_;go_wp2_with fail;refine((h.step (es4.grow.trans g5)).expr ihE hy (by show s3.deep≤90;omega) (by show s.rows.length < s3.rows.length;omega) g5).mono ?_;clear h c1 f1;rintro e w15 ⟨rfl,h⟩;go_wp2_with fail;refine(h.need g6).mono ?_;clear h;rintro e w16 ⟨rfl,h⟩;obtain⟨-,c2,-,-,-⟩:=h.r.cell;have f2:=h.r.frozen 2;go_wp2;go_end0;rw[←he];exact⟨rfl,h.leave (by omega) (by omega)⟩
 rw[if_neg h40] at he;injection he with he;refine(h.no (t:=[40]) (by simpa using h40)).mono ?_;clear h;rintro e w8 ⟨rfl,h⟩;have f3:=h.r.frozen 3;obtain⟨-,-,c3,-,-⟩:=h.r.cell;go_wp2;go_end0;rw[←he];exact⟨rfl,h.r.setBad,h.b.setCell (p:=⟨rb,3,none⟩) AA _⟩
theorem Oo(f:Nat):O1 f∧UK f:=by
 induction f using Nat.strongRecOn with
 |_ f ih=>
   cases f with
   |zero=>exact⟨fun rb s u s' w he=>by simp[Hg.Rd.expr] at he,fun rb s u m s' w he=>by simp[Hg.Rd.call] at he⟩
   |succ f=>
     exact⟨VJ f (ih f (Nat.lt_succ_self f)).1 (ih f (Nat.lt_succ_self f)).2,VV f fun g hg=>(ih g (by omega)).1⟩
theorem FM(f:Nat):O1 f:=(Oo f).1
theorem VW(f:Nat):UK f:=(Oo f).2
theorem UH:(Tryz.prog.info? 196).map (fun i=>(i.zero,i.size,i.bytes))=some (some (.agg #[.string ⟨#[]⟩,.int .u64 0,.int .i64 0]),3,32):=by kernel_rfl
theorem Oz(b:Hg.GA):∀u∈Ah b,u.oneCell'=true:=by
 intro u hu;simp only[Ah,List.mem_cons,List.not_mem_nil,or_false] at hu;rcases hu with rfl|rfl|rfl <;>rfl
theorem Ph(rb:Nat)(s:Hg.Rd)(t:List UInt8)(k:Nat)(w:World)(hR:RdAt w rb s)(hu:s.used.length≤10000000)(hs:s.seen.length≤10000000)(hr:s.rows.length≤10000000)(hk:k < s.rows.length):
 Calls Tryz.prog 141 #[.pointer (some ⟨rb,0,none⟩),strV t,.int .i64 (k:Int)] w fun e w'=>e= .returned (.tuple #[])∧RdAt w' rb (s.declare t k)∧Below rb w w':=by
 obtain⟨j0,hj,hj0,hj1,hj2⟩:=info_parts UH;obtain⟨k0,hk_,hk0,hk1,hk2⟩:=info_parts MG;have hds:∀s1,(if Hg.inL s.used t then s.fault 10 else s)=s1→s.declare t k={s1 with used:=s1.used++[t],seen:=s1.seen++[⟨t,s1.idAt k,s1.level⟩]}:=by
  intro s1 e;subst e;rfl
 obtain⟨aU,cU,cell11,hU,_,_,_⟩:=hR.Kz;have HU:=zz hU;clear hU;have hlt0:=hR.lt;go_enter Tryz.func141,Tryz.ntmps141
 go_upto_if 11 with(go_at_call 92;refine(PZ w.heap.size _ s.used t _ (Sl.Ai HU.out) (by omega)).mono ?_;rintro e w' ⟨rfl,rfl⟩)
 go_cut [] from 11 (fun wx=>RdAt wx rb (if Hg.inL s.used t then s.fault 10 else s)∧Lite rb w wx)
 case first=>
  by_cases hin:Hg.inL s.used t=true
  ·rw[hin]
   go_wp2_with (go_at_call 93;refine(Hl rb s 10 _ hR).mono ?_;rintro e w1 ⟨rfl,hR1,hb1⟩)
   go_meet
   case rel=>exact⟨by rw[if_pos hin];exact hR1,hb1⟩
  ·have hin2:Hg.inL s.used t=false:=by simpa using hin
   rw[hin2];clear hin;go_wp2
   go_meet
   case rel=>exact⟨by rw[hin2];exact hR,Lite.refl _ _⟩
 case rest=>
  obtain⟨hR1,hL1⟩:=hcut;have e1:(if Hg.inL s.used t then s.fault 10 else s).rows.length=s.rows.length∧(if Hg.inL s.used t then s.fault 10 else s).used.length=s.used.length∧(if Hg.inL s.used t then s.fault 10 else s).seen.length=s.seen.length:=by
   obtain⟨e1,_,_,_,_,_,e7,e8,_⟩:=Hg.Rd.Ec s 10;split
   ·rw[e1,e7,e8];exact⟨rfl,rfl,rfl⟩
   ·exact⟨rfl,rfl,rfl⟩
  have hds1:=hds _ rfl;clear hds;generalize(if Hg.inL s.used t then s.fault 10 else s)=s1 at*;obtain⟨er,eu,es⟩:=e1;have hr1:s1.rows.length≤10000000:=by omega
  have hu1:s1.used.length≤10000000:=by omega
  have hs1:s1.seen.length≤10000000:=by omega
  have hk1':k < s1.rows.length:=by omega
  have hds:=zz hds1;have hB0:Below rb w wc:=hL1.below;clear hds1 hR hL1 cell11 er eu es HU;obtain⟨a1,c1,k11,hown1,hrb1,_,hnew1⟩:=hR1.Kz;have HO1:=zz hown1;have HN1:=zz hnew1;have f11:=hR1.frozen 11;have hlt1:=hR1.lt;have hne1:=zz (show some rb≠Value.ownBlock (.slice a1 s1.used.length c1) from fun e=>absurd (hrb1 rb e.symm) (Nat.lt_irrefl _));clear hnew1 hrb1
  go_wp2_with (at_builtin;refine wpList_append_own_at _ rfl (.tmp 18) (.tmp 20) _ rfl (rb+1) 9 k0 _ 1 16 Tryz.underlying87 hk_ hk0 hk1 hk2 rfl (by decide) _ _ _ rfl (HO1.out.alloc _) ⟨_,0,none⟩ 1 1 [strV t] rfl rfl (Ao _ _ _) ?_ ?_ ?_ ?_ ?_)
  ·intro u hu;simp only[List.mem_singleton] at hu;subst hu;rfl
  ·unfold maxLen;omega
  ·omega
  ·simp;omega
  intro v1 W1 own1 g1 _ at1;obtain⟨hR2,hB2⟩:=HN1.out _ W1 v1 t ((AP).alloc AA _) own1 g1 (by simpa using at1);have d11:=g1.cell (CY k11 _) hne1.out;have e11:W1.frozen? ⟨rb,11,none⟩=false:=by
   rw[World.frozen?_of_block (a:=⟨rb,11,none⟩) (g1.block rb (by simp;omega) hne1.out)];rw[World.frozen?_of_block (a:=⟨rb,11,none⟩) (Below.heap_alloc wc _ rb hlt1)];exact f11
  obtain⟨q0,z0,rfl⟩:=ownsRow_succ own1;clear own1 g1 at1 HO1 HN1 hne1 k11 f11 hR1 hown1;go_upto_region 3 with fail;generalize World.setCell W1 _ _=W2 at hR2 hB2⊢;have hBw:Below rb w W2:=hB0.trans hB2;have hcid:s1.idAt k=s1.idAt k:=rfl;obtain⟨a2,c2,k12,hown2,hrb2,hneR,hnew2⟩:=hR2.U7;obtain⟨g,c,k4,hg1,hg2,kid,_,_,_⟩:=hR2.forCell (k:=k) (AX hk1');obtain⟨_,_,_,_,k13⟩:=hR2.cell;dsimp only at k12 hown2 hrb2 hneR hnew2 k4 k13 kid;have f12:=hR2.frozen 12;have hlt2:=hR2.lt;have ecid:s1.idAt k=(s1.rows[k]).id:=NR (AX hk1');have HM0:=zz (show some rb≠Value.ownBlock (.slice a2 s1.seen.length c2) from fun e=>absurd (hrb2 rb e.symm) (Nat.lt_irrefl _));have HM3:=zz (show some g≠Value.ownBlock (.slice a2 s1.seen.length c2) from fun e=>hneR g _ _ k4 e.symm);have HO2:=zz hown2;have HN2:=zz hnew2;rw[←ecid] at kid;clear hrb2 hneR hnew2 hown2 hR2 hB0 hB2 d11 e11 ecid;generalize s1.idAt k=cid at*;have hHeld:(fun w'=>w'.cell? ⟨rb,4,none⟩=some (.slice (some ⟨g,0,none⟩) s1.rows.length c)∧w'.cell? ⟨rb,12,none⟩=some (.slice a2 s1.seen.length c2)∧w'.cell? ⟨rb,13,none⟩=some (.int .i64 (s1.level:Int))∧w'.cell? ⟨g,k*7,none⟩=some (.int .u64 (cid:Int))) (World.drew W2):=⟨k4,k12,k13,kid⟩;have hi1:(0:Int)≤(k:Int):=by omega
  have hi2:(k:Int) < (s1.rows.length:Int):=by omega
  refine Ay (fun w'=>w'.cell? ⟨rb,4,none⟩=some (.slice (some ⟨g,0,none⟩) s1.rows.length c)∧w'.cell? ⟨rb,12,none⟩=some (.slice a2 s1.seen.length c2)∧w'.cell? ⟨rb,13,none⟩=some (.int .i64 (s1.level:Int))∧w'.cell? ⟨g,k*7,none⟩=some (.int .u64 (cid:Int))) 21 (by kernel_rfl) ?_;refine tz 0 ?_;refine tz 1 ?_;refine tz 2 ?_;refine tz 3 ?_;refine tz 4 ?_;refine tz 5 ?_;refine tz 6 ?_;refine tz 7 ?_;refine tz 8 ?_;refine tz 9 ?_;refine tz 10 ?_;refine tz 11 ?_;refine tz 12 ?_;refine tz 13 ?_;refine tz 14 ?_;refine tz 15 ?_;refine tz 16 ?_;refine tz 17 ?_;refine tz 18 ?_;refine AR (i:=19) rfl (by kernel_rfl) (fun K hK=> ?_);go_simp;generalize hWa:World.drew (World.alloc _ _)=Wa;have hTa:∀j u,(Ah ⟨t,cid,s1.level⟩)[j]? =some u→Wa.cell? ((⟨W2.heap.size,0,none⟩:Addr).add j)=some u:=by rw[←hWa];exact Ao _ _ _
  have hBa:Below W2.heap.size W2 Wa:=by rw[←hWa];exact((AP).alloc AA _).drew
  clear hWa;refine hK.out _ _ (⟨AY hBa AA hHeld.1,AY hBa AA hHeld.2.1,AY hBa AA hHeld.2.2.1,AY hBa AA hHeld.2.2.2⟩) (fun hHeld=> ?_);clear hK K
  try simp only[Act.put,sA,sB,sC]
  refine AR (i:=20) rfl (by kernel_rfl) (fun K hK=> ?_);refine Az rfl (.tmp 28) (.tmp 43) _ rfl (rb+1) 196 j0 _ 3 32 Tryz.underlying88 hj hj0 hj1 hj2 rfl (by decide) _ _ _ rfl (own_below HO2.out hBa AA) ⟨_,0,none⟩ 1 1 (Ah ⟨t,cid,s1.level⟩) rfl rfl ?_ (Oz _) ?_ ?_ ?_ ?_
  ·exact hTa
  ·unfold maxLen;omega
  ·omega
  ·have:=hBa.size;omega
  intro v3 W3 own3 g3 at3;have hFIN:=HN2.out Wa W3 v3 ⟨t,cid,s1.level⟩ hBa own3 g3 at3;refine hK.out _ _ (⟨g3.cell hHeld.1 HM0.out,g3.cell hHeld.2.1 HM0.out,g3.cell hHeld.2.2.1 HM0.out,g3.cell hHeld.2.2.2 HM3.out⟩) (fun hHeld=> ?_);clear hK K
  try simp only[Act.put,sA,sB,sC]
  refine Ag (by kernel_rfl) ?_;simp only[List.drop_succ_cons,List.drop_zero];have g12:=(World.frozen?_of_block (a:=⟨rb,12,none⟩) ((g3.block rb (by have:=hBa.size;omega) HM0.out).trans (hBa.block rb (by omega)))).trans f12;have FIN:=zz hFIN;obtain⟨d4,d12,d13,dg⟩:=hHeld;obtain⟨q1,z1,rfl⟩:=ownsRow_succ own3;clear hFIN g3 hBa own3 at3 f12 HO2 HN2 kid hTa k4 k12 k13;go_wp2_with fail;go_end0;rw[hds.out];exact⟨rfl,FIN.out.1,hBw.trans FIN.out.2⟩
theorem RdAt.turnSeen{w w1:World}{rb B:Nat}{s:Hg.Rd}(h:RdAt w rb s)(hb:Below w.heap.size w w1)(hB:w.heap.size≤B)(l:List Hg.GA){v':Value}(ho:w1.ownsRow B 196 3 v' l.length (l.flatMap Ah)):
 RdAt (w1.setCell ⟨rb,12,none⟩ v') rb {s with seen:=l}∧Below rb w (w1.setCell ⟨rb,12,none⟩ v'):=by
 have hlt:=h.lt;obtain⟨vL,vR,vM,vF,vI,vC,vW,vU,vS,ks,h1,h2,h3,h4⟩:=h;have hrow:∀b,b≤rb→w1.heap[b]? =w.heap[b]? :=fun b hbl=>hb.block b (by omega);have ho':w1.ownsRow (rb+1) 196 3 v' l.length (l.flatMap Ah):=by
  refine⟨ho.1, ?_⟩;rcases ho.2 with hn|⟨g,cap,cur,hv,hbb,rest⟩
  ·exact .inl hn
  ·exact .inr ⟨g,cap,cur,hv,by omega,rest⟩
 have h5:=BQ.turn (l1:=[⟨vR,46,7,s.rows.length,Aa s.rows ks⟩,⟨vM,9,1,s.mods.length,s.mods.map strV⟩,⟨vF,9,1,s.funcs.length,s.funcs.map strV⟩,
  ⟨vI,37,1,s.ids.length,s.ids.map idV⟩,⟨vC,37,1,s.calls.length,s.calls.map idV⟩,⟨vW,9,1,s.wants.length,s.wants.map strV⟩,
  ⟨vU,9,1,s.used.length,s.used.map strV⟩]) (o:=⟨vS,196,3,s.seen.length,s.seen.flatMap Ah⟩) (l2:=Bc s.rows ks) (o':=⟨v',196,3,l.length,l.flatMap Ah⟩) h4 ho'
   ⟨hb.os,hb.tape,hb.output,hb.size,fun b hbl _=>hb.block b hbl⟩ (fun g hg=> .inr (by have:=(ho.lt g hg).1;omega))
 have h6:=h5.setCell (p:=⟨rb,12,none⟩) (Nat.lt_succ_self _) v';refine⟨⟨vL,vR,vM,vF,vI,vC,vW,vU,v',ks, ?_, ?_,h3, ?_⟩, ?_⟩
 ·exact heap_setCell_same ((hrow rb AA).trans h1) v'
 ·exact(h2.keep fun p hp=>World.cell?_of_block (hrow p.block (by omega))).setCell (p:=⟨rb,12,none⟩) AA _
 ·simpa[BU] using h6
 ·exact(show Below rb w w1 from hb.mono (Nat.le_of_lt hlt)).setCell (p:=⟨rb,12,none⟩) AA _
def Xj(f:Nat):Prop:=∀(rb:Nat) (s:Hg.Rd) (u:Nat) (s':Hg.Rd) (w:World),Hg.Rd.stmt f s u=some s'→RdAt w rb s→Okk s→s.deep≤90→s.level≤s.deep→Fin_ s'→u < s.rows.length→
 Calls Tryz.prog 142 #[.pointer (some ⟨rb,0,none⟩),.int .i64 (u:Int)] w fun e w'=>e= .returned (.tuple #[])∧RdAt w' rb s'∧Below rb w w'
def Pw(f:Nat):Prop:=∀(rb:Nat) (s:Hg.Rd) (u:Nat) (s':Hg.Rd) (w:World),Hg.Rd.block f s u=some s'→RdAt w rb s→Okk s→s.deep≤90→s.level≤s.deep→Fin_ s'→u < s.rows.length→
 Calls Tryz.prog 163 #[.pointer (some ⟨rb,0,none⟩),.int .i64 (u:Int)] w fun e w'=>e= .returned (.tuple #[])∧RdAt w' rb s'∧Below rb w w'
def ZJ(rb n:Nat)(sE:Hg.Rd)(f:Nat)(w0:World)(k:Nat)(wr:World):Prop:=
 ∃(t:Hg.Rd),Hg.Rd.stmts k t n=some sE∧RdAt wr rb t∧Okk t∧t.deep≤90∧t.level≤t.deep∧n < t.rows.length∧Below rb w0 wr∧k≤f
def Za(l:List Hg.GA)(lv:Nat)(w0:World)(v i:Value)(wr:World):Prop:=
 ∃k:Nat,k≤l.length∧i= .int .i64 (k:Int)∧Below w0.heap.size w0 wr∧
   wr.ownsRow w0.heap.size 196 3 v ((l.take k).filter (fun b=>b.deep < lv)).length (((l.take k).filter (fun b=>b.deep < lv)).flatMap Ah)
theorem Okk.ss{s a s':Hg.Rd}(h:Okk s)(e:Hg.Rd.Bw s a)(g:Hg.Rd.Grow a s')(hf:Fin_ s'):Okk a:=
 ⟨e.inv h.inv,hf.of g,by rw[e.deep];exact h.deep,by rw[e.level];exact h.level⟩
theorem RdAt.Wi{w:World}{rb:Nat}{s:Hg.Rd}(h:RdAt w rb s){x:Int}(n:Nat)(hx:x=(n:Int)):RdAt (w.setCell ⟨rb,13,none⟩ (.int .i64 x)) rb {s with level:=n}:=by
 subst hx;exact h.setLevel n
theorem RD(l:List Hg.GA)(p:Hg.GA→Bool)(k:Nat)(hk:k < l.length):(l.take (k+1)).filter p=(l.take k).filter p++(if p l[k] then[l[k]] else[]):=by
 rw[List.take_succ_eq_append_getElem hk,List.filter_append]
 congr 1
 by_cases h:p l[k]=true
 ·simp[h]
 ·simp[h]
theorem Sy(f:Nat)(ihS:∀g,g≤f→Xj g):Pw (f+1):=by
 intro rb s u s' w he hR ho hdp hlv hf hu;rw[Hg.Rd.block] at he
 try dsimp only at he
 change (if (s.head u).enter.bad=true then some (s.head u).enter.leave.shut else(Hg.Rd.stmts f ((s.head u).enter.need [123]) s.rows.length).map (fun r=>r.leave.shut))=some s' at he;have hend:∃sE,s'=sE.leave.shut∧(((s.head u).enter.bad=true∧sE=(s.head u).enter)∨((s.head u).enter.bad=false∧Hg.Rd.stmts f ((s.head u).enter.need [123]) s.rows.length=some sE)):=by
  by_cases hb:(s.head u).enter.bad=true
  ·rw[if_pos hb] at he
   injection he with he;exact⟨_,he.symm,.inl ⟨hb,rfl⟩⟩
  ·rw[if_neg hb] at he
   cases hx:Hg.Rd.stmts f ((s.head u).enter.need [123]) s.rows.length with
   |none=>rw[hx] at he;simp at he
   |some a=>
     rw[hx] at he;injection he with he;exact⟨a,he.symm,.inr ⟨by simpa using hb,rfl⟩⟩
 obtain⟨sE,hsE,hways⟩:=hend;clear he;obtain⟨i0,hi,hz0,hz1,hz2⟩:=info_parts UH;have hn:=Hg.Rd.Av s u (Hg.Rd.nd 5) (Hg.Rd.Cm 5);have hst:Hg.Rd.Bw (s.head u).enter sE:=by
  rcases hways with⟨_,e⟩|⟨_,e⟩
  ·rw[e];exact Hg.Rd.Bw.refl _
  ·exact(Hg.Rd.Al _ _).s.trans ((Hg.Rd.EN f).2.2 _ _ _ e)
 have gE:Hg.Rd.Grow sE s':=by rw[hsE];exact(Hg.Rd.DC _).trans (Hg.Rd.Oi _)
 have gh:Hg.Rd.Grow (s.head u) sE:=(Hg.Rd.DD _).trans hst.grow;have ho1:Okk (s.node u (Hg.Rd.nd 5)):=ho.es hn ((Hg.Rd.JM _ _).trans (gh.trans gE)) hf;have hlv1:(s.node u (Hg.Rd.nd 5)).level=s.level:=hn.level;have hdp1:(s.node u (Hg.Rd.nd 5)).deep=s.deep:=hn.deep;have hlh:(s.head u).level=s.level+1:=by show(s.node u (Hg.Rd.nd 5)).level+1=_;rw[hlv1]
 have hdh:(s.head u).deep=s.deep:=hdp1;have oh:Okk (s.head u):=⟨Hg.Rd.J7 ho1.inv _,hf.of (gh.trans gE),by rw[hdh];omega,by rw[hlh];omega⟩;have ohe:Okk (s.head u).enter:=oh.enter (by omega) (hst.grow.trans gE) hf;have hnl:s.rows.length < (s.head u).rows.length:=by show _ < (s.node u (Hg.Rd.nd 5)).rows.length;rw[Hg.Rd.BK];omega
 have hlE:sE.level=s.level+1:=by rw[hst.level,F4,hlh]
 have hdE:sE.deep=s.deep+1:=by rw[hst.deep,Du,hdh]
 have hiE:Hg.Rd.Inv sE:=hst.inv ohe.inv;have hfE:Fin_ sE:=hf.of gE;have hseen:sE.seen.length≤10000000:=by have:=hiE.seen;have:=hiE.used;have:=hfE.rows;omega
 have TN:=fun W h=>zz (Fy (rb:=rb) (s:=s) (under:=u) s.rows.length (Hg.Rd.nd 5) (w:=W) h ho rfl hu rfl);have TQ:=fun W h=>zz (JD (rb:=rb) (s:=s.head u) (w:=W) h oh rfl);go_enter Tryz.func163,Tryz.ntmps163
 go_upto_if 20 with(first
  |(go_at_call 89;refine((TN _ hR).out).mono ?_;rintro e w1 ⟨rfl,hR1,hb1⟩;obtain⟨_,_,_,_,c13⟩:=hR1.cell;have f13:=hR1.frozen 13;rw[hlv1] at c13)
  |(go_at_call 166;refine((TQ _ (hR1.Wi (s.level+1) (by omega))).out).mono ?_;rintro e w2 ⟨rfl,hR2,hb2⟩))
 go_cut [] from 20 (fun wx=>RdAt wx rb sE∧Below rb w2 wx)
 case first=>
  rcases hways with⟨hb,e⟩|⟨hb,e⟩
  ·rw[hb]
   rw[←e] at hR2;go_wp2
   go_meet
   case rel=>exact⟨hR2,AP⟩
  ·rw[hb]
   have ohn:Okk ((s.head u).enter.need [123]):=ohe.es (Hg.Rd.Al _ _) (((Hg.Rd.EN f).2.2 _ _ _ e).grow.trans gE) hf;have hdn:((s.head u).enter.need [123]).deep≤90:=by rw[(Hg.Rd.Al _ _).deep];exact El hb
   have hvn:((s.head u).enter.need [123]).level≤((s.head u).enter.need [123]).deep:=by rw[(Hg.Rd.Al _ _).deep,(Hg.Rd.Al _ _).level,Du,F4,hlh,hdh];omega
   have hln:s.rows.length < ((s.head u).enter.need [123]).rows.length:=Ae hnl (by have:=(Hg.Rd.Cg (s.head u).enter [123]).len;rw[Hm] at this;exact this);have TD:=fun W h=>zz (Cx (rb:=rb) (s:=(s.head u).enter) (t:=[123]) (w:=W) h ohe);clear hb TN TQ;generalize(s.head u).enter.need [123]=t0 at*
   go_wp2_with (go_at_call 90;refine((TD _ hR2).out).mono ?_;rintro e w3 ⟨rfl,hR3,hb3⟩)
   go_loopg [32] f (fun k _ wr=>ZJ rb s.rows.length sE f w3 k wr)
   case atStart=>exact⟨t0,e,hR3,ohn,hdn,hvn,hln,AP,AA⟩
   case round=>
    obtain⟨t,hargs,hRt,hot,hdt,hvt,hlt,hBt,hkf⟩:=hrel;obtain⟨_,_,c3,_,_⟩:=hRt.cell;cases gk with
    |zero=>simp[Hg.Rd.stmts] at hargs
    |succ k=>
      rw[Hg.Rd.stmts] at hargs;by_cases hbad:t.bad=true
      ·rw[if_pos hbad] at hargs
       injection hargs with hargs;subst hargs;rw[hbad] at c3;clear hbad;go_wp2
       go_meet
       case rel=>exact⟨hRt,hb3.below.trans hBt⟩
      rw[if_neg hbad] at hargs;have hbf:t.bad=false:=by simpa using hbad
      rw[hbf] at c3;clear hbad hbf;by_cases hn:t.next [125]=true
      ·rw[if_pos hn] at hargs
       injection hargs with hargs;have TE:=fun W h=>zz (Ii (rb:=rb) (s:=t) (t:=[125]) (w:=W) h hot hn);rw[hargs] at TE;clear hn
       go_wp2_with (go_at_call 94;refine((TE _ hRt).out).mono ?_;rintro e w7 ⟨rfl,hR7,hb7⟩)
       go_meet
       case rel=>exact⟨hR7,(hb3.below.trans hBt).trans hb7.below⟩
      rw[if_neg hn] at hargs;have hnf:t.next [125]=false:=by simpa using hn
      clear hn;have TE:=fun W h=>zz (KY (rb:=rb) (s:=t) (t:=[125]) (w:=W) h hot hnf);clear hnf;cases hx:Hg.Rd.stmt k t s.rows.length with
      |none=>rw[hx] at hargs;simp at hargs
      |some t1=>
        rw[hx] at hargs;dsimp only at hargs;have ex:=(Hg.Rd.EN k).1 _ _ _ hx;have ey:=(Hg.Rd.EN k).2.2 _ _ _ hargs;have hft:Fin_ t1:=hfE.of ey.grow;have hot1:Okk t1:=hot.ss ex ey.grow hfE;have TX:=fun W h=>zz (ihS k (by omega) rb t s.rows.length t1 W hx h hot hdt hvt hft hlt)
        go_wp2_with (first
         |(go_at_call 94;refine((TE _ hRt).out).mono ?_;rintro e w7 ⟨rfl,hR7,hb7⟩)
         |(go_at_call 142;refine((TX _ hR7).out).mono ?_;rintro e w8 ⟨rfl,hR8,hb8⟩))
        go_roundg k
        case measure=>omega
        case rel=>exact⟨t1,hargs,hR8,hot1,(by rw[ex.deep];exact hdt),(by rw[ex.level,ex.deep];exact hvt),Ae hlt ex.grow.len,hBt.trans (hb7.below.trans hb8),by omega⟩
 case rest=>
  obtain⟨hRE,hBE⟩:=hcut;have hBw:Below rb w wc:=hb1.trans ((((AP).setCell (p:=⟨rb,13,none⟩) AA _).trans hb2).trans hBE);clear hways TN TQ hR hR1 hR2 hb1 hb2 hBE c13 f13 hn hst gh ho1 oh ohe;obtain⟨_,c2,_,_,c13⟩:=hRE.cell;have f2:=hRE.frozen 2;have f12:=hRE.frozen 12;have f13:=hRE.frozen 13;have HRE:=zz hRE;have hltE:=hRE.lt;rw[hdE] at c2;rw[hlE] at c13;have hR5:RdAt (wc.setCell ⟨rb,2,none⟩ (.int .i64 (s.deep:Int))) rb sE.leave:=hRE.NG (by omega) (by omega);clear hRE;have hB5:Below rb w (wc.setCell ⟨rb,2,none⟩ (.int .i64 (s.deep:Int))):=hBw.setCell (p:=⟨rb,2,none⟩) AA _;have h5:∃aS cS,wc.cell? ⟨rb,12,none⟩=some (.slice aS sE.seen.length cS)∧∀(k:Nat) (hk:k < sE.seen.length),∃g,aS=some ⟨g,0,none⟩∧
   (wc.setCell ⟨rb,2,none⟩ (.int .i64 (s.deep:Int))).cell? ⟨g,k*3,none⟩=some (strV sE.seen[k].name)∧(wc.setCell ⟨rb,2,none⟩ (.int .i64 (s.deep:Int))).cell? ⟨g,k*3+1,none⟩=some (.int .u64 (sE.seen[k].id:Int))∧
   (wc.setCell ⟨rb,2,none⟩ (.int .i64 (s.deep:Int))).cell? ⟨g,k*3+2,none⟩=some (.int .i64 (sE.seen[k].deep:Int)):=by
   obtain⟨a',c',k12',hs'⟩:=hR5.forSeen;refine⟨a',c', ?_,hs'⟩;rw[World.cell?_setCell_other wc ⟨rb,2,none⟩ ⟨rb,12,none⟩ _ (by simp)] at k12';exact k12'
  obtain⟨aS,cS,k12,hsc⟩:=h5;have HSC:=zz hsc;clear hsc
  go_upto_block 2 with fail
  obtain⟨_,_,_,_,k13⟩:=hR5.cell;have f12:=hR5.frozen 12;have f13:=hR5.frozen 13;have hlt5:=hR5.lt;have k13':(wc.setCell ⟨rb,2,none⟩ (.int .i64 (s.deep:Int))).cell? ⟨rb,13,none⟩=some (.int .i64 ((s.level:Int)+1)):=by
   rw[k13];show some (Value.int .i64 (sE.level:Int))=_;rw[hlE];simp
  clear k13 k12 c2 c13 hBw HRE;generalize World.setCell wc _ _=W5 at*
  go_cut [5] from 36 (fun v wx=>∃n,Below W5.heap.size W5 wx∧wx.ownsRow W5.heap.size 196 3 v n (((sE.seen).filter (fun b=>b.deep < s.level+1)).flatMap Ah)∧n=((sE.seen).filter (fun b=>b.deep < s.level+1)).length)
  case first=>
   go_wp2_with fail
   go_loopw [5,48] (fun v i wr=>Za sE.seen (s.level+1) W5 v i wr) (fun _ i _=>sE.seen.length-(intOf i).toNat)
   case atStart=>exact⟨0,by omega,rfl,AP,by simpa using World.ownsRow_nil _ _ _ _⟩
   case round=>
    obtain⟨k,hk,rfl,hbr,hown⟩:=hrel;have r13:=AY hbr AA k13';by_cases hlt:k < sE.seen.length
    ·obtain⟨g,rfl,d0,d1,d2⟩:=HSC.out k hlt
     have e0:=AY hbr AA d0;have e1:=AY hbr AA d1;have e2:=AY hbr AA d2;have hft:=zz (RD sE.seen (fun b=>decide (b.deep < s.level+1)) k hlt);have hnl2:((sE.seen.take k).filter (fun b=>decide (b.deep < s.level+1))).length≤10000000:=AO (List.length_filter_le _ _) (by simp;omega);clear d0 d1 d2;have hi1:(0:Int)≤(k:Int):=by omega
     have hi2:(k:Int) < (sE.seen.length:Int):=by omega
     generalize sE.seen[k]=bd at*;have hltr:rb < wr.heap.size:=Ae hlt5 hbr.size;go_upto_region 11 with fail;have qn:∀j u,[strV bd.name,.int .u64 (bd.id:Int),.int .i64 (bd.deep:Int)][j]? =some u→(wr.alloc (.cells #[strV bd.name,.int .u64 (bd.id:Int),.int .i64 (bd.deep:Int)] 196)).cell? ⟨wr.heap.size,j,none⟩=some u:=by
      intro j u hj;rw[AJ _ wr.heap.size j _ 196 (0,0) (AZ wr _)];simpa using hj
     have q0:=qn 0 _ rfl;have q1:=qn 1 _ rfl;have q2:=qn 2 _ rfl;have q13:=CY r13 (.cells #[strV bd.name,.int .u64 (bd.id:Int),.int .i64 (bd.deep:Int)] 196);have qb:Below wr.heap.size wr (wr.alloc (.cells #[strV bd.name,.int .u64 (bd.id:Int),.int .i64 (bd.deep:Int)] 196)):=(AP).alloc AA _;clear qn;generalize World.alloc wr _=WB at*;by_cases hq:bd.deep < s.level+1
     ·have hq1:decide ((bd.deep:Int) < (s.level:Int)+1)=true:=by simp;omega
      have hres:=zz (show(sE.seen.take (k+1)).filter (fun b=>decide (b.deep < s.level+1))=(sE.seen.take k).filter (fun b=>decide (b.deep < s.level+1))++[bd] by rw[hft.out];simp[hq]);clear hft
      go_quiet (fail)
      go_wp2_with (at_builtin;refine wpList_append_own_at _ rfl (.tmp 59) (.tmp 61) _ rfl W5.heap.size 196 i0 _ 3 32 Tryz.underlying88 hi hz0 hz1 hz2 rfl (by decide) _ _ _ rfl ((own_below hown (below_drewN qb nq) AA).alloc _) ⟨_,0,none⟩ 1 1 (Ah bd) rfl rfl (Ao _ _ _) ?_ ?_ ?_ ?_ ?_)
      ·exact Oz _
      ·unfold maxLen;omega
      ·omega
      ·have:=hbr.size;have:=qb.size;simp;omega
      intro v2 w2 hown2 hg2 _ _;have hb2:Below W5.heap.size W5 w2:=((hbr.trans ((below_drewN qb nq).mono hbr.size)).alloc (by have:=hbr.size;have:=qb.size;simp;omega) _).grown hg2 (by have:=hbr.size;have:=qb.size;simp;omega) (fun q hq=>(hown.lt q hq).1);clear q0 q1 q2 q13 hg2;go_wp2;go_roundw
      case rel=>
       refine⟨k+1,by omega,by go_num,hb2, ?_⟩;rw[hres.out,List.flatMap_append,List.length_append];simpa using hown2
      case measure=>simp[intOf];omega
     ·have hq1:decide ((bd.deep:Int) < (s.level:Int)+1)=false:=by simp;omega
      have hres:=zz (show(sE.seen.take (k+1)).filter (fun b=>decide (b.deep < s.level+1))=(sE.seen.take k).filter (fun b=>decide (b.deep < s.level+1)) by rw[hft.out];simp[hq]);clear hft
      go_quiet (fail)
      go_wp2;go_roundw
      case rel=>
       refine⟨k+1,by omega,by go_num,hbr.trans ((below_drewN qb nq).mono hbr.size), ?_⟩;rw[hres.out];exact own_below hown (below_drewN qb nq) AA
      case measure=>simp[intOf];omega
    ·obtain rfl:k=sE.seen.length:=by omega
     rw[List.take_length] at hown;go_wp2
     go_meet
     case rel=>exact⟨_,hbr,hown,rfl⟩
  case rest=>
   obtain⟨n,hbx,hownx,rfl⟩:=hcut;obtain⟨hRx,hBx⟩:=hR5.turnSeen hbx AA _ hownx;have hsh:s'={({sE.leave with seen:=(sE.seen).filter (fun b=>decide (b.deep < s.level+1))}:Hg.Rd) with level:=s.level}:=by
    rw[hsE];show({sE.leave with seen:=sE.seen.filter (fun b=>b.deep < sE.level),level:=sE.level-1}:Hg.Rd)=_;rw[hlE];rfl
   have HSH:=zz hsh;obtain⟨a',c',y12,_⟩:=hR5.forSeen;have z12:=AY hbx AA y12;have z13:=AY hbx AA k13';have g12:=(World.frozen?_of_block (a:=⟨rb,12,none⟩) (hbx.block rb hlt5)).trans f12;have g13:=(World.frozen?_of_block (a:=⟨rb,13,none⟩) (hbx.block rb hlt5)).trans f13;obtain⟨q5,z5,rfl⟩:=(Sl.Ai hownx).form;clear y12 f12 f13 k13' hownx hbx hsh hsE HSC hR5;go_wp2;go_end0;rw[HSH.out];exact⟨rfl,hRx.Wi s.level (by omega),(hB5.trans hBx).setCell (p:=⟨rb,13,none⟩) AA _⟩
theorem Ko{rb:Nat}{s:Hg.Rd}{w:World}(hR:RdAt w rb s)(hl:Okk s):
 Calls Tryz.prog 140 #[.pointer (some ⟨rb,0,none⟩)] w fun e w'=>e= .returned (.int .u8 (s.typed.1:Int))∧RdAt w' rb s.typed.2∧Lite rb w w':=Rj rb s w hR hl.lim
theorem Ls{rb:Nat}{s:Hg.Rd}{t:List UInt8}{k:Nat}{w:World}(hR:RdAt w rb s)(hl:Okk s)(hk:k < s.rows.length):
 Calls Tryz.prog 141 #[.pointer (some ⟨rb,0,none⟩),strV t,.int .i64 (k:Int)] w fun e w'=>e= .returned (.tuple #[])∧RdAt w' rb (s.declare t k)∧Below rb w w':=
 Ph rb s t k w hR (by have:=hl.inv.used;have:=hl.fin.rows;omega) (by have:=hl.inv.used;have:=hl.inv.seen;have:=hl.fin.rows;omega) (by have:=hl.fin.rows;omega) hk
theorem KH(s:Hg.Rd):s.name.rows.length=s.rows.length:=by rw[(Hg.Rd.Ck s).2.2]
section
variable {rb:Nat} {w0 w w':World} {s' s a:Hg.Rd}
theorem Ra.goS(h:Ra rb w0 s' s w)(e:Hg.Rd.Bw s a)(g:Hg.Rd.Grow a s')(hr:RdAt w' rb a)(hb:Below rb w w'):Ra rb w0 s' a w':=⟨hr,h.b.trans hb,e.inv h.i,by rw[e.deep];exact h.d,by rw[e.level];exact h.v,g,h.f⟩
theorem Ra.name(h:Ra rb w0 s' s w){x:List UInt8}(hx:s.text 1=x)(g:Hg.Rd.Grow s.name s'):Calls Tryz.prog 91 #[.pointer (some ⟨rb,0,none⟩)] w fun e w'=>e= .returned (strV x)∧Ra rb w0 s' s.name w':=by
 subst hx;exact(IV h.r h.ok).mono fun _ _ ⟨e,r,b⟩=>⟨e,h.go (Hg.Rd.Co _) g r b.below⟩
theorem Ra.block(h:Ra rb w0 s' s w){f u:Nat}(ih:Pw f)(he:Hg.Rd.block f s u=some a)(hd:s.deep≤90)(hl:s.level≤s.deep)(hu:u < s.rows.length)(g:Hg.Rd.Grow a s'):
 Calls Tryz.prog 163 #[.pointer (some ⟨rb,0,none⟩),.int .i64 (u:Int)] w fun e w'=>e= .returned (.tuple #[])∧Ra rb w0 s' a w':=
 (ih rb s u a w he h.r h.ok hd hl (h.f.of g) hu).mono fun _ _ ⟨e,r,b⟩=>⟨e,h.goS ((Hg.Rd.EN f).2.1 _ _ _ he) g r b⟩
end
theorem Ud(f:Nat)(ihB:Pw f):Xj (f+1):=by
 intro rb s u s' w he hR ho hdp hlv hf hu;have h:Ra rb w s' s w:=⟨hR,AP,ho.inv,ho.deep,ho.level,((Hg.Rd.EN (f+1)).1 _ _ _ he).grow,hf⟩;rw[Hg.Rd.stmt] at he
 try dsimp only at he
 clear hR;go_enter Tryz.func142,Tryz.ntmps142;go_wp2_with fail;by_cases hy:s.next Hg.wLet=true
 ·rw[if_pos hy] at he
  generalize q1:s.step.text 1=x1 at he;have S2:=(Hg.Rd.BN s).trans (Hg.Rd.Co s.step);have hn2:s.step.name.rows.length=s.rows.length:=KH s.step;have S3:=Hg.Rd.Av s.step.name u (Hg.Rd.Ac 6 x1) rfl;have hl3:=Hg.Rd.BK s.step.name u (Hg.Rd.Ac 6 x1);generalize e3:s.step.name.node u (Hg.Rd.Ac 6 x1)=a3 at*;have S4:=Hg.Rd.Fh a3;have S5:=S4.trans (Hg.Rd.EK a3.typed.2 s.rows.length a3.typed.1);generalize e5:a3.typed.2.BA s.rows.length a3.typed.1=a5 at*;have S6:=Hg.Rd.Al a5 [61];cases e7:Hg.Rd.expr f (a5.need [61]) s.rows.length with
  |none=>rw[e7] at he;simp at he
  |some a7=> ?_
  rw[e7] at he;injection he with he;have S7:=(Hg.Rd.CF f).1 _ _ _ e7;have g5:=S5.grow.len;have g6:=S6.grow.len;have g7:=S7.grow.len;have G8:Hg.Rd.Grow (a7.declare x1 s.rows.length) s':=by rw[←he];exact Hg.Rd.Cg _ _
  have G7:=(Hg.Rd.He a7 x1 s.rows.length).trans G8;have G6:=S7.grow.trans G7;have G5:=S6.grow.trans G6;have G3:=S5.grow.trans G5;refine(h.yes hy ((Hg.Rd.Co s.step).grow.trans (S3.grow.trans G3))).mono ?_;clear h;rintro e w1 ⟨rfl,h⟩;go_wp2_with fail;refine(h.name q1 (S3.grow.trans G3)).mono ?_;clear h;rintro e w2 ⟨rfl,h⟩;go_wp2_with fail;refine(h.node (n:=s.rows.length) (Hg.Rd.Ac 6 x1) rfl (by rw[hn2];exact hu) hn2 (e3 ▸ G3)).mono ?_;clear h;rintro e w3 ⟨rfl,h⟩;rw[e3] at h;obtain⟨g,c,c4,hg1,hg2,-⟩:=h.r.forCell (k:=s.rows.length) (AX (by omega));have hHeld:(fun w'=>w'.cell? ⟨rb,4,none⟩=some (.slice (some ⟨g,0,none⟩) a3.rows.length c)) w3.drew:=c4;go_upto_region 9 with fail;refine Ay (fun w'=>w'.cell? ⟨rb,4,none⟩=some (.slice (some ⟨g,0,none⟩) a3.rows.length c)) 7 (by kernel_rfl) ?_;refine tz 0 ?_;refine tz 1 ?_;refine tz 2 ?_;refine tz 3 ?_;refine tz 4 ?_;refine tz 5 ?_;refine AR (i:=6) rfl (by kernel_rfl) (fun K hK=> ?_);go_simp
  go_at_call 140
  refine(Ko (h.r.drewN 1) h.ok).mono ?_;rintro e w5 ⟨rfl,hR5,hb5⟩;refine hK.out _ _ (hb5.c4.trans hHeld) (fun hHeld=> ?_);clear hK K
  try simp only[Act.put,sA,sB,sC]
  refine Ag (by kernel_rfl) ?_;simp only[List.drop_succ_cons,List.drop_zero];clear hHeld;have g4:=S4.grow.len;obtain⟨g',c',c4',-,hg3,-,hcs,hfz,hset⟩:=hR5.forCell (k:=s.rows.length) (AX (by omega));have hgg:=hb5.c4.symm.trans c4';rw[show(w3.drewN 1).cell? ⟨rb,4,none⟩=w3.cell? ⟨rb,4,none⟩ from rfl,c4] at hgg;injection hgg with hgg;injection hgg with e1 e2 _;injection e1 with e1;injection e1 with e1;subst e1;obtain⟨u5,hc5⟩:=hcs 4 (by omega);have hf5:=hfz (s.rows.length*7+4);have HS:=zz hset;have hi1:(0:Int)≤(s.rows.length:Int):=by omega
  have hi2:(s.rows.length:Int) < (a3.rows.length:Int):=by omega
  clear hset hcs hfz c4';go_wp2_with fail;obtain⟨r1,r2⟩:=HS.out 4 (.int .u8 (a3.typed.1:Int)) (fun x=>{x with node:={x.node with type:=a3.typed.1}}) (by omega) (fun _ _=>rfl) (fun _=>rfl);rw[show s.rows.length*7+1+3=s.rows.length*7+4 by omega];have h:=h.go (a:=a5) S5 G5 (e5 ▸ r1) (((below_drewN (AP) 1).trans hb5.below).trans r2);have hd:=(S2.trans (S3.trans (S5.trans S6))).deep;have D:=Hg.Rd.Ho a7 x1 s.rows.length;have I:=(Hg.Rd.Gu (S2.trans (S3.trans (S5.trans (S6.trans S7)))) (by omega) x1 s.rows.length).inv ho.inv;clear r1 r2 HS hc5 hf5;refine(h.need G6).mono ?_;clear h;rintro e w6 ⟨rfl,h⟩;go_wp2_with fail;refine(h.expr (FM f) e7 (by omega) (by omega) G7).mono ?_;clear h;rintro e w7 ⟨rfl,h⟩;go_wp2_with fail;refine(Ls h.r h.ok (by omega)).mono ?_;rintro e w8 ⟨rfl,hr,hb⟩;have h:Ra rb w s' (a7.declare x1 s.rows.length) w8:=⟨hr,h.b.trans hb,I,by rw[D.1];exact h.d,by rw[D.2.1];exact h.v,G8,hf⟩;clear hr hb;go_wp2_with fail;refine(h.need (by rw[he];exact Hg.Rd.Grow.refl _)).mono ?_;clear h;rintro e w9 ⟨rfl,h⟩;rw[he] at h;go_wp2;go_end0;exact⟨rfl,h.end_⟩
 rw[if_neg hy] at he;refine(h.no (t:=Hg.wLet) (by simpa using hy)).mono ?_;clear h hy;rintro e w1 ⟨rfl,h⟩;go_wp2_with fail;have hn2:s.step.rows.length=s.rows.length:=rfl;by_cases hy:s.next Hg.wIf=true
 ·rw[if_pos hy] at he
  have S3:=Hg.Rd.Av s.step u (Hg.Rd.nd 8) rfl;have hl3:=Hg.Rd.BK s.step u (Hg.Rd.nd 8);generalize e3:s.step.node u (Hg.Rd.nd 8)=a3 at*;cases e4:Hg.Rd.expr f a3 s.rows.length with
  |none=>rw[e4] at he;simp at he
  |some a4=> ?_
  rw[e4] at he;dsimp only at he;cases e5:Hg.Rd.block f a4 s.rows.length with
  |none=>rw[e5] at he;simp at he
  |some a5=> ?_
  rw[e5] at he;dsimp only at he;have S4:=((Hg.Rd.BN s).trans (S3.trans ((Hg.Rd.CF f).1 _ _ _ e4))).s;have S5:=(Hg.Rd.EN f).2.1 _ _ _ e5;have S6:=S5.trans (Hg.Rd.Al a5 Hg.LV).s;have g4:=((Hg.Rd.CF f).1 _ _ _ e4).grow;have G6:=((Hg.Rd.EN f).2.1 _ _ _ he).grow;have G5:=(Hg.Rd.Al a5 Hg.LV).grow.trans G6;have G4:=S5.grow.trans G5;have G3:=g4.trans G4;have d4:=S4.deep;have v4:=S4.level;have d6:=S6.deep;have v6:=S6.level;have l4:=g4.len;have l6:=S6.grow.len;refine(h.yes hy (S3.grow.trans G3)).mono ?_;clear h;rintro e w2 ⟨rfl,h⟩;go_wp2_with fail;refine(h.node (n:=s.rows.length) (Hg.Rd.nd 8) rfl hu hn2 (e3 ▸ G3)).mono ?_;clear h;rintro e w3 ⟨rfl,h⟩;rw[e3] at h;go_wp2_with fail;refine(h.expr (FM f) e4 (by rw[S3.deep];exact hdp) (by omega) G4).mono ?_;clear h;rintro e w4 ⟨rfl,h⟩;go_wp2_with fail;refine(h.block ihB e5 (by omega) (by omega) (by omega) G5).mono ?_;clear h;rintro e w5 ⟨rfl,h⟩;go_wp2_with fail;refine(h.need G6).mono ?_;clear h;rintro e w6 ⟨rfl,h⟩;go_wp2_with fail;refine(h.block ihB he (by omega) (by omega) (by omega) (Hg.Rd.Grow.refl _)).mono ?_;clear h;rintro e w7 ⟨rfl,h⟩;go_wp2;go_end0;exact⟨rfl,h.end_⟩
 rw[if_neg hy] at he;refine(h.no (t:=Hg.wIf) (by simpa using hy)).mono ?_;clear h hy;rintro e w2 ⟨rfl,h⟩;go_wp2_with fail;by_cases hy:s.next Hg.IC=true
 ·rw[if_pos hy] at he
  have S3:=Hg.Rd.Av s.step u (Hg.Rd.nd 9) rfl;have hl3:=Hg.Rd.BK s.step u (Hg.Rd.nd 9);generalize e3:s.step.node u (Hg.Rd.nd 9)=a3 at*;cases e4:Hg.Rd.expr f a3 s.rows.length with
  |none=>rw[e4] at he;simp at he
  |some a4=> ?_
  rw[e4] at he;dsimp only at he;have S4:=((Hg.Rd.BN s).trans (S3.trans ((Hg.Rd.CF f).1 _ _ _ e4)));have g4:=((Hg.Rd.CF f).1 _ _ _ e4).grow;have G4:=((Hg.Rd.EN f).2.1 _ _ _ he).grow;have G3:=g4.trans G4;have d4:=S4.deep;have v4:=S4.level;have l4:=g4.len;refine(h.yes hy (S3.grow.trans G3)).mono ?_;clear h;rintro e w3 ⟨rfl,h⟩;go_wp2_with fail;refine(h.node (n:=s.rows.length) (Hg.Rd.nd 9) rfl hu hn2 (e3 ▸ G3)).mono ?_;clear h;rintro e w4 ⟨rfl,h⟩;rw[e3] at h;go_wp2_with fail;refine(h.expr (FM f) e4 (by rw[S3.deep];exact hdp) (by omega) G4).mono ?_;clear h;rintro e w5 ⟨rfl,h⟩;go_wp2_with fail;refine(h.block ihB he (by omega) (by omega) (by omega) (Hg.Rd.Grow.refl _)).mono ?_;clear h;rintro e w6 ⟨rfl,h⟩;go_wp2;go_end0;exact⟨rfl,h.end_⟩
 rw[if_neg hy] at he;refine(h.no (t:=Hg.IC) (by simpa using hy)).mono ?_;clear h hy;rintro e w3 ⟨rfl,h⟩;go_wp2_with fail;by_cases hy:s.next Hg.IE=true
 ·rw[if_pos hy] at he
  have S3:=Hg.Rd.Av s.step u (Hg.Rd.nd 11) rfl;have hl3:=Hg.Rd.BK s.step u (Hg.Rd.nd 11);generalize e3:s.step.node u (Hg.Rd.nd 11)=a3 at*;cases e4:Hg.Rd.expr f a3 s.rows.length with
  |none=>rw[e4] at he;simp at he
  |some a4=> ?_
  rw[e4] at he;injection he with he;have g4:=((Hg.Rd.CF f).1 _ _ _ e4).grow;have G4:Hg.Rd.Grow a4 s':=by rw[←he];exact Hg.Rd.Cg _ _
  have G3:=g4.trans G4;refine(h.yes hy (S3.grow.trans G3)).mono ?_;clear h;rintro e w4 ⟨rfl,h⟩;go_wp2_with fail;refine(h.node (n:=s.rows.length) (Hg.Rd.nd 11) rfl hu hn2 (e3 ▸ G3)).mono ?_;clear h;rintro e w5 ⟨rfl,h⟩;rw[e3] at h;go_wp2_with fail;refine(h.expr (FM f) e4 (by rw[S3.deep];exact hdp) (by omega) G4).mono ?_;clear h;rintro e w6 ⟨rfl,h⟩;go_wp2_with fail;refine(h.need (by rw[he];exact Hg.Rd.Grow.refl _)).mono ?_;clear h;rintro e w7 ⟨rfl,h⟩;rw[he] at h;go_wp2;go_end0;exact⟨rfl,h.end_⟩
 rw[if_neg hy] at he;refine(h.no (t:=Hg.IE) (by simpa using hy)).mono ?_;clear h hy;rintro e w4 ⟨rfl,h⟩;go_wp2_with fail;by_cases hy:s.next Hg.wDo=true
 ·rw[if_pos hy] at he
  have S3:=Hg.Rd.Av s.step u (Hg.Rd.nd 12) rfl;have hl3:=Hg.Rd.BK s.step u (Hg.Rd.nd 12);generalize e3:s.step.node u (Hg.Rd.nd 12)=a3 at*;have S5:=S3.trans (Hg.Rd.Co a3);have hn4:a3.name.rows.length=a3.rows.length:=KH a3;generalize q1:a3.text 1=x1 at he;cases e4:Hg.Rd.call f a3.name s.rows.length x1 with
  |none=>rw[e4] at he;simp at he
  |some a4=> ?_
  rw[e4] at he;injection he with he;have S6:=(Hg.Rd.CF f).2.1 _ _ _ _ e4;have G4:Hg.Rd.Grow a4 s':=by rw[←he];exact Hg.Rd.Cg _ _
  have G5:=S6.grow.trans G4;have G3:=(Hg.Rd.Co a3).grow.trans G5;refine(h.yes hy (S3.grow.trans G3)).mono ?_;clear h;rintro e w5 ⟨rfl,h⟩;go_wp2_with fail;refine(h.node (n:=s.rows.length) (Hg.Rd.nd 12) rfl hu hn2 (e3 ▸ G3)).mono ?_;clear h;rintro e w6 ⟨rfl,h⟩;rw[e3] at h;have hx:=h.ok.text 1;rw[q1] at hx;go_wp2_with fail;refine(h.name q1 G5).mono ?_;clear h;rintro e w7 ⟨rfl,h⟩;go_wp2_with fail;refine(VW f rb a3.name s.rows.length x1 a4 _ e4 h.r h.ok (by rw[S5.deep];exact hdp) (hf.of G4) (by omega) hx).mono ?_;rintro e w8 ⟨rfl,hr,hb⟩;have h:=h.go S6 G4 hr hb;clear hr hb;go_wp2_with fail;refine(h.need (by rw[he];exact Hg.Rd.Grow.refl _)).mono ?_;clear h;rintro e w9 ⟨rfl,h⟩;rw[he] at h;go_wp2;go_end0;exact⟨rfl,h.end_⟩
 rw[if_neg hy] at he;refine(h.no (t:=Hg.wDo) (by simpa using hy)).mono ?_;clear h hy;rintro e w5 ⟨rfl,h⟩;go_wp2_with fail;generalize q1:s.text 1=x1 at he;have S2:=Hg.Rd.Co s;have hn3:s.name.rows.length=s.rows.length:=KH s;have S3:=Hg.Rd.Av s.name u (Hg.Rd.nd 7) rfl;have hl3:=Hg.Rd.BK s.name u (Hg.Rd.nd 7);generalize e3:s.name.node u (Hg.Rd.nd 7)=a3 at*;have S4:=Hg.Rd.MO a3 x1;have S5:=S4.trans (Hg.Rd.FO (a3.find x1).2 s.rows.length (a3.find x1).1);generalize e5:(a3.find x1).2.DL s.rows.length (a3.find x1).1=a5 at*;have S6:=Hg.Rd.Al a5 [61];cases e7:Hg.Rd.expr f (a5.need [61]) s.rows.length with
 |none=>rw[e7] at he;simp at he
 |some a7=> ?_
 rw[e7] at he;injection he with he;have S7:=(Hg.Rd.CF f).1 _ _ _ e7;have g4:=S4.grow.len;have g5:=S5.grow.len;have g6:=S6.grow.len;have G7:Hg.Rd.Grow a7 s':=by rw[←he];exact Hg.Rd.Cg _ _
 have G6:=S7.grow.trans G7;have G5:=S6.grow.trans G6;have G3:=S5.grow.trans G5;refine(h.name q1 (S3.grow.trans G3)).mono ?_;clear h;rintro e w2 ⟨rfl,h⟩;go_wp2_with fail;refine(h.node (n:=s.rows.length) (Hg.Rd.nd 7) rfl (by rw[hn3];exact hu) hn3 (e3 ▸ G3)).mono ?_;clear h;rintro e w3 ⟨rfl,h⟩;rw[e3] at h;obtain⟨g,c,c4,hg1,hg2,-⟩:=h.r.forCell (k:=s.rows.length) (AX (by omega));have hHeld:(fun w'=>w'.cell? ⟨rb,4,none⟩=some (.slice (some ⟨g,0,none⟩) a3.rows.length c)) w3.drew:=c4;go_upto_region 2 with fail;refine Ay (fun w'=>w'.cell? ⟨rb,4,none⟩=some (.slice (some ⟨g,0,none⟩) a3.rows.length c)) 8 (by kernel_rfl) ?_;refine tz 0 ?_;refine tz 1 ?_;refine tz 2 ?_;refine tz 3 ?_;refine tz 4 ?_;refine tz 5 ?_;refine tz 6 ?_;refine AR (i:=7) rfl (by kernel_rfl) (fun K hK=> ?_);go_simp
 go_at_call 165
 refine(RA (t:=x1) (h.r.drewN 1) h.ok).mono ?_;rintro e w5 ⟨rfl,hR5,hb5⟩;refine hK.out _ _ (hb5.c4.trans hHeld) (fun hHeld=> ?_);clear hK K
 try simp only[Act.put,sA,sB,sC]
 refine Ag (by kernel_rfl) ?_;simp only[List.drop_succ_cons,List.drop_zero];clear hHeld;obtain⟨g',c',c4',-,hg3,-,hcs,hfz,hset⟩:=hR5.forCell (k:=s.rows.length) (AX (by omega));have hgg:=hb5.c4.symm.trans c4';rw[show(w3.drewN 1).cell? ⟨rb,4,none⟩=w3.cell? ⟨rb,4,none⟩ from rfl,c4] at hgg;injection hgg with hgg;injection hgg with e1 e2 _;injection e1 with e1;injection e1 with e1;subst e1;obtain⟨u5,hc5⟩:=hcs 5 (by omega);have hf5:=hfz (s.rows.length*7+5);have HS:=zz hset;have hi1:(0:Int)≤(s.rows.length:Int):=by omega
 have hi2:(s.rows.length:Int) < (a3.rows.length:Int):=by omega
 clear hset hcs hfz c4';go_wp2_with fail;obtain⟨r1,r2⟩:=HS.out 5 (.int .u64 ((a3.find x1).1:Int)) (fun x=>{x with node:={x.node with ref:=(a3.find x1).1}}) (by omega) (fun _ _=>rfl) (fun _=>rfl);rw[show s.rows.length*7+1+4=s.rows.length*7+5 by omega];have h:=h.go (a:=a5) S5 G5 (e5 ▸ r1) (((below_drewN (AP) 1).trans hb5.below).trans r2);have hd:=(S2.trans (S3.trans (S5.trans S6))).deep;clear r1 r2 HS hc5 hf5;refine(h.need G6).mono ?_;clear h;rintro e w6 ⟨rfl,h⟩;go_wp2_with fail;refine(h.expr (FM f) e7 (by omega) (by omega) G7).mono ?_;clear h;rintro e w7 ⟨rfl,h⟩;go_wp2_with fail;refine(h.need (by rw[he];exact Hg.Rd.Grow.refl _)).mono ?_;clear h;rintro e w8 ⟨rfl,h⟩;rw[he] at h;go_wp2;go_end0;exact⟨rfl,h.end_⟩
theorem Ue(f:Nat):Xj f∧Pw f:=by
 induction f using Nat.strongRecOn with
 |_ f ih=>
   cases f with
   |zero=>exact⟨fun rb s u s' w he=>by simp[Hg.Rd.stmt] at he,fun rb s u s' w he=>by simp[Hg.Rd.block] at he⟩
   |succ f=>exact⟨Ud f (ih f (Nat.lt_succ_self f)).2,Sy f fun g hg=>(ih g (by omega)).1⟩
end Go.Proofs.YtijhlanclfajiaaGreatDoor
