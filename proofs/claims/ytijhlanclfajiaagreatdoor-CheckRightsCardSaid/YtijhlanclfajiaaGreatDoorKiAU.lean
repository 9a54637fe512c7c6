/-
  A part of the proof.
-/
import Derived.Test.YtijhlanclfajiaaGreatDoorKiAT
import Derived.Test.YtijhlanclfajiaaGreatDoorKiAN
set_option linter.all false
set_option maxHeartbeats 32000000
set_option maxRecDepth 100000
namespace Go.Proofs.YtijhlanclfajiaaGreatDoor
open Go.RowKit
theorem RdAt.openLists{w:World}{rb:Nat}{s:Hg.Rd}(h:RdAt w rb s):
 RdAt (((w.setCell ⟨rb,11,none⟩ (.slice none 0 0)).setCell ⟨rb,12,none⟩ (.slice none 0 0)).setCell ⟨rb,13,none⟩ (.int .i64 0)) rb {s with used:=[],seen:=[],level:=0}:=by
 obtain⟨vL,vR,vM,vF,vI,vC,vW,vU,vS,ks,h1,h2,h3,h4⟩:=h;have g0:∀r,w.grownBy w r:=fun r=>⟨rfl,rfl,rfl,AA,fun _ _ _=>rfl⟩;have h5:=BQ.turn (l1:=[⟨vR,46,7,s.rows.length,Aa s.rows ks⟩,⟨vM,9,1,s.mods.length,s.mods.map strV⟩,⟨vF,9,1,s.funcs.length,s.funcs.map strV⟩,
  ⟨vI,37,1,s.ids.length,s.ids.map idV⟩,⟨vC,37,1,s.calls.length,s.calls.map idV⟩,⟨vW,9,1,s.wants.length,s.wants.map strV⟩])
  (o:=⟨vU,9,1,s.used.length,s.used.map strV⟩) (l2:=⟨vS,196,3,s.seen.length,s.seen.flatMap Ah⟩::Bc s.rows ks) (o':=Own.nil 9 1) h4 (World.ownsRow_nil _ _ _ _) (g0 _) (fun g hg=>by simp[Own.nil,Value.ownBlock] at hg)
 have h6:BQ w (rb+1) (([⟨vR,46,7,s.rows.length,Aa s.rows ks⟩,⟨vM,9,1,s.mods.length,s.mods.map strV⟩,⟨vF,9,1,s.funcs.length,s.funcs.map strV⟩,
  ⟨vI,37,1,s.ids.length,s.ids.map idV⟩,⟨vC,37,1,s.calls.length,s.calls.map idV⟩,⟨vW,9,1,s.wants.length,s.wants.map strV⟩]++[Own.nil 9 1])++(⟨vS,196,3,s.seen.length,s.seen.flatMap Ah⟩:Own)::Bc s.rows ks):=h5
 have h7:=BQ.turn (o':=Own.nil 196 3) h6 (World.ownsRow_nil _ _ _ _) (g0 _) (fun g hg=>by simp[Own.nil,Value.ownBlock] at hg);have h8:=((h7.setCell (p:=⟨rb,11,none⟩) (Nat.lt_succ_self _) (.slice none 0 0)).setCell (p:=⟨rb,12,none⟩) (Nat.lt_succ_self _) (.slice none 0 0)).setCell (p:=⟨rb,13,none⟩) (Nat.lt_succ_self _) (.int .i64 0);refine⟨vL,vR,vM,vF,vI,vC,vW,.slice none 0 0,.slice none 0 0,ks, ?_, ?_,h3, ?_⟩
 ·exact heap_setCell_same (heap_setCell_same (heap_setCell_same h1 _) _) _
 ·exact((h2.setCell (p:=⟨rb,11,none⟩) AA _).setCell (p:=⟨rb,12,none⟩) AA _).setCell (p:=⟨rb,13,none⟩) AA _
 ·simpa[BU,Own.nil] using h8
def Zf(f:Nat):Prop:=∀(rb:Nat) (s:Hg.Rd) (u:Nat) (m:List UInt8) (s':Hg.Rd) (w:World),Hg.Rd.func f s u m=some s'→RdAt w rb s→Okk s→s.deep≤90→Fin_ s'→u < s.rows.length→m.length≤1000000→
 Calls Tryz.prog 95 #[.pointer (some ⟨rb,0,none⟩),.int .i64 (u:Int),strV m] w fun e w'=>e= .returned (.tuple #[])∧RdAt w' rb s'∧Below rb w w'
def Yh(rb n:Nat)(sE:Hg.Rd)(w0:World)(k:Nat)(p:Value)(wr:World):Prop:=
 ∃(b:Bool) (t:Hg.Rd),p= .bool b∧Hg.Rd.params k b t n=some sE∧RdAt wr rb t∧Okk t∧n < t.rows.length∧Below rb w0 wr
def Zg(rb n:Nat)(sE:Hg.Rd)(w0:World)(k:Nat)(wr:World):Prop:=
 ∃(t:Hg.Rd),Hg.Rd.body k t n=some sE∧RdAt wr rb t∧Okk t∧t.deep≤90∧t.level≤t.deep∧n < t.rows.length∧Below rb w0 wr
theorem Okk.fs{s a s':Hg.Rd}(h:Okk s)(e:Hg.Rd.EX s a)(hv:a.level≤1000)(g:Hg.Rd.Grow a s')(hf:Fin_ s'):Okk a:=
 ⟨e.inv h.inv,hf.of g,by rw[e.deep];exact h.deep,hv⟩
theorem Nz(f:Nat):Zf f:=by
 intro rb s u m s' w h hR ho hdp hf hu hm;obtain⟨j0,hj,hj0,hj1,hj2⟩:=info_parts SN;obtain⟨k0,hk,hk0,hk1,hk2⟩:=info_parts MG;unfold Hg.Rd.func at h;dsimp only at h;rw[show m++[32]++(s.need Hg.Df).text 1=m++32::(s.need Hg.Df).text 1 by simp] at h;generalize e1:s.need Hg.Df=a1 at h;generalize qx:a1.text 1=x at h;generalize e2:a1.name=a2 at h;have A1:Hg.Rd.Ak s a1:=by rw[←e1];exact Hg.Rd.Al _ _
 have A2:Hg.Rd.Ak a1 a2:=by rw[←e2];exact Hg.Rd.Co _
 have A3:Hg.Rd.Ak a2 (if Hg.inL a2.funcs (m++32::x)=true then a2.fault 10 else a2):=Hg.Rd.Kg _ _;generalize e3:(if Hg.inL a2.funcs (m++32::x)=true then a2.fault 10 else a2)=a3 at h A3;generalize hkk:a3.rows.length=k at h;generalize e4:a3.node u (Hg.Rd.Ac 3 x)=a4 at h;have A4:Hg.Rd.Ak a3 a4:=by rw[←e4];exact Hg.Rd.Av _ _ _ rfl
 have hl4:a4.rows.length=k+1:=by rw[←e4,Hg.Rd.BK,hkk]
 have A14:Hg.Rd.Ak s a4:=(A1.trans A2).trans (A3.trans A4);generalize ecid:a4.idAt k=cid at h;generalize e6:({a4 with funcs:=a4.funcs++[m++32::x],ids:=a4.ids++[cid],used:=[],seen:=[],level:=0}:Hg.Rd)=a6 at h;obtain⟨a5,e5⟩:∃a5,({a4 with funcs:=a4.funcs++[m++32::x],ids:=a4.ids++[cid]}:Hg.Rd)=a5:=⟨_,rfl⟩;have e56:({a5 with used:=[],seen:=[],level:=0}:Hg.Rd)=a6:=by rw[←e5,←e6]
 have A6:Hg.Rd.EX s a6:=by rw[←e6,←ecid];exact Hg.Rd.UB A14.s.f A14.funcs (by have:=(A1.trans (A2.trans A3)).grow.len;omega) _ _
 have hv6:a6.level=0:=by rw[←e6]
 have hr6:a6.rows=a4.rows:=by rw[←e6]
 have g46:Hg.Rd.Grow a4 a6:=by rw[←e6];exact Hg.Rd.Bq rfl AA id rfl
 generalize e7:a6.need [40]=a7 at h;have A7:Hg.Rd.Bw a6 a7:=by rw[←e7];exact(Hg.Rd.Al _ _).s
 cases e8:Hg.Rd.params f true a7 k with
 |none=>rw[e8] at h;simp at h
 |some a8=>
 rw[e8] at h;dsimp only at h;have A8:Hg.Rd.Bw a7 a8:=Hg.Rd.I8 _ _ _ _ _ e8;generalize qty:a8.typed.1=tyq at h;generalize e9:a8.typed.2=a9 at h;have A9:Hg.Rd.Bw a8 a9:=by rw[←e9];exact(Hg.Rd.Fh _).s
 generalize e10:a9.BA k tyq=a10 at h;have A10:Hg.Rd.Bw a9 a10:=by rw[←e10];exact(Hg.Rd.EK _ _ _).s
 generalize qb:a10.rows.length=b at h;generalize e11:a10.node k (Hg.Rd.nd 5)=a11 at h;have A11:Hg.Rd.Bw a10 a11:=by rw[←e11];exact(Hg.Rd.Av _ _ _ rfl).s
 have hl11:a11.rows.length=b+1:=by rw[←e11,Hg.Rd.BK,qb]
 generalize e12:a11.need [123]=a12 at h;have A12:Hg.Rd.Bw a11 a12:=by rw[←e12];exact(Hg.Rd.Al _ _).s
 cases e13:Hg.Rd.body f a12 b with
 |none=>rw[e13] at h;simp at h
 |some a13=>
 rw[e13] at h;dsimp only at h;have A13:Hg.Rd.Bw a12 a13:=Hg.Rd.MQ _ _ _ _ e13;generalize e14:a13.need Hg.Br=a14 at h;have A14':Hg.Rd.Bw a13 a14:=by rw[←e14];exact(Hg.Rd.Al _ _).s
 generalize qn:a14.rows.length=n at h;generalize e15:a14.node b (Hg.Rd.nd 10)=a15 at h;have A15:Hg.Rd.Bw a14 a15:=by rw[←e15];exact(Hg.Rd.Av _ _ _ rfl).s
 have hl15:a15.rows.length=n+1:=by rw[←e15,Hg.Rd.BK,qn]
 cases e16:Hg.Rd.expr f a15 n with
 |none=>rw[e16] at h;simp at h
 |some a16=>
 rw[e16] at h;injection h with e18;have A16:Hg.Rd.Bw a15 a16:=((Hg.Rd.CF f).1 _ _ _ e16).s;generalize e17:a16.need [59]=a17 at e18;have A17:Hg.Rd.Bw a16 a17:=by rw[←e17];exact(Hg.Rd.Al _ _).s
 have A18:Hg.Rd.Bw a17 s':=by rw[←e18];exact(Hg.Rd.Al _ _).s
 have G17:=A18.grow;have G16:=A17.grow.trans G17;have G15:=A16.grow.trans G16;have G14:=A15.grow.trans G15;have G13:=A14'.grow.trans G14;have G12:=A13.grow.trans G13;have G11:=A12.grow.trans G12;have G10:=A11.grow.trans G11;have G9:=A10.grow.trans G10;have G8:=A9.grow.trans G9;have G7:=A8.grow.trans G8;have G6:=A7.grow.trans G7;have G4:=g46.trans G6;have G3:=A4.grow.trans G4;have G2:=A3.grow.trans G3;have G1:=A2.grow.trans G2;have o1:Okk a1:=ho.es A1 G1 hf;have o2:Okk a2:=o1.es A2 G2 hf;have o3:Okk a3:=o2.es A3 G3 hf;have o4:Okk a4:=o3.es A4 G4 hf;have o6:Okk a6:=ho.fs A6 (by omega) G6 hf;have o7:Okk a7:=o6.ss A7 G7 hf;have o8:Okk a8:=o7.ss A8 G8 hf;have o9:Okk a9:=o8.ss A9 G9 hf;have o10:Okk a10:=o9.ss A10 G10 hf;have o11:Okk a11:=o10.ss A11 G11 hf;have o12:Okk a12:=o11.ss A12 G12 hf;have o13:Okk a13:=o12.ss A13 G13 hf;have o14:Okk a14:=o13.ss A14' G14 hf;have o15:Okk a15:=o14.ss A15 G15 hf;have o16:Okk a16:=o15.ss A16 G16 hf;have o17:Okk a17:=o16.ss A17 G17 hf;have hd6:a6.deep≤90:=by rw[A6.deep];exact hdp
 have hd12:a12.deep≤90:=by rw[A12.deep,A11.deep,A10.deep,A9.deep,A8.deep,A7.deep];exact hd6
 have hv12:a12.level≤a12.deep:=by rw[A12.level,A11.level,A10.level,A9.level,A8.level,A7.level,hv6];omega
 have hd15:a15.deep≤90:=by rw[A15.deep,A14'.deep,A13.deep];exact hd12
 have hu3:u < a3.rows.length:=Ae hu (A1.trans (A2.trans A3)).grow.len;have hk7:k < a7.rows.length:=by have:=A7.grow.len;rw[hr6] at this;omega
 have hk8:k < a8.rows.length:=Ae hk7 A8.grow.len;have hk9:k < a9.rows.length:=Ae hk8 A9.grow.len;have hk10:k < a10.rows.length:=Ae hk9 A10.grow.len;have hb12:b < a12.rows.length:=by have:=A12.grow.len;omega
 have hb14:b < a14.rows.length:=Ae hb12 (A13.grow.trans A14'.grow).len;have hx:x.length≤1000000:=by rw[←qx];exact o1.text 1
 have T1:=fun W h=>zz (Cx (rb:=rb) (s:=s) (t:=[102,117,110,99]) (w:=W) h ho);rw[show s.need [102,117,110,99]=a1 from e1] at T1;have T2:=fun W h=>zz (IV (rb:=rb) (s:=a1) (w:=W) h o1);rw[qx,e2] at T2;have T4:=fun W h=>zz (Fy (rb:=rb) (s:=a3) (under:=u) k (Hg.Rd.Ac 3 x) (w:=W) h o3 rfl hu3 hkk);rw[e4] at T4;have T7:=fun W h=>zz (Cx (rb:=rb) (s:=a6) (t:=[40]) (w:=W) h o6);rw[e7] at T7;have T9:=fun W h=>zz (Ko (rb:=rb) (s:=a8) (w:=W) h o8);rw[qty,e9] at T9;have T11:=fun W h=>zz (Fy (rb:=rb) (s:=a10) (under:=k) b (Hg.Rd.nd 5) (w:=W) h o10 rfl hk10 qb);rw[e11] at T11;have T12:=fun W h=>zz (Cx (rb:=rb) (s:=a11) (t:=[123]) (w:=W) h o11);rw[e12] at T12;have T14:=fun W h=>zz (Cx (rb:=rb) (s:=a13) (t:=[114,101,116,117,114,110]) (w:=W) h o13);rw[show a13.need [114,101,116,117,114,110]=a14 from e14] at T14;have T15:=fun W h=>zz (Fy (rb:=rb) (s:=a14) (under:=b) n (Hg.Rd.nd 10) (w:=W) h o14 rfl hb14 qn);rw[e15] at T15;have T16:=fun W h=>zz (FM f rb a15 n a16 W e16 h o15 hd15 (hf.of G16) (by omega));have T17:=fun W h=>zz (Cx (rb:=rb) (s:=a16) (t:=[59]) (w:=W) h o16);rw[e17] at T17;have T18:=fun W h=>zz (Cx (rb:=rb) (s:=a17) (t:=[125]) (w:=W) h o17);rw[e18] at T18;have hcat1:¬9223372036854775807 < m.length+1:=by omega
 have hcat2:¬9223372036854775807 < m.length+1+x.length:=by omega
 have hcat3:¬9223372036854775807 < m.length+(x.length+1):=by omega
 have hk4:k < a4.rows.length:=by omega
 have hA4:=A4.grow.len;clear e1 qx e2 e4 e7 qty e9 e11 e12 e14 e15 e16 e17 e18 qb qn hl4 hl11 hl15 hr6 hv6 hkk;go_enter Tryz.func95,Tryz.ntmps95
 go_upto_if 24 with(first
  |(go_at_call 90;((with_reducible refine((T1 _ hR).out).mono ?_);rintro e w1 ⟨rfl,hR1,hb1⟩))
  |(go_at_call 91;((with_reducible refine((T2 _ hR1).out).mono ?_);rintro e w2 ⟨rfl,hR2,hb2⟩;obtain⟨aF,cF,_,_,k7,_,hoF,_⟩:=hR2.ND;have HOF:=zz hoF;clear hoF))
  |(go_at_call 92;refine(PZ w2.heap.size _ a2.funcs (m++32::x) _ (Sl.Ai HOF.out) (by have:=o2.inv.funcs;have:=o2.fin.rows;omega)).mono ?_;rintro e w' ⟨rfl,rfl⟩))
 go_cut [] from 24 (fun wx=>RdAt wx rb a3∧Below rb w2 wx)
 case first=>
  by_cases hin:Hg.inL a2.funcs (m++32::x)=true
  ·rw[hin]
   rw[if_pos hin] at e3
   go_wp2_with (go_at_call 93;refine(Hl rb a2 10 _ hR2).mono ?_;rintro e w3 ⟨rfl,hR3,hb3⟩)
   go_meet
   case rel=>exact⟨by rw[←e3];exact hR3,hb3.below⟩
  ·have hin2:Hg.inL a2.funcs (m++32::x)=false:=by simpa using hin
   rw[if_neg hin] at e3;rw[hin2];clear hin hin2;go_wp2
   go_meet
   case rel=>exact⟨by rw[←e3];exact hR2,AP⟩
 case rest=>
  obtain⟨hR3,hb3⟩:=hcut;have hBw:Below rb w wc:=hb1.below.trans (hb2.below.trans hb3);clear e3 hR hR1 hR2 hb1 hb2 hb3 k7 HOF T1 T2;go_upto_region 5 with(go_at_call 89;refine((T4 _ hR3).out).mono ?_;rintro e w4 ⟨rfl,hR4,hb4⟩)
  go_cut [] from 32 (fun wx=>RdAt wx rb a5∧Below rb w4 wx)
  case first=>
   obtain⟨q1,c1,q2,c2,k9,k10,hown1,hrb1,hrb2,hneR,hstep⟩:=hR4.ND;obtain⟨g,c,k4,hg1,hg2,kid,_,_,_⟩:=hR4.forCell (k:=k) (AX hk4);rw[←NR (AX hk4),ecid] at kid;have HM0:=zz (show(some rb≠Value.ownBlock (.slice q1 a4.funcs.length c1))∧(some rb≠Value.ownBlock (.slice q2 a4.ids.length c2)) from⟨fun e=>absurd (hrb1 rb e.symm) (Nat.lt_irrefl _),fun e=>absurd (hrb2 rb e.symm) (Nat.lt_irrefl _)⟩);have HM1:=HM0;have HM2:=HM0;have HM3:=zz (show(some g≠Value.ownBlock (.slice q1 a4.funcs.length c1))∧(some g≠Value.ownBlock (.slice q2 a4.ids.length c2)) from⟨(hneR g _ _ k4).1.symm,(hneR g _ _ k4).2.symm⟩);have HF:=zz (show∀b,w4.heap.size≤b→some b≠Value.ownBlock (.slice q1 a4.funcs.length c1) from fun b hb e=>absurd (hown1.lt b e.symm).2 (by omega));have HO:=zz hown1;have HSTEP:=zz hstep;have hlt:=hR4.lt;have f9:=hR4.frozen 7;have f10:=hR4.frozen 8;have hHeld:(fun w'=>w'.cell? ⟨rb,4,none⟩=some (.slice (some ⟨g,0,none⟩) a4.rows.length c)∧w'.cell? ⟨rb,7,none⟩=some (.slice q1 a4.funcs.length c1)∧w'.cell? ⟨rb,8,none⟩=some (.slice q2 a4.ids.length c2)∧w'.cell? ⟨g,k*7,none⟩=some (.int .u64 (cid:Int))) (World.drew w4):=⟨k4,k9,k10,kid⟩;have hi1:(0:Int)≤(k:Int):=by omega
   have hi2:(k:Int) < (a4.rows.length:Int):=by omega
   have hfr:=o4.fin.rows;have hsm:a4.funcs.length≤10000000:=by have:=o4.inv.funcs;omega
   have hsw:a4.ids.length≤10000000:=by rw[o4.inv.ids];omega
   clear hrb1 hrb2 hneR hstep hown1 T4 T7 T9 T11 T12 T14 T15 T16 T17 T18;refine wp_region_any (by kernel_rfl) ?_;refine wpAny_take (i:=1) (v:= ?_) rfl (by kernel_rfl) (by kernel_rfl) (by kernel_rfl) (fun _ _ _ h=>h) (Or.inl ⟨by rfl, ?_⟩) ?_;rotate_left
   ·(intro w';go_simp;try with_reducible rfl)
   try simp only[Act.put,sA,sB,sC]
   refine FP (S:=fun w'=>w'.cell? ⟨rb,4,none⟩=some (.slice (some ⟨g,0,none⟩) a4.rows.length c)∧w'.cell? ⟨rb,7,none⟩=some (.slice q1 a4.funcs.length c1)∧w'.cell? ⟨rb,8,none⟩=some (.slice q2 a4.ids.length c2)∧w'.cell? ⟨g,k*7,none⟩=some (.int .u64 (cid:Int))) (n:=26) _ _ _ _ ?_;refine ty [1] 0 ?_;refine ty [1] 2 ?_;refine ty [1] 3 ?_;refine ty [1] 4 ?_;refine ty [1] 5 ?_;refine ty [1] 6 ?_;refine ty [1] 7 ?_;refine ty [1] 8 ?_;refine ty [1] 9 ?_;refine ty [1] 12 ?_;refine ty [1] 13 ?_;refine ty [1] 14 ?_;refine ty [1] 15 ?_;refine ty [1] 16 ?_;refine ty [1] 17 ?_;refine ty [1] 18 ?_;refine ty [1] 19 ?_;refine ty [1] 20 ?_;refine ty [1] 21 ?_;refine ty [1] 22 ?_;refine ty [1] 23 ?_;refine FQ (i:=10) (j:=24) rfl rfl (by kernel_rfl) ?xA ?xB
   case' xA=>
    intro K hK;go_simp;generalize hWa:World.drew (World.alloc _ _)=Wa;have hTa:∀j u,[strV (m++32::x)][j]? =some u→Wa.cell? ((⟨w4.heap.size,0,none⟩:Addr).add j)=some u:=by rw[←hWa];exact Ao _ _ _
    have hBa:Below w4.heap.size w4 Wa:=by rw[←hWa];exact((AP).alloc AA _).drew
    clear hWa;refine hK.out _ _ (⟨AY hBa AA hHeld.1,AY hBa AA hHeld.2.1,AY hBa AA hHeld.2.2.1,AY hBa AA hHeld.2.2.2⟩) (fun hHeld=> ?_);clear hK K
    try simp only[Act.put,sA,sB,sC]
    refine FQ (i:=11) (j:=24) rfl rfl (by kernel_rfl) ?xC ?xD
   case' xC=>
    intro K hK;have hB0:Below w4.heap.size w4 Wa:=((Below.refl w4.heap.size w4)).trans (hBa.mono AA);refine Az rfl (.tmp 37) (.tmp 42) _ rfl (rb+1) 9 k0 _ 1 16 Tryz.underlying87 hk hk0 hk1 hk2 rfl (by decide) _ _ _ rfl (own_below HO.out hB0 AA) ⟨_,0,none⟩ 1 1 [strV (m++32::x)] rfl rfl ?_ (by intro u hu;simp only[List.mem_singleton] at hu;subst hu;rfl) ?_ ?_ ?_ ?_
    ·exact hTa
    ·unfold maxLen;omega
    ·omega
    ·have:=hB0.size;omega
    intro v1 Wb ownb gb atb;have hST:=HSTEP.out Wa Wb v1 (m++32::x) hB0 ownb gb atb;refine hK.out _ _ (⟨gb.cell hHeld.1 HM0.out.1,gb.cell hHeld.2.1 HM1.out.1,gb.cell hHeld.2.2.1 HM2.out.1,gb.cell hHeld.2.2.2 HM3.out.1⟩) (fun hHeld=> ?_);clear hK K
    try simp only[Act.put,sA,sB,sC]
    refine AR (i:=24) rfl (by kernel_rfl) (fun K hK=> ?_);go_simp;generalize hWc:World.alloc _ _=Wc;have hTc:∀j u,[idV cid][j]? =some u→Wc.cell? ((⟨Wb.heap.size,0,none⟩:Addr).add j)=some u:=by rw[←hWc];exact Ao _ _ _
    have hBc:Below Wb.heap.size Wb Wc:=by rw[←hWc];exact(AP).alloc AA _
    clear hWc;refine hK.out _ _ (⟨AY hBc AA hHeld.1,AY hBc AA hHeld.2.1,AY hBc AA hHeld.2.2.1,AY hBc AA hHeld.2.2.2⟩) (fun hHeld=> ?_);clear hK K
    try simp only[Act.put,sA,sB,sC]
    refine AR (i:=25) rfl (by kernel_rfl) (fun K hK=> ?_);have hB2:=hBc;refine Az rfl (.tmp 47) (.tmp 56) _ rfl (rb+1) 37 j0 _ 1 8 Tryz.underlying42 hj hj0 hj1 hj2 rfl (by decide) _ _ _ rfl (hST.1 _ hB2) ⟨_,0,none⟩ 1 1 [idV cid] rfl rfl ?_ (by intro u hu;simp only[List.mem_singleton] at hu;subst hu;rfl) ?_ ?_ ?_ ?_
    ·exact hTc
    ·unfold maxLen;omega
    ·omega
    ·have:=hB0.size;have:=gb.size;have:=hB2.size;omega
    intro v2 Wd ownd gd atd
   case' xD=>
    intro K hK;go_simp;generalize hWc:World.alloc _ _=Wc;have hTc:∀j u,[idV cid][j]? =some u→Wc.cell? ((⟨Wa.heap.size,0,none⟩:Addr).add j)=some u:=by rw[←hWc];exact Ao _ _ _
    have hBc:Below Wa.heap.size Wa Wc:=by rw[←hWc];exact(AP).alloc AA _
    clear hWc;refine hK.out _ _ (⟨AY hBc AA hHeld.1,AY hBc AA hHeld.2.1,AY hBc AA hHeld.2.2.1,AY hBc AA hHeld.2.2.2⟩) (fun hHeld=> ?_);clear hK K
    try simp only[Act.put,sA,sB,sC]
    refine AR (i:=11) rfl (by kernel_rfl) (fun K hK=> ?_);have hB0:Below w4.heap.size w4 Wc:=(((Below.refl w4.heap.size w4)).trans (hBa.mono AA)).trans (hBc.mono (AO AA hBa.size));refine Az rfl (.tmp 37) (.tmp 42) _ rfl (rb+1) 9 k0 _ 1 16 Tryz.underlying87 hk hk0 hk1 hk2 rfl (by decide) _ _ _ rfl (own_below HO.out hB0 AA) ⟨_,0,none⟩ 1 1 [strV (m++32::x)] rfl rfl ?_ (by intro u hu;simp only[List.mem_singleton] at hu;subst hu;rfl) ?_ ?_ ?_ ?_
    ·intro j u hj;exact AY hBc AA (hTa j u hj)
    ·unfold maxLen;omega
    ·omega
    ·have:=hB0.size;omega
    intro v1 Wb ownb gb atb;have hST:=HSTEP.out Wc Wb v1 (m++32::x) hB0 ownb gb atb;refine hK.out _ _ (⟨gb.cell hHeld.1 HM0.out.1,gb.cell hHeld.2.1 HM1.out.1,gb.cell hHeld.2.2.1 HM2.out.1,gb.cell hHeld.2.2.2 HM3.out.1⟩) (fun hHeld=> ?_);clear hK K
    try simp only[Act.put,sA,sB,sC]
    refine AR (i:=25) rfl (by kernel_rfl) (fun K hK=> ?_);have hB2:=Below.refl Wb.heap.size Wb;refine Az rfl (.tmp 47) (.tmp 56) _ rfl (rb+1) 37 j0 _ 1 8 Tryz.underlying42 hj hj0 hj1 hj2 rfl (by decide) _ _ _ rfl (hST.1 _ hB2) ⟨_,0,none⟩ 1 1 [idV cid] rfl rfl ?_ (by intro u hu;simp only[List.mem_singleton] at hu;subst hu;rfl) ?_ ?_ ?_ ?_
    ·intro j u hj;exact gb.cell (hTc j u hj) (HF.out _ (by have h0:=hBa.size;unfold Addr.add;split <;>exact h0))
    ·unfold maxLen;omega
    ·omega
    ·have:=hB0.size;have:=gb.size;have:=hB2.size;omega
    intro v2 Wd ownd gd atd
   case' xB=>
    intro K hK;go_simp;generalize hWc:World.drew (World.alloc _ _)=Wc;have hTc:∀j u,[idV cid][j]? =some u→Wc.cell? ((⟨w4.heap.size,0,none⟩:Addr).add j)=some u:=by rw[←hWc];exact Ao _ _ _
    have hBc:Below w4.heap.size w4 Wc:=by rw[←hWc];exact((AP).alloc AA _).drew
    clear hWc;refine hK.out _ _ (⟨AY hBc AA hHeld.1,AY hBc AA hHeld.2.1,AY hBc AA hHeld.2.2.1,AY hBc AA hHeld.2.2.2⟩) (fun hHeld=> ?_);clear hK K
    try simp only[Act.put,sA,sB,sC]
    refine AR (i:=10) rfl (by kernel_rfl) (fun K hK=> ?_);go_simp;generalize hWa:World.alloc _ _=Wa;have hTa:∀j u,[strV (m++32::x)][j]? =some u→Wa.cell? ((⟨Wc.heap.size,0,none⟩:Addr).add j)=some u:=by rw[←hWa];exact Ao _ _ _
    have hBa:Below Wc.heap.size Wc Wa:=by rw[←hWa];exact(AP).alloc AA _
    clear hWa;refine hK.out _ _ (⟨AY hBa AA hHeld.1,AY hBa AA hHeld.2.1,AY hBa AA hHeld.2.2.1,AY hBa AA hHeld.2.2.2⟩) (fun hHeld=> ?_);clear hK K
    try simp only[Act.put,sA,sB,sC]
    refine AR (i:=11) rfl (by kernel_rfl) (fun K hK=> ?_);have hB0:Below w4.heap.size w4 Wa:=(((Below.refl w4.heap.size w4)).trans (hBc.mono AA)).trans (hBa.mono (AO AA hBc.size));refine Az rfl (.tmp 37) (.tmp 42) _ rfl (rb+1) 9 k0 _ 1 16 Tryz.underlying87 hk hk0 hk1 hk2 rfl (by decide) _ _ _ rfl (own_below HO.out hB0 AA) ⟨_,0,none⟩ 1 1 [strV (m++32::x)] rfl rfl ?_ (by intro u hu;simp only[List.mem_singleton] at hu;subst hu;rfl) ?_ ?_ ?_ ?_
    ·exact hTa
    ·unfold maxLen;omega
    ·omega
    ·have:=hB0.size;omega
    intro v1 Wb ownb gb atb;have hST:=HSTEP.out Wa Wb v1 (m++32::x) hB0 ownb gb atb;refine hK.out _ _ (⟨gb.cell hHeld.1 HM0.out.1,gb.cell hHeld.2.1 HM1.out.1,gb.cell hHeld.2.2.1 HM2.out.1,gb.cell hHeld.2.2.2 HM3.out.1⟩) (fun hHeld=> ?_);clear hK K
    try simp only[Act.put,sA,sB,sC]
    refine AR (i:=25) rfl (by kernel_rfl) (fun K hK=> ?_);have hB2:=Below.refl Wb.heap.size Wb;refine Az rfl (.tmp 47) (.tmp 56) _ rfl (rb+1) 37 j0 _ 1 8 Tryz.underlying42 hj hj0 hj1 hj2 rfl (by decide) _ _ _ rfl (hST.1 _ hB2) ⟨_,0,none⟩ 1 1 [idV cid] rfl rfl ?_ (by intro u hu;simp only[List.mem_singleton] at hu;subst hu;rfl) ?_ ?_ ?_ ?_
    ·intro j u hj;exact gb.cell (AY hBa AA (hTc j u hj)) (HF.out _ (by have h0:=Nat.le_refl w4.heap.size;unfold Addr.add;split <;>exact h0))
    ·unfold maxLen;omega
    ·omega
    ·have:=hB0.size;have:=gb.size;have:=hB2.size;omega
    intro v2 Wd ownd gd atd
   all_goals
    have hFIN:=hST.2 _ Wd v2 cid hB2 ownd gd atd;refine hK.out _ _ (⟨gd.cell hHeld.1 HM0.out.2,gd.cell hHeld.2.1 HM1.out.2,gd.cell hHeld.2.2.1 HM2.out.2,gd.cell hHeld.2.2.2 HM3.out.2⟩) (fun hHeld=> ?_);clear hK K
    try simp only[Act.put,sA,sB,sC]
    refine Ag (by kernel_rfl) ?_;simp only[List.drop_succ_cons,List.drop_zero];have hrbk:Wd.heap[rb]? =w4.heap[rb]? :=(gd.block rb (by have:=hB0.size;have:=gb.size;have:=hB2.size;omega) HM0.out.2).trans ((hB2.block rb (by have:=hB0.size;have:=gb.size;omega)).trans ((gb.block rb (by have:=hB0.size;omega) HM0.out.1).trans (hB0.block rb hlt)));have g9:=(World.frozen?_of_block (a:=⟨rb,7,none⟩) hrbk).trans f9;have g10:=(World.frozen?_of_block (a:=⟨rb,8,none⟩) hrbk).trans f10;have FIN:=zz hFIN;obtain⟨d4,d9,d10,dg⟩:=hHeld;obtain⟨y1,z1,rfl⟩:=ownsRow_succ ownb;obtain⟨y2,z2,rfl⟩:=ownsRow_succ ownd;clear hrbk hFIN hST gd gb hB2 hB0 ownd ownb atd atb f9 f10 HO HSTEP HF k4 k9 k10 kid hTa hTc;go_wp2_with fail
    go_meet
    case rel=>exact⟨(by rw[←e5];exact FIN.out.1),FIN.out.2⟩
  case rest=>
   obtain⟨hR5,hb5⟩:=hcut;have hR6:=hR5.openLists;rw[e56] at hR6;have hB5:Below rb w wc:=hBw.trans (hb4.trans hb5);have hB6:Below rb w (((wc.setCell ⟨rb,11,none⟩ (.slice none 0 0)).setCell ⟨rb,12,none⟩ (.slice none 0 0)).setCell ⟨rb,13,none⟩ (.int .i64 0)):=
    ((hB5.setCell (p:=⟨rb,11,none⟩) AA _).setCell (p:=⟨rb,12,none⟩) AA _).setCell (p:=⟨rb,13,none⟩) AA _
   obtain⟨_,_,v11,_⟩:=hR5.Kz;obtain⟨_,_,k12,_⟩:=hR5.forSeen;obtain⟨_,_,_,_,k13⟩:=hR5.cell;have f11:=hR5.frozen 11;have f12:=hR5.frozen 12;have f13:=hR5.frozen 13;clear hBw hb4 hb5 hR3 hR4 hR5 hB5 T4 e5 e6 e56 ecid
   go_upto_block 0 with(go_at_call 90;((with_reducible refine((T7 _ hR6).out).mono ?_);rintro e w7 ⟨rfl,hR7,hb7⟩))
   have hB7:=hB6.trans hb7.below;clear hB6 hb7 hR6 v11 k12 k13 f11 f12 f13
   go_cut [] from 73 (fun wx=>RdAt wx rb a8∧Below rb w7 wx)
   case first=>
    clear T9 T11 T12 T14 T15 T16 T17 T18 T7;go_wp2_with fail
    go_loopg [8] f (fun k2 p wr=>Yh rb k a8 w7 k2 p wr)
    case atStart=>exact⟨true,a7,rfl,e8,hR7,o7,hk7,AP⟩
    case round=>
     obtain⟨bo,t,rfl,hargs,hRt,hot,hlt,hBt⟩:=hrel;obtain⟨_,_,c3,_,_⟩:=hRt.cell;clear e8 hR7;cases gk with
     |zero=>simp[Hg.Rd.params] at hargs
     |succ kf=>
       rw[Hg.Rd.params] at hargs;by_cases hbad:t.bad=true
       ·rw[if_pos hbad] at hargs
        injection hargs with hargs;subst hargs;rw[hbad] at c3;clear hbad;go_wp2
        go_meet
        case rel=>exact⟨hRt,hBt⟩
       rw[if_neg hbad] at hargs;have hbf:t.bad=false:=by simpa using hbad
       rw[hbf] at c3;clear hbad hbf;by_cases hn:t.next [41]=true
       ·rw[if_pos hn] at hargs
        injection hargs with hargs;have TE:=fun W h=>zz (Ii (rb:=rb) (s:=t) (t:=[41]) (w:=W) h hot hn);rw[hargs] at TE;clear hn
        go_wp2_with (go_at_call 94;refine((TE _ hRt).out).mono ?_;rintro e w8 ⟨rfl,hR8,hb8⟩)
        go_meet
        case rel=>exact⟨hR8,hBt.trans hb8.below⟩
       rw[if_neg hn] at hargs;have hnf:t.next [41]=false:=by simpa using hn
       clear hn;have TE:=fun W h=>zz (KY (rb:=rb) (s:=t) (t:=[41]) (w:=W) h hot hnf);clear hnf;dsimp only at hargs;generalize er0:(if bo=true then t else t.need [44])=r0 at hargs;have B0:Hg.Rd.Ak t r0:=by rw[←er0];split <;>first|exact Hg.Rd.Ak.refl _|exact Hg.Rd.Al _ _
       generalize qx1:r0.text 1=x1 at hargs;generalize er1:r0.name=r1 at hargs;have B1:Hg.Rd.Ak r0 r1:=by rw[←er1];exact Hg.Rd.Co _
       generalize qp:r0.rows.length=p at hargs;have qp1:r1.rows.length=p:=by rw[←er1,KH,qp]
       generalize er2:r1.node k (Hg.Rd.Ac 4 x1)=r2 at hargs;have B2:Hg.Rd.Ak r1 r2:=by rw[←er2];exact Hg.Rd.Av _ _ _ rfl
       have ql2:r2.rows.length=p+1:=by rw[←er2,Hg.Rd.BK,qp1]
       generalize qt2:r2.typed.1=ty2 at hargs;generalize er3:r2.typed.2=r3 at hargs;have B3:Hg.Rd.Ak r2 r3:=by rw[←er3];exact Hg.Rd.Fh _
       generalize er4:r3.BA p ty2=r4 at hargs;have B4:Hg.Rd.Ak r3 r4:=by rw[←er4];exact Hg.Rd.EK _ _ _
       generalize er5:r4.declare x1 p=r5 at hargs;have g5:Hg.Rd.Grow r4 r5:=by rw[←er5];exact Hg.Rd.He _ _ _
       have hl24:=(B3.trans B4).grow.len;have hl01:=B0.grow.len;have C5:Hg.Rd.Bw t r5:=by rw[←er5];exact Hg.Rd.Gu ((B0.trans B1).trans ((B2.trans B3).trans B4)) (by omega) _ _
       have ey:=Hg.Rd.I8 _ _ _ _ _ hargs;have hf8:Fin_ a8:=o8.fin;have P0:Okk r0:=hot.es B0 ((B1.grow.trans (B2.grow.trans (B3.grow.trans (B4.grow.trans g5)))).trans ey.grow) hf8;have P1:Okk r1:=P0.es B1 ((B2.grow.trans (B3.grow.trans (B4.grow.trans g5))).trans ey.grow) hf8;have P2:Okk r2:=P1.es B2 ((B3.grow.trans (B4.grow.trans g5)).trans ey.grow) hf8;have P3:Okk r3:=P2.es B3 ((B4.grow.trans g5).trans ey.grow) hf8;have P4:Okk r4:=P3.es B4 (g5.trans ey.grow) hf8;have P5:Okk r5:=hot.ss C5 ey.grow hf8;have hp2:p < r2.rows.length:=by omega
       have hp3:p < r3.rows.length:=Ae hp2 B3.grow.len;have hp4:p < r4.rows.length:=by omega
       have hkr1:k < r1.rows.length:=Ae hlt (B0.trans B1).grow.len;have hkr5:k < r5.rows.length:=Ae hlt C5.grow.len;have U1:=fun W h=>zz (IV (rb:=rb) (s:=r0) (w:=W) h P0);rw[qx1,er1] at U1;have U2:=fun W h=>zz (Fy (rb:=rb) (s:=r1) (under:=k) p (Hg.Rd.Ac 4 x1) (w:=W) h P1 rfl hkr1 qp1);rw[er2] at U2;have U3:=fun W h=>zz (Ko (rb:=rb) (s:=r2) (w:=W) h P2);rw[qt2,er3] at U3;have U5:=fun W h=>zz (Ls (rb:=rb) (s:=r4) (t:=x1) (k:=p) (w:=W) h P4 hp4);rw[er5] at U5;have UN:=fun W h=>zz (Cx (rb:=rb) (s:=t) (t:=[44]) (w:=W) h hot);clear qx1 er1 er2 qt2 er3 er5 qp qp1 ql2;cases bo
       case' false=>
        rw[if_neg (by simp)] at er0;rw[er0] at UN
        go_wp2_with (first
         |(go_at_call 94;refine((TE _ hRt).out).mono ?_;rintro e w9 ⟨rfl,hR9,hb9⟩)
         |(go_at_call 90;refine((UN _ hR9).out).mono ?_;rintro e w10 ⟨rfl,hR10,hb10⟩))
        have hB10:=hBt.trans (hb9.below.trans hb10.below);clear er0
       case' true=>
        rw[if_pos rfl] at er0;subst er0
        go_wp2_with (go_at_call 94;refine((TE _ hRt).out).mono ?_;rintro e w10 ⟨rfl,hR10,hb10⟩)
        have hB10:=hBt.trans hb10.below
       all_goals
        go_upto_region 15 with(first
         |(go_at_call 91;refine((U1 _ hR10).out).mono ?_;rintro e w11 ⟨rfl,hR11,hb11⟩)
         |(go_at_call 89;refine((U2 _ hR11).out).mono ?_;rintro e w12 ⟨rfl,hR12,hb12⟩))
        have hB12:=hB10.trans (hb11.below.trans hb12);obtain⟨g,c,c4,hg1,hg2,_⟩:=hR12.forCell (k:=p) (AX hp2);have hHeld:(fun w'=>w'.cell? ⟨rb,4,none⟩=some (.slice (some ⟨g,0,none⟩) r2.rows.length c)) (World.drew w12):=c4;refine Ay (fun w'=>w'.cell? ⟨rb,4,none⟩=some (.slice (some ⟨g,0,none⟩) r2.rows.length c)) 7 (by kernel_rfl) ?_;refine tz 0 ?_;refine tz 1 ?_;refine tz 2 ?_;refine tz 3 ?_;refine tz 4 ?_;refine tz 5 ?_;refine AR (i:=6) rfl (by kernel_rfl) (fun K hK=> ?_);go_simp
        go_at_call 140
        refine((U3 _ (hR12.drewN 1)).out).mono ?_;rintro e w50 ⟨rfl,hR50,hb50⟩;refine hK.out _ _ (hb50.c4.trans hHeld) (fun hHeld=> ?_);clear hK K
        try simp only[Act.put,sA,sB,sC]
        refine Ag (by kernel_rfl) ?_;simp only[List.drop_succ_cons,List.drop_zero];clear hHeld;obtain⟨g',c',c4',_,hg3,_,hcs,hfz,hset⟩:=hR50.forCell (k:=p) (AX hp3);have hgg:=hb50.c4.symm.trans c4';rw[show(World.drewN w12 1).cell? ⟨rb,4,none⟩=World.cell? w12 ⟨rb,4,none⟩ from rfl,c4] at hgg;injection hgg with hgg;injection hgg with e1_ e2_ e3_;injection e1_ with e1_;injection e1_ with e1_;subst e1_;clear e3_;obtain⟨u5,hc5⟩:=hcs 4 (by omega);have hf5:=hfz (p*7+4);have HS:=zz hset;have hi1:(0:Int)≤(p:Int):=by omega
        have hi2:(p:Int) < (r2.rows.length:Int):=by omega
        clear hset hcs hfz c4';have hB50:=((below_drewN (Below.refl rb _) 1).trans hb50.below)
        go_wp2_with (go_at_call 141;rw[show p*7+1+3=p*7+4 by omega];obtain⟨z1,z2⟩:=HS.out 4 (.int .u8 (ty2:Int)) (fun x=>{x with node:={x.node with type:=ty2}}) (by omega) (fun _ _=>rfl) (fun _=>rfl);replace z1:RdAt _ rb r4:=(by rw[←er4];exact z1);((with_reducible refine((U5 _ z1).out).mono ?_);rintro e w13 ⟨rfl,hR13,hb13⟩))
        go_roundg kf
        case measure=>omega
        case rel=>exact⟨false,r5,rfl,hargs,hR13,P5,hkr5,hB12.trans (hB50.trans (z2.trans hb13))⟩
   case rest=>
    obtain⟨hR8,hb8⟩:=hcut;have hB8:=hB7.trans hb8;clear hB7 hb8 hR7 T7 e8;go_upto_region 17 with fail;obtain⟨g,c,c4,hg1,hg2,_⟩:=hR8.forCell (k:=k) (AX hk8);have hHeld:(fun w'=>w'.cell? ⟨rb,4,none⟩=some (.slice (some ⟨g,0,none⟩) a8.rows.length c)) (World.drew wc):=c4;refine Ay (fun w'=>w'.cell? ⟨rb,4,none⟩=some (.slice (some ⟨g,0,none⟩) a8.rows.length c)) 7 (by kernel_rfl) ?_;refine tz 0 ?_;refine tz 1 ?_;refine tz 2 ?_;refine tz 3 ?_;refine tz 4 ?_;refine tz 5 ?_;refine AR (i:=6) rfl (by kernel_rfl) (fun K hK=> ?_);go_simp
    go_at_call 140
    refine((T9 _ (hR8.drewN 1)).out).mono ?_;rintro e w50 ⟨rfl,hR50,hb50⟩;refine hK.out _ _ (hb50.c4.trans hHeld) (fun hHeld=> ?_);clear hK K
    try simp only[Act.put,sA,sB,sC]
    refine Ag (by kernel_rfl) ?_;simp only[List.drop_succ_cons,List.drop_zero];clear hHeld;obtain⟨g',c',c4',_,hg3,_,hcs,hfz,hset⟩:=hR50.forCell (k:=k) (AX hk9);have hgg:=hb50.c4.symm.trans c4';rw[show(World.drewN wc 1).cell? ⟨rb,4,none⟩=World.cell? wc ⟨rb,4,none⟩ from rfl,c4] at hgg;injection hgg with hgg;injection hgg with e1_ e2_ e3_;injection e1_ with e1_;injection e1_ with e1_;subst e1_;clear e3_;obtain⟨u5,hc5⟩:=hcs 4 (by omega);have hf5:=hfz (k*7+4);have HS:=zz hset;have hi1:(0:Int)≤(k:Int):=by omega
    have hi2:(k:Int) < (a8.rows.length:Int):=by omega
    clear hset hcs hfz c4';have hB50:=((below_drewN (Below.refl rb _) 1).trans hb50.below)
    go_upto_block 2 with(first
     |(go_at_call 89;rw[show k*7+1+3=k*7+4 by omega];obtain⟨z1,z2⟩:=HS.out 4 (.int .u8 (tyq:Int)) (fun x=>{x with node:={x.node with type:=tyq}}) (by omega) (fun _ _=>rfl) (fun _=>rfl);replace z1:RdAt _ rb a10:=(by rw[←e10];exact z1);refine((T11 _ z1).out).mono ?_;rintro e w13 ⟨rfl,hR13,hb13⟩)
     |(go_at_call 90;((with_reducible refine((T12 _ hR13).out).mono ?_);rintro e w14 ⟨rfl,hR14,hb14⟩)))
    have hB14:=hB8.trans (hB50.trans (z2.trans (hb13.trans hb14.below)));clear hB8 hB50 z2 hb13 hb14 hR8 hR13 z1 T9 T11 T12 HS hR50 hb50
    go_cut [] from 124 (fun wx=>RdAt wx rb a13∧Below rb w14 wx)
    case first=>
     clear T14 T15 T16 T17 T18;go_wp2_with fail
     go_loopg [133] f (fun k2 _ wr=>Zg rb b a13 w14 k2 wr)
     case atStart=>exact⟨a12,e13,hR14,o12,hd12,hv12,hb12,AP⟩
     case round=>
      obtain⟨t,hargs,hRt,hot,hdt,hvt,hlt,hBt⟩:=hrel;obtain⟨_,_,c3,_,_⟩:=hRt.cell;clear e13 hR14;cases gk with
      |zero=>simp[Hg.Rd.body] at hargs
      |succ kf=>
        rw[Hg.Rd.body] at hargs;by_cases hbad:t.bad=true
        ·rw[if_pos (.inl hbad)] at hargs
         injection hargs with hargs;subst hargs;rw[hbad] at c3;clear hbad;go_wp2
         go_meet
         case rel=>exact⟨hRt,hBt⟩
        have hbf:t.bad=false:=by simpa using hbad
        rw[hbf] at c3;by_cases hn:t.next Hg.Br=true
        ·rw[if_pos (.inr hn)] at hargs
         injection hargs with hargs;have TE:=fun W h=>zz (NB (rb:=rb) (s:=t) (t:=[114,101,116,117,114,110]) (w:=W) h hot hn);rw[hargs] at TE;clear hn hbad hbf;rw[hargs] at hRt
         go_wp2_with (go_at_call 139;refine((TE _ hRt).out).mono ?_;rintro e w15 ⟨rfl,hR15,hb15⟩)
         go_meet
         case rel=>exact⟨hR15,hBt.trans hb15.below⟩
        rw[if_neg (by simp[hbad,hn])] at hargs;have hnf:t.next [114,101,116,117,114,110]=false:=by simpa using(show¬t.next [114,101,116,117,114,110]=true from hn)
        clear hn hbad hbf;have TE:=fun W h=>zz (NB (rb:=rb) (s:=t) (t:=[114,101,116,117,114,110]) (w:=W) h hot hnf);clear hnf;cases hx2:Hg.Rd.stmt kf t b with
        |none=>rw[hx2] at hargs;simp at hargs
        |some t1=>
          rw[hx2] at hargs;dsimp only at hargs;have ex:=(Hg.Rd.EN kf).1 _ _ _ hx2;have ey:=Hg.Rd.MQ _ _ _ _ hargs;have hft:Fin_ t1:=o13.fin.of ey.grow;have hot1:Okk t1:=hot.ss ex ey.grow o13.fin;have TX:=fun W h=>zz ((Ue kf).1 rb t b t1 W hx2 h hot hdt hvt hft hlt)
          go_wp2_with (first
           |(go_at_call 139;refine((TE _ hRt).out).mono ?_;rintro e w15 ⟨rfl,hR15,hb15⟩)
           |(go_at_call 142;refine((TX _ hR15).out).mono ?_;rintro e w16 ⟨rfl,hR16,hb16⟩))
          go_roundg kf
          case measure=>omega
          case rel=>exact⟨t1,hargs,hR16,hot1,(by rw[ex.deep];exact hdt),(by rw[ex.level,ex.deep];exact hvt),Ae hlt ex.grow.len,hBt.trans (hb15.below.trans hb16)⟩
    case rest=>
     obtain⟨hR13',hb13'⟩:=hcut;have hB13:=hB14.trans hb13';clear hB14 hb13' hR14 e13
     go_wp2_with (first
      |(go_at_call 90;((with_reducible refine((T14 _ hR13').out).mono ?_);rintro e w17 ⟨rfl,hR17,hb17⟩))
      |(go_at_call 89;refine((T15 _ hR17).out).mono ?_;rintro e w18 ⟨rfl,hR18,hb18⟩)
      |(go_at_call 143;refine((T16 _ hR18).out).mono ?_;rintro e w19 ⟨rfl,hR19,hb19⟩)
      |(go_at_call 90;((with_reducible refine((T17 _ hR19).out).mono ?_);rintro e w20 ⟨rfl,hR20,hb20⟩))
      |(go_at_call 90;((with_reducible refine((T18 _ hR20).out).mono ?_);rintro e w21 ⟨rfl,hR21,hb21⟩)))
     go_end0;exact⟨rfl,hR21,hB13.trans (hb17.below.trans (hb18.trans (hb19.trans (hb20.below.trans hb21.below))))⟩
def Zb(rb root f:Nat)(sE:Hg.Rd)(w0:World)(k:Nat)(wr:World):Prop:=
 ∃(t:Hg.Rd),Hg.Rd.CZ f k t root=some sE∧RdAt wr rb t∧Okk t∧t.deep≤90∧Hg.Rd.MInv t∧root < t.rows.length∧Below rb w0 wr
def ZM(rb m f:Nat)(x:List UInt8)(sE:Hg.Rd)(w0:World)(k:Nat)(wr:World):Prop:=
 ∃(t:Hg.Rd),Hg.Rd.CB f k t m x=some sE∧RdAt wr rb t∧Okk t∧t.deep≤90∧m < t.rows.length∧Below rb w0 wr
theorem SV(f:Nat)(s:Hg.Rd)(u:Nat)(m:List UInt8)(s':Hg.Rd)(h:Hg.Rd.func f s u m=some s'):s'.level=0:=by
 unfold Hg.Rd.func at h;dsimp only at h;generalize(s.need Hg.Df).name=a at h;generalize(if Hg.inL a.funcs (m++[32]++(s.need Hg.Df).text 1)=true then a.fault 10 else a)=b at h;generalize hc:({(b.node u (Hg.Rd.Ac 3 ((s.need Hg.Df).text 1))) with funcs:=(b.node u (Hg.Rd.Ac 3 ((s.need Hg.Df).text 1))).funcs++[m++[32]++(s.need Hg.Df).text 1],ids:=(b.node u (Hg.Rd.Ac 3 ((s.need Hg.Df).text 1))).ids++[(b.node u (Hg.Rd.Ac 3 ((s.need Hg.Df).text 1))).idAt b.rows.length],used:=[],seen:=[],level:=0}:Hg.Rd)=c at h;have hl:c.level=0:=by rw[←hc]
 cases hp:Hg.Rd.params f true (c.need [40]) b.rows.length with
 |none=>rw[hp] at h;simp at h
 |some p=>
   rw[hp] at h;dsimp only at h;have A5:=((Hg.Rd.Al c [40]).s.trans (Hg.Rd.I8 _ _ _ _ _ hp));have A6:=A5.trans ((((Hg.Rd.Fh p).trans (Hg.Rd.EK _ b.rows.length p.typed.1)).trans (Hg.Rd.Av _ b.rows.length (Hg.Rd.nd 5) rfl)).trans (Hg.Rd.Al _ [123])).s;cases hq:Hg.Rd.body f (((p.typed.2.BA b.rows.length p.typed.1).node b.rows.length (Hg.Rd.nd 5)).need [123]) (p.typed.2.BA b.rows.length p.typed.1).rows.length with
   |none=>rw[hq] at h;simp at h
   |some v=>
     rw[hq] at h;dsimp only at h;have A7:=A6.trans (Hg.Rd.MQ _ _ _ _ hq);cases hx:Hg.Rd.expr f ((v.need Hg.Br).node (p.typed.2.BA b.rows.length p.typed.1).rows.length (Hg.Rd.nd 10)) (v.need Hg.Br).rows.length with
     |none=>rw[hx] at h;simp at h
     |some x=>
       rw[hx] at h;injection h with h;subst h;have A8:=A7.trans (((((Hg.Rd.Al v Hg.Br).trans (Hg.Rd.Av _ _ (Hg.Rd.nd 10) rfl)).trans ((Hg.Rd.CF f).1 _ _ _ hx)).trans (Hg.Rd.Al _ [59])).trans (Hg.Rd.Al _ [125])).s;rw[A8.level,hl]
theorem FE(f:Nat)(rb:Nat)(s s':Hg.Rd)(w:World)(h:Hg.Rd.program f s=some s')(hR:RdAt w rb s)(hi0:Hg.Rd.Inv s)(hr0:s.rows=[])(hd0:s.deep≤90)(hv0:s.level=0)(hf:Fin_ s'):
 Calls Tryz.prog 38 #[.pointer (some ⟨rb,0,none⟩)] w fun e w'=>e= .returned (.tuple #[])∧RdAt w' rb s'∧Below rb w w':=by
 obtain⟨k0,hk,hk0,hk1,hk2⟩:=info_parts MG;unfold Hg.Rd.program at h;dsimp only at h;have hrl:s.rows.length=0:=by rw[hr0];rfl
 rw[hrl] at h;generalize e1:s.node 0 (Hg.Rd.nd 1)=a1 at h;have A1:Hg.Rd.Ak s a1:=by rw[←e1];exact Hg.Rd.Av _ _ _ rfl
 have M1:Hg.Rd.MInv a1:=by rw[←e1];exact Hg.Rd.LA hi0 _ _ rfl
 have l1:0 < a1.rows.length:=by rw[←e1,Hg.Rd.BK];omega
 cases e2:Hg.Rd.CZ f f a1 0 with
 |none=>rw[e2] at h;simp at h
 |some a2=>
 rw[e2] at h;injection h with e3;obtain⟨g2,d2,m2⟩:=Hg.Rd.IW _ _ _ _ _ e2;have L3:Hg.Rd.Ak a2 s':=by rw[←e3];exact Hg.Rd.Tv _ _ _
 have hf2:Fin_ a2:=hf.of L3.grow;have o1:Okk a1:=⟨M1.inv,hf2.of g2,by rw[A1.deep];omega,by rw[A1.level,hv0];omega⟩;have d1:a1.deep≤90:=by rw[A1.deep];exact hd0
 have T0:=fun W h=>zz (OT rb s 0 (Hg.Rd.nd 1) W h rfl (.inr hrl) (by omega) (fun k r hr=>by rw[hr0] at hr;simp at hr));rw[e1,hrl] at T0;clear e1 hrl hr0;go_enter Tryz.func38,Tryz.ntmps38
 go_upto_block 0 with(go_at_call 89;refine((T0 _ hR).out).mono ?_;rintro e w1 ⟨rfl,hR1,hb1⟩)
 go_cut [] from 13 (fun wx=>RdAt wx rb a2∧Below rb w1 wx)
 case first=>
  go_wp2_with fail
  go_loopg [29] f (fun k2 _ wr=>Zb rb 0 f a2 w1 k2 wr)
  case atStart=>exact⟨a1,e2,hR1,o1,d1,M1,l1,AP⟩
  case round=>
   obtain⟨t,hargs,hRt,hot,hdt,hmt,hlt,hBt⟩:=hrel;obtain⟨c1,_,c3,_,_⟩:=hRt.cell;obtain⟨aL,cL,c0,_⟩:=hRt.toks;clear e2 hR1;cases gk with
   |zero=>simp[Hg.Rd.CZ] at hargs
   |succ kf=>
     rw[Hg.Rd.CZ] at hargs;by_cases hbad:t.bad=true
     ·rw[if_pos (.inl hbad)] at hargs
      injection hargs with hargs;subst hargs;rw[hbad] at c3;clear hbad;go_upto_region 1 with fail
      go_quiet (fail)
      go_wp2
      go_meet
      case rel=>exact⟨hRt.drewN _,below_drewN hBt _⟩
     have hbf:t.bad=false:=by simpa using hbad
     rw[hbf] at c3;by_cases hat:t.L.length≤t.at_
     ·rw[if_pos (.inr hat)] at hargs
      injection hargs with hargs;have hq1:decide ((t.at_:Int) < (t.L.length:Int))=false:=by simp;omega
      have hq2:decide (t.at_ < t.L.length)=false:=by simp;omega
      subst hargs;clear hbad hbf hat;go_upto_region 1 with fail
      go_quiet (fail)
      go_wp2
      go_meet
      case rel=>exact⟨hRt.drewN _,below_drewN hBt _⟩
     rw[if_neg (by simp[hbf];omega)] at hargs;have hq1:decide ((t.at_:Int) < (t.L.length:Int))=true:=by simp;omega
     have hq2:decide (t.at_ < t.L.length)=true:=by simp;omega
     clear hbad hbf hat;dsimp only at hargs;generalize q1:t.need Hg.DI=b1 at hargs;generalize qx:b1.text 1=x at hargs;generalize q2:b1.name=b2 at hargs;generalize q3:(if Hg.inL b2.mods x=true then b2.fault 10 else b2)=b3 at hargs;generalize qm:b3.rows.length=m at hargs;generalize q4:({b3 with mods:=b3.mods++[x]}:Hg.Rd)=b4 at hargs;generalize q5:b4.node 0 (Hg.Rd.Ac 2 x)=b5 at hargs;generalize q6:b5.need [123]=b6 at hargs;cases q7:Hg.Rd.CB f f b6 m x with
     |none=>rw[q7] at hargs;simp at hargs
     |some b7=>
     rw[q7] at hargs;dsimp only at hargs;have B1:Hg.Rd.Ak t b1:=by rw[←q1];exact Hg.Rd.Al _ _
     have B2:Hg.Rd.Ak b1 b2:=by rw[←q2];exact Hg.Rd.Co _
     have B3:Hg.Rd.Ak b2 b3:=by rw[←q3];exact Hg.Rd.Kg _ _
     have B13:=(B1.trans B2).trans B3;have g34:Hg.Rd.Grow b3 b4:=by rw[←q4];exact Hg.Rd.Bq rfl AA id rfl
     have r4:b4.rows.length=m:=by rw[←q4];exact qm
     have i4:Hg.Rd.Inv b4:=by rw[←q4];exact Hg.Rd.OY (Hg.Rd.ML hmt B13) x
     have B5:Hg.Rd.Ak b4 b5:=by rw[←q5];exact Hg.Rd.Av _ _ _ rfl
     have M5:Hg.Rd.MInv b5:=by rw[←q5];exact Hg.Rd.LA i4 _ _ rfl
     have l5:b5.rows.length=m+1:=by rw[←q5,Hg.Rd.BK,r4]
     have B6:Hg.Rd.Ak b5 b6:=by rw[←q6];exact Hg.Rd.Al _ _
     have M6:=Hg.Rd.ML M5 B6;have F7:=Hg.Rd.Hf _ _ _ _ _ _ q7;have M7:=Hg.Rd.Tq M6 F7;obtain⟨G7,_,_⟩:=Hg.Rd.IW _ _ _ _ _ hargs;have G6:=F7.grow.trans G7;have G5:=B6.grow.trans G6;have G4:=B5.grow.trans G5;have G3:=g34.trans G4;have p1:Okk b1:=hot.es B1 (B2.grow.trans (B3.grow.trans G3)) hf2;have p2:Okk b2:=p1.es B2 (B3.grow.trans G3) hf2;have p3:Okk b3:=p2.es B3 G3 hf2;have p4:Okk b4:=⟨i4,hf2.of G4,by rw[←q4];exact p3.deep,by rw[←q4];exact p3.level⟩;have p5:Okk b5:=p4.es B5 G5 hf2;have p6:Okk b6:=p5.es B6 G6 hf2;have hd3:b3.deep≤90:=by rw[B13.deep];exact hdt
     have hd6:b6.deep≤90:=by rw[B6.deep,B5.deep,←q4];exact hd3
     have hl4:0 < b4.rows.length:=Ae hlt (B13.grow.trans g34).len;have hm6:m < b6.rows.length:=by have:=B6.grow.len;omega
     have hl7:0 < b7.rows.length:=Ae hl4 (B5.grow.trans (B6.grow.trans F7.grow)).len;have hx:x.length≤1000000:=by rw[←qx];exact p1.text 1
     have U1:=fun W h=>zz (Cx (rb:=rb) (s:=t) (t:=[109,111,100,117,108,101]) (w:=W) h hot);rw[show t.need [109,111,100,117,108,101]=b1 from q1] at U1;have U2:=fun W h=>zz (IV (rb:=rb) (s:=b1) (w:=W) h p1);rw[qx,q2] at U2;have U5:=fun W h=>zz (Fy (rb:=rb) (s:=b4) (under:=0) m (Hg.Rd.Ac 2 x) (w:=W) h p4 rfl hl4 r4);rw[q5] at U5;have U6:=fun W h=>zz (Cx (rb:=rb) (s:=b5) (t:=[123]) (w:=W) h p5);rw[q6] at U6;clear q1 qx q2 q5 q6 r4 l5 qm;go_upto_region 1 with fail
     go_quiet (fail)
     go_upto_if 39 with(first
      |(go_at_call 90;((with_reducible refine((U1 _ (hRt.drewN nq)).out).mono ?_);rintro e w3 ⟨rfl,hR3,hb3⟩))
      |(go_at_call 91;((with_reducible refine((U2 _ hR3).out).mono ?_);rintro e w4 ⟨rfl,hR4,hb4⟩;obtain⟨aM,cM,k6,hoM,_⟩:=hR4.OX;have HOM:=zz hoM;clear hoM))
      |(go_at_call 92;refine(PZ w4.heap.size _ b2.mods x _ (Sl.Ai HOM.out) (by have:=p2.inv.mods;have:=p2.fin.rows;omega)).mono ?_;rintro e w' ⟨rfl,rfl⟩))
     go_cut [] from 13 to 72 (fun wx=>RdAt wx rb b3∧Below rb w4 wx)
     case first=>
      by_cases hin:Hg.inL b2.mods x=true
      ·rw[hin]
       rw[if_pos hin] at q3
       go_wp2_with (go_at_call 93;refine(Hl rb b2 10 _ hR4).mono ?_;rintro e w5 ⟨rfl,hR5,hb5⟩)
       go_meet
       case rel=>exact⟨by rw[←q3];exact hR5,hb5.below⟩
      ·have hin2:Hg.inL b2.mods x=false:=by simpa using hin
       rw[if_neg hin] at q3;rw[hin2];clear hin hin2;go_wp2
       go_meet
       case rel=>exact⟨by rw[←q3];exact hR4,AP⟩
     case rest=>
      obtain⟨hR5,hb5⟩:=hcut;have hB5:Below rb w1 wc:=(below_drewN hBt nq).trans (hb3.below.trans (hb4.below.trans hb5));clear hb3 hb4 hb5 hR3 hR4 k6 HOM U1 U2 q3 hRt c0 c1 c3;obtain⟨aN,cN,n6,hown1,hrb1,_,hnew1⟩:=hR5.OX;have HO1:=zz hown1;have HN1:=zz hnew1;have f6:=hR5.frozen 6;have hlt1:=hR5.lt;have hml:b3.mods.length≤10000000:=by have:=p3.inv.mods;have:=p3.fin.rows;omega
      have hne1:=zz (show some rb≠Value.ownBlock (.slice aN b3.mods.length cN) from fun e=>absurd (hrb1 rb e.symm) (Nat.lt_irrefl _));clear hnew1 hrb1 hown1
      go_wp2_with (at_builtin;refine wpList_append_own_at _ rfl (.tmp 46) (.tmp 48) _ rfl (rb+1) 9 k0 _ 1 16 Tryz.underlying87 hk hk0 hk1 hk2 rfl (by decide) _ _ _ rfl (HO1.out.alloc _) ⟨_,0,none⟩ 1 1 [strV x] rfl rfl (Ao _ _ _) ?_ ?_ ?_ ?_ ?_)
      ·intro u hu;simp only[List.mem_singleton] at hu;subst hu;rfl
      ·unfold maxLen;omega
      ·omega
      ·simp;omega
      intro v1 W1 own1 g1 _ at1;obtain⟨hR6,hB6⟩:=HN1.out _ W1 v1 x ((AP).alloc AA _) own1 g1 (by simpa using at1);rw[q4] at hR6;have d6:=g1.cell (CY n6 _) hne1.out;have e6:W1.frozen? ⟨rb,6,none⟩=false:=by
       rw[World.frozen?_of_block (a:=⟨rb,6,none⟩) (g1.block rb (by simp;omega) hne1.out)];rw[World.frozen?_of_block (a:=⟨rb,6,none⟩) (Below.heap_alloc wc _ rb hlt1)];exact f6
      obtain⟨y0,z0,rfl⟩:=ownsRow_succ own1;clear own1 g1 at1 HO1 HN1 hne1 n6 f6 hR5 q4
      go_wp2_with (first
       |(go_at_call 89;refine((U5 _ hR6).out).mono ?_;rintro e w7 ⟨rfl,hR7,hb7⟩)
       |(go_at_call 90;((with_reducible refine((U6 _ hR7).out).mono ?_);rintro e w8 ⟨rfl,hR8,hb8⟩)))
      have hB8:Below rb w1 w8:=hB5.trans (hB6.trans (hb7.trans hb8.below));clear hB5 hB6 hb7 hb8 hR6 hR7 d6 e6 U5 U6
      go_loopg [68] f (fun k2 _ wr=>ZM rb m f x b7 w8 k2 wr)
      case atStart=>exact⟨b6,q7,hR8,p6,hd6,hm6,AP⟩
      case round=>
       obtain⟨t2,hargs2,hRt2,hot2,hdt2,hlt2,hBt2⟩:=hrel;obtain⟨_,_,c3,_,_⟩:=hRt2.cell;have hf7:Fin_ b7:=hf2.of G7;clear q7 hR8;cases gk with
       |zero=>simp[Hg.Rd.CB] at hargs2
       |succ kg=>
         rw[Hg.Rd.CB] at hargs2;by_cases hbad:t2.bad=true
         ·rw[if_pos hbad] at hargs2
          injection hargs2 with hargs2;subst hargs2;rw[hbad] at c3;clear hbad;go_wp2
          go_roundg kf
          case measure=>omega
          case rel=>exact⟨t2,hargs,hRt2,hot2,hdt2,M7,hl7,hB8.trans hBt2⟩
         rw[if_neg hbad] at hargs2;have hbf:t2.bad=false:=by simpa using hbad
         rw[hbf] at c3;clear hbad hbf;by_cases hn:t2.next [125]=true
         ·rw[if_pos hn] at hargs2
          injection hargs2 with hargs2;have TE:=fun W h=>zz (Ii (rb:=rb) (s:=t2) (t:=[125]) (w:=W) h hot2 hn);have o7:Okk b7:=by rw[←hargs2];exact hot2.es (Hg.Rd.BN _) (by rw[hargs2];exact Hg.Rd.Grow.refl _) hf7
          have d7:b7.deep≤90:=by rw[←hargs2];exact hdt2
          rw[hargs2] at TE;clear hn
          go_wp2_with (go_at_call 94;refine((TE _ hRt2).out).mono ?_;rintro e w9 ⟨rfl,hR9,hb9⟩)
          go_roundg kf
          case measure=>omega
          case rel=>exact⟨b7,hargs,hR9,o7,d7,M7,hl7,hB8.trans (hBt2.trans hb9.below)⟩
         rw[if_neg hn] at hargs2;have hnf:t2.next [125]=false:=by simpa using hn
         clear hn;have TE:=fun W h=>zz (KY (rb:=rb) (s:=t2) (t:=[125]) (w:=W) h hot2 hnf);clear hnf;cases hx2:Hg.Rd.func f t2 m x with
         |none=>rw[hx2] at hargs2;simp at hargs2
         |some t3=>
           rw[hx2] at hargs2;dsimp only at hargs2;have ex:=Hg.Rd.UA _ _ _ _ _ hx2;have ey:=Hg.Rd.Hf _ _ _ _ _ _ hargs2;have hft:Fin_ t3:=hf7.of ey.grow;have hot3:Okk t3:=hot2.fs ex (by rw[SV _ _ _ _ _ hx2];omega) ey.grow hf7;have TX:=fun W h=>zz (Nz f rb t2 m x t3 W hx2 h hot2 hdt2 hft hlt2 hx)
           go_wp2_with (first
            |(go_at_call 94;refine((TE _ hRt2).out).mono ?_;rintro e w9 ⟨rfl,hR9,hb9⟩)
            |(go_at_call 95;refine((TX _ hR9).out).mono ?_;rintro e w10 ⟨rfl,hR10,hb10⟩))
           go_roundg kg
           case measure=>omega
           case rel=>exact⟨t3,hargs2,hR10,hot3,(by rw[ex.deep];exact hdt2),Ae hlt2 ex.grow.len,hBt2.trans (hb9.below.trans hb10)⟩
 case rest=>
  obtain⟨hR2,hb2⟩:=hcut;have hi2:Hg.Rd.Inv a2:=(m2 M1).inv;have hr2:a2.rows.length≤10000000:=hf2.rows;clear hR1 e2 A1 M1 o1 d1 l1 g2 d2 m2 T0 L3 hf hf2 hi0 hd0 hv0;obtain⟨_,_,_,_,aC,cC,_,_,⟨_,_,k9,_⟩,_⟩:=hR2.book;generalize hnC:a2.calls.length=nC at k9;have hnle:nC≤10000000:=by have:=hi2.calls;omega
  have HNC:=zz hnC;clear hnC;go_wp2_with fail
  go_loopw [78] (fun p wr=>∃i:Nat,p= .int .i64 i∧Zc rb aC cC nC s' w1 i wr) (fun p wr=>nC-(intOf p).toNat)
  case atStart=>exact⟨0,rfl,a2,Nat.zero_le _,HNC.out,e3,hR2,hi2,hr2,k9,hb2⟩
  case round=>
   obtain⟨i,rfl,t,hin,hlen,hl,hRt,hit,hrt,k9',hBt⟩:=hrel;have HLEN:=zz hlen;have HL:=zz hl;clear e3 hR2 k9 hlen hl HNC hb2;by_cases hlt:i < nC
   ·obtain⟨a7,c7,a8,c8,a9,c9,a10,c10,⟨k7,k8,k9b,k10⟩,s7,s8,s9,s10⟩:=hRt.book
    have hq9:=k9'.symm.trans k9b;injection hq9 with hq9;injection hq9 with q1 q2 q3;subst q1;subst q3;clear k9b q2;have hic:i < t.calls.length:=by rw[HLEN.out];exact hlt
    have hiw:i < t.wants.length:=by rw[hit.wants];exact hic
    obtain⟨bC,oC,rfl,_,kC⟩:=s9.idAt hic;obtain⟨bW,oW,rfl,_,kW⟩:=s10.strAt hiw;obtain⟨hid0,hid1⟩:=hit.callr t.calls[i] (List.getElem_mem hic);have hlk:Hg.Rd.link (t.calls[i]::t.calls.drop (i+1)) (t.wants[i]::t.wants.drop (i+1)) t=s':=by
     rw[←Au hic,←Au hiw];exact HL.out
    rw[Hg.Rd.link] at hlk
    try dsimp only at hlk
    generalize t.calls[i]=id at kC hid0 hid1 hlk;generalize hwt:t.wants[i]=wt at kW hlk;obtain⟨j,rfl⟩:∃j,id=j+1:=⟨id-1,by omega⟩;rw[Nat.add_sub_cancel] at hlk;have HLK:=zz hlk;have HIDS:=zz hit.ids;have S7:=zz s7;have S8:=zz s8;have hfl:t.funcs.length≤10000000:=by have:=hit.funcs;omega
    have hwl:(i:Int) < (t.wants.length:Int):=by omega
    clear hlk HL s7 s8 s9 s10 hid0 hwt;go_wp2_with fail
    go_loop [7,88] (fun tv p=>∃(m x:Nat),p= .int .i64 m∧m≤t.funcs.length∧tv= .int .u64 x∧Hg.Rd.DT (t.funcs.drop m) (t.ids.drop m) wt x=Hg.Rd.lastOf t.funcs t.ids wt) (fun _ p=>t.funcs.length-(intOf p).toNat)
    case atStart=>exact⟨0,0,rfl,Nat.zero_le _,rfl,rfl⟩
    case round=>
     obtain⟨m,x,rfl,hm,rfl,hlf⟩:=hrel;have HLF:=zz hlf;clear hlf;by_cases hmt:m < t.funcs.length
     ·have hmi:m < t.ids.length:=by rw[HIDS.out];exact hmt
      obtain⟨b7,o7,rfl,_,kf⟩:=S7.out.strAt hmt;obtain⟨b8,o8,rfl,_,ki⟩:=S8.out.idAt hmi;have hls:Hg.Rd.DT (t.funcs.drop (m+1)) (t.ids.drop (m+1)) wt (if t.funcs[m]=wt then t.ids[m] else x)=Hg.Rd.lastOf t.funcs t.ids wt:=by
       rw[←HLF.out,Au hmt,Au hmi,Hg.Rd.DT]
      have HLS:=zz hls;clear hls;generalize t.ids[m]=idm at ki HLS;generalize t.funcs[m]=fm at kf HLS;have hmil:(m:Int) < (t.ids.length:Int):=by omega
      by_cases he:fm=wt
      ·have hq:(fm==wt)=true:=by simp[he]
       have HS2:=zz (HLS.out ▸ (by rw[if_pos he]):Hg.Rd.DT (t.funcs.drop (m+1)) (t.ids.drop (m+1)) wt idm=Hg.Rd.lastOf t.funcs t.ids wt);clear he HLS;go_wp2
       go_round
       case rel=>exact⟨m+1,idm,by go_num,by omega,rfl,HS2.out⟩
       case measure=>simp[intOf];omega
      ·have hq:(fm==wt)=false:=by simp[he]
       have HS2:=zz (HLS.out ▸ (by rw[if_neg he]):Hg.Rd.DT (t.funcs.drop (m+1)) (t.ids.drop (m+1)) wt x=Hg.Rd.lastOf t.funcs t.ids wt);clear he HLS;go_wp2
       go_round
       case rel=>exact⟨m+1,x,by go_num,by omega,rfl,HS2.out⟩
       case measure=>simp[intOf];omega
     ·obtain rfl:m=t.funcs.length:=by omega
      have hx:x=Hg.Rd.lastOf t.funcs t.ids wt:=by
       rw[←HLF.out,List.drop_length];rfl
      rw[←hx] at HLK;clear HLF hx hmt;have hjr:j < t.rows.length:=by omega
      by_cases hx0:x=0
      ·subst hx0
       have hl1:=HLK.out;rw[if_pos rfl] at hl1;have HL1:=zz hl1;clear HLK hl1;have hF:=Hg.Rd.Ec t 9;obtain⟨f1,_,_,_,f5,f6,_⟩:=hF;have hjr2:j < (t.fault 9).rows.length:=by rw[f1];exact hjr
       have hit2:=(Hg.Rd.Ih t 9).inv hit;have FR:=zz f1;have FC:=zz f5;have FW:=zz f6;clear f1 f5 f6
       go_wp2_with (go_at_call 93;refine(RF rb t 9 _ hRt).mono ?_;rintro e w2 ⟨rfl,hR2,hb2,hk9⟩;obtain⟨g,c,c4,hg1,hg2,_,hcs,hfz,hset⟩:=hR2.forCell (k:=j) (AX hjr2);obtain⟨u5,hc5⟩:=hcs 5 (by omega);have hf5:=hfz (j*7+5);have HS:=zz hset;have HK9:=zz (hk9.trans k9');have hjl:(j:Int) < ((t.fault 9).rows.length:Int):=(by omega);clear hcs hfz hset hk9)
       obtain⟨r1,r2⟩:=HS.out 5 (.int .u64 ((0:Nat):Int)) (fun x=>{x with node:={x.node with ref:=0}}) (by omega) (fun _ _=>rfl) (fun _=>rfl);go_roundw
       case rel=>
        rw[show j*7+1+4=j*7+5 by omega];refine⟨i+1,by go_num,(t.fault 9).DL j 0,by omega, ?_, ?_,r1,(Hg.Rd.FO _ _ _).inv hit2, ?_, ?_,hBt.trans (hb2.below.trans r2)⟩
        ·show(t.fault 9).calls.length=nC
         rw[FC.out];exact HLEN.out
        ·show Hg.Rd.link ((t.fault 9).calls.drop (i+1)) ((t.fault 9).wants.drop (i+1)) ((t.fault 9).DL j 0)=s'
         rw[FC.out,FW.out];exact HL1.out
        ·show((t.fault 9).rows.modify j _).length≤_
         rw[List.length_modify,FR.out];exact hrt
        ·rw[World.cell?_setCell_other w2 ⟨g,j*7+5,none⟩ ⟨rb,9,none⟩ _ (by simp <;>omega)];exact HK9.out
       case measure=>simp[intOf];omega
      ·have hl1:=HLK.out
       rw[if_neg hx0] at hl1;have HL1:=zz hl1;have hq:((x:Int)==0)=false:=by simp;omega
       clear HLK hl1 hx0;obtain⟨g,c,c4,hg1,hg2,_,hcs,hfz,hset⟩:=hRt.forCell (k:=j) (AX hjr);obtain⟨u5,hc5⟩:=hcs 5 (by omega);have hf5:=hfz (j*7+5);have HS:=zz hset;have HK9:=zz k9';have hjl:(j:Int) < (t.rows.length:Int):=by omega
       clear hcs hfz hset;go_wp2;obtain⟨r1,r2⟩:=HS.out 5 (.int .u64 (x:Int)) (fun y=>{y with node:={y.node with ref:=x}}) (by omega) (fun _ _=>rfl) (fun _=>rfl);go_roundw
       case rel=>
        rw[show j*7+1+4=j*7+5 by omega];refine⟨i+1,by go_num,t.DL j x,by omega,HLEN.out,HL1.out,r1,(Hg.Rd.FO _ _ _).inv hit, ?_, ?_,hBt.trans r2⟩
        ·show(t.rows.modify j _).length≤_
         rw[List.length_modify];exact hrt
        ·rw[World.cell?_setCell_other wr ⟨g,j*7+5,none⟩ ⟨rb,9,none⟩ _ (by simp <;>omega)];exact HK9.out
       case measure=>simp[intOf];omega
   ·obtain rfl:i=nC:=by omega
    have hst:t=s':=by
     have h1:=HL.out;rw[←HLEN.out,List.drop_length] at h1;cases hw:t.wants.drop t.calls.length <;>(rw[hw] at h1;exact h1)
    have HST:=zz hst;clear hst HL;go_wp2;go_end0;rw[←HST.out];exact⟨rfl,hRt,hb1.trans hBt⟩
theorem RdAt.rowsOut{w:World}{rb:Nat}{s:Hg.Rd}(h:RdAt w rb s):∃a c,w.cell? ⟨rb,4,none⟩=some (.slice a s.rows.length c)∧Aw w w.heap.size (.slice a s.rows.length c) s.rows:=by
 obtain⟨vL,vR,vM,vF,vI,vC,vW,vU,vS,ks,h1,h2,h3,h4⟩:=h;have s4:Sl w w.heap.size vR s.rows.length (Aa s.rows ks):=Sl.Ai (show w.ownsRow (rb+1) 46 7 vR s.rows.length (Aa s.rows ks) from h4.1 ⟨vR,46,7,s.rows.length,Aa s.rows ks⟩ (by simp[BU]));obtain⟨a,c,rfl⟩:=s4.form;refine⟨a,c,AJ w rb 4 _ _ (0,0) h1,ks,h3,s4,fun k r kv hr hk=> ?_⟩;obtain⟨l1,l2,hsp,_⟩:=GH s.rows ks k r kv h3 hr hk;exact Sl.Ai (show w.ownsRow (rb+1) 37 1 kv r.node.kids.length (r.node.kids.map idV) from h4.1 ⟨kv,37,1,r.node.kids.length,r.node.kids.map idV⟩ (by simp[BU,hsp]))
theorem Aw.nil(w:World)(B:Nat):Aw w B (.slice none 0 0) []:=⟨[],rfl,Sl.nil _ _,fun k r kv h=>by simp at h⟩
theorem Hr(v:Value)(l:List Hg.Tok)(w:World)(hx:Sl w w.heap.size v l.length (l.flatMap BH)):
 Calls Tryz.prog 37 #[v] w fun e w'=>e= .returned (.pointer (some ⟨w.heap.size,0,none⟩))∧RdAt w' w.heap.size (Hg.Rd.Bd l)∧Below w.heap.size w w':=by
 obtain⟨a,c,rfl⟩:=hx.form;have HX:=zz hx;clear hx;go_enter Tryz.func37,Tryz.ntmps37;go_wp2;go_ret;refine⟨rfl, ?_,(AP).alloc AA _⟩;refine⟨.slice a l.length c,.slice none 0 0,.slice none 0 0,.slice none 0 0,.slice none 0 0,.slice none 0 0,.slice none 0 0,.slice none 0 0,.slice none 0 0,[],AZ w _,HX.out.alloc AA _,rfl, ?_, ?_⟩
 ·intro o ho
  simp only[BU,Hg.Rd.Bd,Bc,Aa,List.append_nil,List.mem_cons,List.not_mem_nil,or_false,List.map_nil,List.flatMap_nil,List.length_nil] at ho;rcases ho with rfl|rfl|rfl|rfl|rfl|rfl|rfl|rfl <;>exact World.ownsRow_nil _ _ _ _
 ·simp[BU,Hg.Rd.Bd,Bc,Aa,Value.ownBlock]
def Et(r:List Hg.Row×Nat)(e:Ending)(w':World):Prop:=∃v,e= .returned (.tuple #[v,.int .i64 (r.2:Int)])∧Aw w' w'.heap.size v r.1
theorem Et.mk{r:List Hg.Row×Nat}{e:Ending}{w':World}{l:List Hg.Row}{n:Nat}{v:Value}(h:r=(l,n))(he:e= .returned (.tuple #[v,.int .i64 (n:Int)]))(hx:Aw w' w'.heap.size v l):Et r e w':=by subst h;exact⟨v,he,hx⟩
theorem JC(l:List Hg.Tok):Hg.Rd.Inv (Hg.Rd.Bd l):=
 ⟨by simp[Hg.Rd.Bd],by simp[Hg.Rd.Bd],by simp[Hg.Rd.Bd],by simp[Hg.Rd.Bd],by simp[Hg.Rd.Bd],by simp[Hg.Rd.Bd],by simp[Hg.Rd.Bd],fun k r h=>by simp[Hg.Rd.Bd] at h,fun k r h=>by simp[Hg.Rd.Bd] at h,fun c h=>by simp[Hg.Rd.Bd] at h⟩
theorem Rz(s:List UInt8)(hs:s.length≤1000000)(w:World):
 Calls Tryz.prog 13 #[.string ⟨s.toArray⟩] w fun e w'=>Et (Hg.CE s) e w'∧Below w.heap.size w w':=by
 cases ha:Hg.Dk s with
 |none=>
   have hp:=zz (Hg.Fe ha);have HA:=zz ha;clear ha;go_enter Tryz.func13,Tryz.ntmps13
   go_wp2_with (go_at_call 36;refine(Io s hs _).mono ?_;rintro e w1 ⟨hr,hb⟩;rw[HA.out] at hr;obtain rfl:=hr)
   go_ret2;exact⟨Et.mk hp.out rfl (Aw.nil _ _),hb⟩
 |some l=>
   obtain⟨r,hpr,hrl,hra,_,hpe⟩:=Hg.Fb ha;obtain⟨hl1,hl2⟩:=Hg.Kt ha;have hfin:Fin_ r:=by
    have hL:r.L=l:=by
     have hpr2:=hpr;unfold Hg.Rd.program at hpr2;dsimp only at hpr2;cases e:Hg.Rd.CZ (3*s.length+10) (3*s.length+10) ((Hg.Rd.Bd l).node 0 (Hg.Rd.nd 1)) (Hg.Rd.Bd l).rows.length with
     |none=>rw[e] at hpr2;simp at hpr2
     |some a=>
       rw[e] at hpr2;injection hpr2 with hpr2;rw[←hpr2,(Hg.Rd.Tv _ _ _).grow.L,(Hg.Rd.IW _ _ _ _ _ e).1.L];rfl
    exact⟨by omega,by omega,by rw[hL];omega,by rw[hL];intro t ht;have:=hl2 t ht;omega⟩
   have HA:=zz ha;have HP:=zz hpr;have HE:=zz hpe;have HF:=zz hfin;clear ha hpr hpe hfin hl2;go_enter Tryz.func13,Tryz.ntmps13;cases hbad:r.bad
   ·by_cases h2:20000 < r.rows.length
    ·have hz:=HE.out
     rw[if_neg (by simp[hbad]),if_pos h2] at hz;have HZ:=zz hz;have q1:decide ((20000:Int) < (r.rows.length:Int))=true:=by simp;omega
     clear hz HE h2
     go_wp2_with (first
      |(go_at_call 36;refine(Io s hs _).mono ?_;rintro e w1 ⟨hr,hb⟩;rw[HA.out] at hr;obtain⟨v,rfl,hv⟩:=hr)
      |(go_at_call 37;refine(Hr v l _ hv).mono ?_;rintro e w2 ⟨rfl,hR2,hb2⟩)
      |(go_at_call 38;refine(FE _ _ _ r _ HP.out hR2 (JC l) rfl (Nat.zero_le _) rfl HF.out).mono ?_;rintro e w3 ⟨rfl,hR3,hb3⟩;obtain⟨_,_,c3,c5,_⟩:=hR3.cell;obtain⟨ar,cr,c4,hrows⟩:=hR3.rowsOut;have HR:=zz hrows;clear hrows))
     go_ret2;exact⟨Et.mk HZ.out rfl (Aw.nil _ _),hb.trans ((hb2.trans hb3).mono hb.size)⟩
    ·by_cases h3:r.names=0
     ·have hz:=HE.out
      rw[if_neg (by simp[hbad]),if_neg h2,if_neg (by simp[h3])] at hz;have HZ:=zz hz;have q1:decide ((20000:Int) < (r.rows.length:Int))=false:=by simp;omega
      have q2:((r.names:Int) !=0)=false:=by simp[h3]
      clear hz HE h2 h3
      go_wp2_with (first
       |(go_at_call 36;refine(Io s hs _).mono ?_;rintro e w1 ⟨hr,hb⟩;rw[HA.out] at hr;obtain⟨v,rfl,hv⟩:=hr)
       |(go_at_call 37;refine(Hr v l _ hv).mono ?_;rintro e w2 ⟨rfl,hR2,hb2⟩)
       |(go_at_call 38;refine(FE _ _ _ r _ HP.out hR2 (JC l) rfl (Nat.zero_le _) rfl HF.out).mono ?_;rintro e w3 ⟨rfl,hR3,hb3⟩;obtain⟨_,_,c3,c5,_⟩:=hR3.cell;obtain⟨ar,cr,c4,hrows⟩:=hR3.rowsOut;have HR:=zz hrows;clear hrows))
      go_ret2;exact⟨Et.mk HZ.out rfl HR.out,hb.trans ((hb2.trans hb3).mono hb.size)⟩
     ·have hz:=HE.out
      rw[if_neg (by simp[hbad]),if_neg h2,if_pos h3] at hz;have HZ:=zz hz;have q1:decide ((20000:Int) < (r.rows.length:Int))=false:=by simp;omega
      have q2:((r.names:Int) !=0)=true:=by simp;omega
      clear hz HE h2 h3
      go_wp2_with (first
       |(go_at_call 36;refine(Io s hs _).mono ?_;rintro e w1 ⟨hr,hb⟩;rw[HA.out] at hr;obtain⟨v,rfl,hv⟩:=hr)
       |(go_at_call 37;refine(Hr v l _ hv).mono ?_;rintro e w2 ⟨rfl,hR2,hb2⟩)
       |(go_at_call 38;refine(FE _ _ _ r _ HP.out hR2 (JC l) rfl (Nat.zero_le _) rfl HF.out).mono ?_;rintro e w3 ⟨rfl,hR3,hb3⟩;obtain⟨_,_,c3,c5,_⟩:=hR3.cell;obtain⟨ar,cr,c4,hrows⟩:=hR3.rowsOut;have HR:=zz hrows;clear hrows))
      go_quiet (fail)
      go_wp2;go_ret2;exact⟨Et.mk HZ.out rfl (Aw.nil _ _),below_drewN (hb.trans ((hb2.trans hb3).mono hb.size)) _⟩
   ·have hz:=HE.out
    rw[if_pos hbad] at hz;have HZ:=zz hz;clear hz HE
    go_wp2_with (first
     |(go_at_call 36;refine(Io s hs _).mono ?_;rintro e w1 ⟨hr,hb⟩;rw[HA.out] at hr;obtain⟨v,rfl,hv⟩:=hr)
     |(go_at_call 37;refine(Hr v l _ hv).mono ?_;rintro e w2 ⟨rfl,hR2,hb2⟩)
     |(go_at_call 38;refine(FE _ _ _ r _ HP.out hR2 (JC l) rfl (Nat.zero_le _) rfl HF.out).mono ?_;rintro e w3 ⟨rfl,hR3,hb3⟩;obtain⟨_,_,c3,c5,_⟩:=hR3.cell;obtain⟨ar,cr,c4,hrows⟩:=hR3.rowsOut;have HR:=zz hrows;clear hrows))
    go_ret2;exact⟨Et.mk HZ.out rfl (Aw.nil _ _),hb.trans ((hb2.trans hb3).mono hb.size)⟩
end Go.Proofs.YtijhlanclfajiaaGreatDoor
