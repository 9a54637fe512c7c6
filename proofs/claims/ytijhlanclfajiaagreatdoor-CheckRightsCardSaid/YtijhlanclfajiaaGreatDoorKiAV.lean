/-
  A part of the proof.
-/
import Derived.Test.YtijhlanclfajiaaGreatDoorKiAT
import Derived.Shelf.SlMaps.Clone
set_option linter.all false
set_option maxHeartbeats 32000000
set_option maxRecDepth 100000
namespace Go.Proofs.YtijhlanclfajiaaGreatDoor
open Go.RowKit
theorem ZI(w:World)(o1 o2:Obj):((w.alloc o1).alloc o2).heap[w.heap.size]? =some o1∧((w.alloc o1).alloc o2).heap[w.heap.size+1]? =some o2:=by
 have h:=AZ (w.alloc o1) o2;rw[show(w.alloc o1).heap.size=w.heap.size+1 by simp] at h;exact⟨heap_alloc2_old w o1 o2,h⟩
theorem WO{w:World}{mb c:Nat}{D:DataW Value}(ho:w.ownsMap Tryz.prog 37 rawR mb c D){i:Nat}(hi:i < Aj){nd:Hg.Node}{ka:Option Addr}{kc:Nat}(h1:∀z,D.atKey (idL i) z= .held (ndV nd ka kc)):
 (Instr.lookup 49 (.map (some mb)) (.int .u64 (i:Int)) true).run Tryz.prog w= .ok (.tuple #[ndV nd ka kc,.bool true]) w:=by
 have hz:(zeroValue 44).run Tryz.prog w= .ok (ndV Hg.Node.zero none 0) w:=by kernel_rfl
 obtain⟨v,ps,hrun,hv⟩:=ho.look_ok BM Tryz.underlying49 hz (zd:= .held (ndV Hg.Node.zero none 0)) (zp:=[]) rfl (BZ hi);simp only[rawR,Option.some.injEq,Prod.mk.injEq] at hv;rw[h1] at hv;have e:v=ndV nd ka kc:=by simpa using hv.1
 rw[hrun,Maps.has_true_of_atKey h1,e]
theorem Sj(nd:Hg.Node)(ka:Option Addr)(kc:Nat)(w:World)(hs:Sl w w.heap.size (.slice ka nd.kids.length kc) nd.kids.length (nd.kids.map idV))(hl:nd.kids.length≤1000000):
 Calls Tryz.prog 27 #[ndV nd ka kc,ndV nd ka kc] w fun e w'=>e= .returned (.bool true)∧Below w.heap.size w w':=by
 have HS:=zz hs;clear hs;go_enter Tryz.func27,Tryz.ntmps27;go_upto_region 1 with fail;generalize hW:World.alloc (World.alloc w _) _=w1;have hb:Below w.heap.size w w1:=by rw[←hW];exact((Below.refl w.heap.size w).alloc AA _).alloc (by simp) _
 have h1:w1.heap[w.heap.size]? =some (.cells #[.int .u8 (nd.kind:Int),strV nd.name,.int .i64 nd.num,.int .u8 (nd.type:Int),.int .u64 (nd.ref:Int),.slice ka nd.kids.length kc] 44 (0,0))∧w1.heap[w.heap.size+1]? =some (.cells #[.int .u8 (nd.kind:Int),strV nd.name,.int .i64 nd.num,.int .u8 (nd.type:Int),.int .u64 (nd.ref:Int),.slice ka nd.kids.length kc] 44 (0,0)):=by rw[←hW];exact ZI w _ _
 have TE:=zz (VN _ _ nd.kids w1 hl ((HS.out.below hb AA).more hb.size) ((HS.out.below hb AA).more hb.size));have c:=fun i=>AJ w1 w.heap.size i _ _ (0,0) h1.1;have k0:=c 0;have k1:=c 1;have k2:=c 2;have k3:=c 3;have k4:=c 4;have k5:=c 5;have d:=fun i=>AJ w1 (w.heap.size+1) i _ _ (0,0) h1.2;have d0:=d 0;have d1:=d 1;have d2:=d 2;have d3:=d 3;have d4:=d 4;have d5:=d 5;simp at k0 k1 k2 k3 k4 k5 d0 d1 d2 d3 d4 d5;have HB:=zz hb;clear c d h1 hb hW hl;go_wp2_with fail;refine TE.out.mono ?_;rintro e w2 ⟨rfl,hb2⟩;have HB2:=zz (HB.out.trans (hb2.mono HB.out.size));clear TE hb2;go_wp2;go_ret;exact⟨rfl,HB2.out⟩
structure Twin (w:World) (ab ab':Nat) (M:Nat→Option Hg.Node):Prop where
 ex:∃mb mb' c D,w.heap[ab]? =some (.cells #[.map (some mb)] 52 (0,0))∧w.heap[ab']? =some (.cells #[.map (some mb')] 52 (0,0))∧
  w.ownsMap Tryz.prog 37 rawR mb c D∧w.ownsMap Tryz.prog 37 rawR mb' c D∧Maps.size D=c∧(∀id,id < Aj→Xn w D id (M id))∧∀id nd,M id=some nd→nd.kids.length≤1000000
theorem Twin.below{w w':World}{ab ab':Nat}{M:Nat→Option Hg.Node}(h:Twin w ab ab' M)(hb:Below w.heap.size w w'):Twin w' ab ab' M:=by
 obtain⟨mb,mb',c,D,h1,h2,h3,h4,h5,h6,h7⟩:=h;have a1:ab < w.heap.size:=(Ab.1 h1).1;have a2:ab' < w.heap.size:=(Ab.1 h2).1;refine⟨mb,mb',c,D,(hb.block _ a1).trans h1,(hb.block _ a2).trans h2,h3.kept (below_grown hb none) (by simp),h4.kept (below_grown hb none) (by simp),h5,fun id hid=> ?_,h7⟩;have hx:=h6 id hid;cases hM:M id with
 |none=>rw[hM] at hx;exact hx
 |some nd=>
   rw[hM] at hx;obtain⟨ka,kc,g1,g2,g3⟩:=hx;exact⟨ka,kc,g1,(g2.below hb AA).more hb.size,g3⟩
theorem Ye(mb mb' c:Nat)(D:DataW Value)(M:Nat→Option Hg.Node)(w:World)(ho:w.ownsMap Tryz.prog 37 rawR mb c D)(ho':w.ownsMap Tryz.prog 37 rawR mb' c D)(hsz:Maps.size D=c)(hk:∀id,id < Aj→Xn w D id (M id))(hbd:∀id nd,M id=some nd→nd.kids.length≤1000000):
 Calls Tryz.prog 26 #[.map (some mb),.map (some mb'),.func (.func 27) #[] #[]] w fun e w'=>e= .returned (.bool true)∧Below w.heap.size w w':=by
 have hl1:(Builtin.len_ #[49] 3 #[.map (some mb)]).run Tryz.prog w= .ok (.int .i64 (c:Int)) w:=by rw[ho.len Tryz.underlying49 _,hsz]
 have hl2:(Builtin.len_ #[49] 3 #[.map (some mb')]).run Tryz.prog w= .ok (.int .i64 (c:Int)) w:=by rw[ho'.len Tryz.underlying49 _,hsz]
 have HK:=zz hk;have HBD:=zz hbd;have HO:=zz ho';have hlt:=ho.lt;clear hk hbd ho' hsz;go_enter Tryz.func26,Tryz.ntmps26
 go_wp2_with (at_range;refine wpList_range_own _ rfl (.tmp 16) 49 rfl 37 44 BM Tryz.underlying49 rawR mb c D rfl ho ?_;intro w0 hrg0 hg0 hs0)
 go_frame
 have hb0:=GJ hg0;clear hg0 hl1 hl2
 go_loopw [7] (fun _ wr=>∃(left:Lit→Bool) (cnt:Nat),wr.ranges Tryz.prog 37 rawR mb w.heap.size c D left cnt∧Below w.heap.size w wr) (fun _ wr=>wr.rangeLeft mb w.heap.size)
 case atStart=>exact⟨_,_,hrg0,hb0⟩
 case round=>
  obtain⟨left,cnt,hrg,hbw⟩:=hrel;clear hrg0 hb0 hs0 ho
  go_wp2_with (at_next;refine wpList_next_ranges (α:=Int) (β:=Value) _ rfl (.tmp 17) rfl 37 BM rawR (Value.int .u64) (fun v=>v) (fun key kl hkey=>by obtain⟨x,rfl,_⟩:=Maps.keyOf_int_inv Tryz.underlying37 hkey;exact⟨x,rfl⟩) (fun v y hv=>⟨v,rfl⟩) mb w.heap.size c D left cnt rfl hrg ?_ ?_)
  ·intro h0 hl
   clear hl h0 hrg;go_wp2;go_ret;exact⟨rfl,hbw⟩
  ·intro x cv kl y ps w1 cnt1 hkx hlx hrx hax hrg1 hlt1 hg1 hs1 hen
   obtain⟨i,nd,ka,kc,rfl,hi,rfl,hMi,rfl,hsl⟩:=Na HK.out hkx hrx hax;have hrlt:=hrg.lt;have hb1:Below w.heap.size w w1:=hbw.grown hg1 (by omega) (fun k hk=>by injection hk with hk;omega);have hlen:=HBD.out i nd hMi;have hle:=hrg.left_eq;have HSL:=zz hsl;have HR1:=zz hrg1;have HLE:=zz hle;have HB1:=zz hb1;have HLT:=zz hlt1;have hy:DataW.held (ndV nd ka kc)=y:=by
    have:=hrx;simp only[rawR,Option.some.injEq,Prod.mk.injEq] at this;exact this.1
   have hlk:=fun W (hb:Below w.heap.size w W)=>WO (HO.out.kept (below_grown hb none) (by simp)) hi (fun z=>(hax z).trans hy.symm);have HLK:=zz hlk;have TE:=zz (fun W (hb:Below w.heap.size w W)=>Sj nd ka kc W ((HSL.out.below hb AA).more hb.size) hlen);clear hkx hlx hrx hax hy hrg hg1 hsl hMi hrg1 hle hi hb1 hlen hlt1 hlk hbw;go_upto_region 6 with fail;have hnew:=AZ w1 (.cells #[.int .u8 (nd.kind:Int),strV nd.name,.int .i64 nd.num,.int .u8 (nd.type:Int),.int .u64 (nd.ref:Int),.slice ka nd.kids.length kc] 44);have hb2:=HB1.out.alloc HB1.out.size (.cells #[.int .u8 (nd.kind:Int),strV nd.name,.int .i64 nd.num,.int .u8 (nd.type:Int),.int .u64 (nd.ref:Int),.slice ka nd.kids.length kc] 44);have hr2:=HR1.out.alloc (.cells #[.int .u8 (nd.kind:Int),strV nd.name,.int .i64 nd.num,.int .u8 (nd.type:Int),.int .u64 (nd.ref:Int),.slice ka nd.kids.length kc] 44);rw[hs1] at hnew;generalize World.alloc w1 _=w2 at hnew hb2 hr2⊢;have hk2:=HLK.out w2 hb2;have HB2:=zz hb2;have HR2:=zz hr2;have HN2:=zz hnew;clear hb2 hr2 hnew HR1 HB1 hs1 hen;go_upto_region 7 with fail;have hnew:=AZ w2 (.cells #[.int .u8 (nd.kind:Int),strV nd.name,.int .i64 nd.num,.int .u8 (nd.type:Int),.int .u64 (nd.ref:Int),.slice ka nd.kids.length kc] 44);have hold:=((Below.refl w2.heap.size w2).alloc AA (.cells #[.int .u8 (nd.kind:Int),strV nd.name,.int .i64 nd.num,.int .u8 (nd.type:Int),.int .u64 (nd.ref:Int),.slice ka nd.kids.length kc] 44)).block wr.heap.size (Ab.1 HN2.out).1;rw[HN2.out] at hold;have hb3:=HB2.out.alloc HB2.out.size (.cells #[.int .u8 (nd.kind:Int),strV nd.name,.int .i64 nd.num,.int .u8 (nd.type:Int),.int .u64 (nd.ref:Int),.slice ka nd.kids.length kc] 44);have hr3:=HR2.out.alloc (.cells #[.int .u8 (nd.kind:Int),strV nd.name,.int .i64 nd.num,.int .u8 (nd.type:Int),.int .u64 (nd.ref:Int),.slice ka nd.kids.length kc] 44);generalize World.alloc w2 _=w3 at hnew hold hb3 hr3⊢;have c:=fun i=>AJ w3 w2.heap.size i _ _ (0,0) hnew;have k0:=c 0;have k1:=c 1;have k2:=c 2;have k3:=c 3;have k4:=c 4;have k5:=c 5;have d:=fun i=>AJ w3 wr.heap.size i _ _ (0,0) hold;have d0:=d 0;have d1:=d 1;have d2:=d 2;have d3:=d 3;have d4:=d 4;have d5:=d 5;simp at k0 k1 k2 k3 k4 k5 d0 d1 d2 d3 d4 d5;have HB3:=zz hb3;have HR3:=zz hr3;have TE3:=zz (TE.out w3 hb3);clear c d hnew hold hb3 hr3 hk2 HB2 HR2 TE HLK HN2;go_wp2_with fail;refine TE3.out.mono ?_;rintro e w4 ⟨rfl,hb4⟩;have HR4:=zz (show w4.ranges Tryz.prog 37 rawR mb w.heap.size c D (fun z=>left z && !z.sameKey (idL i)) cnt1 from HR3.out.kept (below_grown hb4 none) (by simp) (by simp));have HB4:=zz (HB3.out.trans (hb4.mono HB3.out.size));clear hb4 TE3 k0 k1 k2 k3 k4 k5 d0 d1 d2 d3 d4 d5;go_wp2;go_roundw
   case rel=>exact⟨_,_,HR4.out,HB4.out⟩
   case measure=>rw[HR4.out.left_eq,HLE.out];exact HLT.out
theorem SE(mb c:Nat)(D:DataW Value)(w:World)(ho:w.ownsMap Tryz.prog 37 rawR mb c D):
 Calls Tryz.prog 18 #[.map (some mb)] w fun e w'=>e= .returned (.map (some w.heap.size))∧w'.ownsMap Tryz.prog 37 rawR w.heap.size c D∧w'.ownsMap Tryz.prog 37 rawR mb c D∧Below w.heap.size w w':=by
 have hlt:=ho.lt;obtain⟨es,clock,hb,F,hs,hD⟩:=ho;have hB:Below w.heap.size w (w.alloc (.map es clock)):=(Below.refl _ w).alloc AA _;have HFIN:=zz (show(w.alloc (.map es clock)).ownsMap Tryz.prog 37 rawR w.heap.size c D∧(w.alloc (.map es clock)).ownsMap Tryz.prog 37 rawR mb c D∧Below w.heap.size w (w.alloc (.map es clock)) from⟨⟨es,clock,(MapKept.heap_alloc w _).1,F,hs,hD⟩,⟨es,clock,(Below.heap_alloc _ _ mb hlt).trans hb,F,hs,hD⟩,hB⟩);have hq:=fun w=>run_eql_map_nil_sl (P:=Tryz.prog) w 49 _ _ (some mb) Tryz.underlying49;have HBB:=zz hb;clear hD hs F hb hlt hB;go_enter Tryz.func18,Tryz.ntmps18;go_wp2;rw[run_callFunc_extern Tryz.func42 (by kernel_rfl) (by kernel_rfl) (by kernel_rfl) (e:=Extern.MapsClone.clone) (by kernel_rfl),run_maps_clone_sl w 49 HBB.out];simp only[Result.andThen];rw[Oper.upon_value];go_wp2;rw[run_typeAssert_map_sl _ _ _ _ _ _ Tryz.underlying49];simp only[Result.andThen];rw[Oper.upon_value];go_wp2;go_ret;exact⟨rfl,HFIN.out⟩
theorem XN(ab mb c:Nat)(M:Nat→Option Hg.Node)(w:World)(hA:ArAt w ab mb c M):
 Calls Tryz.prog 7 #[.pointer (some ⟨ab,0,none⟩)] w fun e w'=>∃ab2,e= .returned (.pointer (some ⟨ab2,0,none⟩))∧Twin w' ab ab2 M∧Below w.heap.size w w':=by
 obtain⟨c0,f0⟩:=hA.read;have hlt:=hA.lt;have hcell:=hA.cell;obtain⟨⟨D,ho,hc,hk⟩,hbd⟩:=hA.map;have HK:=zz (And.intro hk (And.intro hbd (And.intro hc (And.intro hlt hcell))));have TC:=zz (SE mb c D w ho);clear hA hk hbd hc ho hlt hcell;go_enter Tryz.func7,Tryz.ntmps7;go_wp2_with fail;refine TC.out.mono ?_;rintro e w1 ⟨rfl,h1,h2,hb1⟩;have hb2:Below w1.heap.size w1 (w1.alloc (.cells #[.map (some w.heap.size)] 52)):=(AP).alloc AA _;have HFIN:=zz (show Twin (w1.alloc (.cells #[.map (some w.heap.size)] 52)) ab w1.heap.size M∧Below w.heap.size w (w1.alloc (.cells #[.map (some w.heap.size)] 52)) from by
  obtain⟨hk,hbd,hc,hlt,hcell⟩:=HK.out;have hbT:=hb1.trans (hb2.mono hb1.size);refine⟨⟨mb,w.heap.size,c,D,(hbT.block ab hlt).trans hcell,AZ w1 _,h2.kept (below_grown hb2 none) (by simp),h1.kept (below_grown hb2 none) (by simp),hc,fun id hid=> ?_,hbd⟩,hbT⟩;have hx:=hk id hid;cases hM:M id with
  |none=>rw[hM] at hx;exact hx
  |some nd=>
    rw[hM] at hx;obtain⟨ka,kc,g1,g2,g3⟩:=hx;exact⟨ka,kc,g1,(g2.below hbT AA).more hbT.size,g3⟩)
 clear TC h1 h2 hb1 hb2 c0 f0;go_wp2;go_ret;exact⟨_,rfl,HFIN.out⟩
theorem Uj(ab ab':Nat)(M:Nat→Option Hg.Node)(w:World)(hA:Twin w ab ab' M):
 Calls Tryz.prog 10 #[.pointer (some ⟨ab,0,none⟩),.pointer (some ⟨ab',0,none⟩)] w fun e w'=>e= .returned (.bool true)∧Below w.heap.size w w':=by
 obtain⟨mb,mb',c,D,h1,h2,-⟩:=id hA;have HD:=zz (show Below w.heap.size w w.drew from(AP).drew);obtain⟨mb2,mb2',c2,D2,g1,g2,g3,g4,g5,g6,g7⟩:=hA.below HD.out;rw[show w.drew.heap=w.heap from rfl,h1] at g1;rw[show w.drew.heap=w.heap from rfl,h2] at g2;injection g1 with g1;injection g1 with g1;injection g2 with g2;injection g2 with g2;simp only[Array.mk.injEq,List.cons.injEq,Value.map.injEq,Option.some.injEq,and_true] at g1 g2;subst g1;subst g2;have TE:=zz (Ye mb mb' c2 D2 M w.drew g3 g4 g5 g6 g7);have k:=fun i=>AJ w ab i _ _ (0,0) h1;have k0:=k 0;have d:=fun i=>AJ w ab' i _ _ (0,0) h2;have d0:=d 0;simp at k0 d0;have hHeld:(fun w':World=>w'.cell? ⟨ab,0,none⟩=some (.map (some mb))∧w'.cell? ⟨ab',0,none⟩=some (.map (some mb'))) w.drew:=⟨k0,d0⟩;have HH:=zz (fun W (hb:Below w.heap.size w W)=>And.intro ((hb.cell (p:=⟨ab,0,none⟩) (Ab.1 h1).1).trans k0) ((hb.cell (p:=⟨ab',0,none⟩) (Ab.1 h2).1).trans d0));clear hA h1 h2 g3 g4 g5 g6 g7 k d k0 d0;go_enter Tryz.func10,Tryz.ntmps10;go_upto_region 3 with fail;refine Ay (fun w'=>w'.cell? ⟨ab,0,none⟩=some (.map (some mb))∧w'.cell? ⟨ab',0,none⟩=some (.map (some mb'))) 9 (by kernel_rfl) ?_;refine tz 0 ?_;refine tz 1 ?_;refine tz 2 ?_;refine tz 3 ?_;refine tz 4 ?_;refine tz 5 ?_;refine tz 6 ?_;refine tz 7 ?_;refine AR (i:=8) rfl (by kernel_rfl) (fun K hK=> ?_);go_simp;refine TE.out.mono ?_;rintro e w2 ⟨rfl,hb2⟩;have HB2:=zz (HD.out.trans (hb2.mono HD.out.size));clear hb2;refine hK.out _ _ (HH.out _ HB2.out) (fun hHeld=> ?_);clear hK K
 try simp only[Act.put,sA,sB,sC,sD,sE,sF]
 refine Ag (by kernel_rfl) ?_;simp only[List.drop_succ_cons,List.drop_zero];go_wp2;go_ret;exact⟨rfl,HB2.out⟩
end Go.Proofs.YtijhlanclfajiaaGreatDoor
