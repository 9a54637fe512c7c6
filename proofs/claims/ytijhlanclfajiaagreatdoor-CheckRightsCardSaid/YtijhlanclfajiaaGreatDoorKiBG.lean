/-
  A part of the proof.
-/
import Derived.Test.YtijhlanclfajiaaGreatDoorKiBF
set_option linter.all false
set_option maxHeartbeats 32000000
set_option maxRecDepth 100000
namespace Hg
def bnd{α β:Type}:Option (Option α)→(α→Option (Option β))→Option (Option β)
 |none,_=>none
 |some none,_=>some none
 |some (some a),k=>k a
def EB(M:Nat→Option Node)(id:Nat):List Nat→List (Nat×Nat)→List Nat→Option (Option (List (Nat×Nat)×List Nat))
 |[],deep,next=>some (some (deep,next))
 |k::ks,deep,next=>if (gl deep k).isSome∨(M k).isNone∨1000000≤deep.length∨1000000≤next.length then none else if 200≤(gl deep id).getD 0 then some none else EB M id ks ((k,(gl deep id).getD 0+1)::deep) (next++[k])
def Ca(M:Nat→Option Node):List Nat→List (Nat×Nat)→List Nat→Option (Option (List (Nat×Nat)×List Nat))
 |[],deep,next=>some (some (deep,next))
 |id::ids,deep,next=>if (M id).isNone then none else bnd (EB M id (ndAt M id).kids deep next) fun r=>Ca M ids r.1 r.2
def D8(M:Nat→Option Node):Nat→List Nat→List (Nat×Nat)→Option (Option (List (Nat×Nat)))
 |0,_,_=>none
 |_+1,[],deep=>some (some deep)
 |f+1,i::l,deep=>bnd (Ca M (i::l) deep []) fun r=>D8 M f r.2 r.1
structure RX (M:Nat→Option Node) (F:Nat) (ot:Option (List (Nat×Nat))):Prop where
 root:∃nd,M 1=some nd∧nd.kind=1
 run:D8 M F [1] [(1,1)]=some ot
 all:∀R,ot=some R→∀i,(gl R i).isSome=(M i).isSome
 refs:∀i nd,M i=some nd→nd.ref < 18446744073709551616
def Ns(M:Nat→Option Node)(nd:Node):Prop:=nd.ref≠0∧(M nd.ref).isSome=false
def GK(M:Nat→Option Node):Prop:=∀i nd,i < 18446744073709551616→M i=some nd→¬Ns M nd
end Hg
namespace Go.Proofs.YtijhlanclfajiaaGreatDoor
open Go.RowKit Go.ChangeMaps Go.MapKept Go.WideShapes
open Go.WideElems (Fit rd rg)
open Hg (GT gl wk isK ndAt Bf KB bnd EB Ca D8 RX Ns GK)
def ZZ(M:Nat→Option Hg.Node)(ot:Option (List (Nat×Nat)))(e:Ending):Prop:=∃b,e= .returned (.bool b)∧(b=true↔ot.isSome=true∧GK M)
structure TrSX (M:Nat→Option Hg.Node) (ot:Option (List (Nat×Nat))) (mk:Nat) (w:World) (f:Nat) (v:Value) (wr:World) (lvl:List Nat) (deep:List (Nat×Nat)):Prop where
 own:wr.ownsRow w.heap.size 37 1 v lvl.length (lvl.map idV)
 mp:IMap wr mk (dV deep)
 bel:Below w.heap.size w wr
 run:D8 M f lvl deep=some ot
 top:∀x∈lvl,x < Aj
 len:lvl.length≤1000000
def RgS(M:Nat→Option Hg.Node)(mb cA:Nat)(D:DataW Value)(wE wr:World):Prop:=∃left cnt,wr.ranges Tryz.prog 37 rawR mb wE.heap.size cA D left cnt∧Below wE.heap.size wE wr∧∀i nd,i < Aj→M i=some nd→Ns M nd→left (idL i)=true
theorem UW(ab:Nat)(M:Nat→Option Hg.Node)(F:Nat)(ot:Option (List (Nat×Nat)))(w:World)(hA:ArOk w ab M)(hT:RX M F ot):
 Calls Tryz.prog 43 #[.pointer (some ⟨ab,0,none⟩)] w fun e w'=>ZZ M ot e∧Below w.heap.size w w':=by
 obtain⟨j0,hJ,hJ0,hJ1,hJ2⟩:=info_parts Gc;obtain⟨⟨mb,cA,hAr⟩,hkb⟩:=hA;have HAR:=zz hAr;have HKB:=zz hkb;clear hAr hkb;have hA:ArOk w ab M:=⟨⟨mb,cA,HAR.out⟩,HKB.out⟩;have hzi:∀W:World,(zeroValue 3).run Tryz.prog W= .ok (.int .i64 0) W:=fun W=>by kernel_rfl
 have HA:=zz hA;have HT:=zz hT;obtain⟨nd,hM1,hk1⟩:=hT.root;have TR:=zz (IL ab w);have TG:=zz (show Calls Tryz.prog 34 #[.pointer (some ⟨ab,0,none⟩),.int .u64 ((1:Nat):Int)] w (Hu w (some nd)) from hM1 ▸ hA.get (by decide));have hq:((nd.kind:Int) !=1)=false:=by simp[hk1]
 have hq2:((nd.kind:Int)==1)=true:=by simp[hk1]
 clear hA hT hM1 hk1;go_enter Tryz.func43,Tryz.ntmps43;go_wp2_with fail;refine TR.out.mono ?_;rintro e w ⟨rfl,rfl⟩;clear TR;go_wp2_with fail;refine TG.out.mono ?_;rintro e w2 ⟨ka,kc,rfl,ho,hb2⟩;have HB2:=zz hb2;clear TG ho hb2;go_wp2;have hb3:=HB2.out.alloc HB2.out.size (.cells (Ad nd ka kc) 44);generalize World.alloc w2 _=W2 at hb3⊢;have hb4:=hb3.alloc hb3.size (.map #[] 0);obtain⟨W3,hrun3,hU3,hg3⟩:=(XMap.made 37 idV W2).put (t:=153) BM Tryz.underlying153 (fun x y h=>by injection h with _ h;exact Int.ofNat.inj h) (by simp) 1 ⟨_,BZ (by decide)⟩ (.int .i64 1);replace hrun3:(Instr.mapUpdate 153 (.map (some W2.heap.size)) (.int .u64 1) (.int .i64 1)).run Tryz.prog (W2.alloc (.map #[] 0))= .ok () W3:=hrun3;have hf3:Fr (fun q=>w.heap.size≤q) (W2.alloc (.map #[] 0)) W3:=(Fr.EQ hg3 (fun q e=>(Option.some.inj e).symm)).imp (fun q _ e=>by have:=hb3.size;omega);have hb5:Below w.heap.size w W3:=hb4.trans (hf3.below' hb4.size);have hn4:=AZ W3 (.cells #[.int .u64 1] 37);have HST:=zz (show TrSX M ot W2.heap.size w F (.slice (some ⟨W3.heap.size,0,none⟩) 1 1) (W3.alloc (.cells #[.int .u64 1] 37)) [1] [(1,1)] from
  ⟨⟨rfl,.inr ⟨W3.heap.size,1,#[idV 1],rfl,hb5.size,hn4,AA,by unfold maxLen;omega,rfl,rfl⟩⟩,hU3.fr ((Fr.refl (fun _=>False) W3).alloc _) (fun e=>e),hb5.alloc hb5.size _,HT.out.run,by simp[Aj],by simp⟩)
 have HMK:=zz hb3.size;generalize hmk:W2.heap.size=mk at HST HMK⊢hrun3;rw[run_makeMap];go_wp2;generalize World.alloc W3 _=W4 at HST⊢;clear hb3 hb4 hU3 hg3 hrun3 hf3 hb5 hn4 HB2 hq hq2
 go_loopw [6] (fun p wr=>∃v f lvl deep,p=v∧TrSX M ot mk w f v wr lvl deep) (fun p wr=>Hg.least (fun f=>∃lvl deep,TrSX M ot mk w f p wr lvl deep))
 case atStart=>exact⟨_,F,[1],[(1,1)],rfl,HST.out⟩
 case round=>
  rename World=>wE
  obtain⟨v,f',lvl',deep',hv,hrel⟩:=hrel;have hv:=hv.symm;subst hv;have hl:=Hg.Jh (p:=fun f=>∃lvl deep,TrSX M ot mk w f v wE lvl deep) ⟨f',lvl',deep',hrel⟩;generalize hf0:Hg.least _=f at hl;have HF0:=zz hf0;clear hrel hf0 HST;obtain⟨lvl,deep,hS⟩:=hl;have HS:=zz hS;obtain⟨a6,c6,rfl⟩:=(Sl.Ai hS.own).form;have hrun:=hS.run;have hll:=hS.len;clear hS;cases f with
  |zero=>cases hrun
  |succ f=>
  cases lvl with
  |nil=>
    have hrun:some deep=ot:=Option.some.inj hrun;subst hrun;obtain⟨c0,f0⟩:=(HAR.out.below HS.out.bel AA).read;obtain⟨⟨D,ho,hsz,hk⟩,hbd⟩:=(HAR.out.below HS.out.bel AA).map;obtain⟨n9,D9,hn9,ho9,hs9⟩:=HS.out.mp;have hsz9:Maps.size D9=Maps.size D:=Wy ho9 ho (fun i hi=>by
     have h1:=hs9 i (idL i) (BZ hi);have h2:=hk i hi;have h3:=HT.out.all deep rfl i;rw[XA] at h1;have e1:Maps.has D9 (idL i)=(gl deep i).isSome:=by
      cases hg:gl deep i with
      |none=>rw[hg] at h1;exact h1
      |some d=>rw[hg] at h1;exact Maps.has_true_of_atKey h1
     have e2:Maps.has D (idL i)=(M i).isSome:=by
      cases hm:M i with
      |none=>rw[hm] at h2;exact h2
      |some d=>rw[hm] at h2;obtain⟨_,_,g1,_⟩:=h2;exact Maps.has_true_of_atKey g1
     rw[e1,e2,h3])
    have HK:=zz hk;have HO9:=zz (And.intro ho9 hsz9);have HREF:=zz HT.out.refs;clear f0 hk hbd hsz hn9 hs9 ho9 hsz9 hll hrun
    go_wp2_with (at_range;refine wpList_range_own _ rfl (.tmp 100) 49 rfl 37 44 BM Tryz.underlying49 rawR mb cA D rfl ho ?_;intro w0 hrg0 hg0 hs0)
    go_frame
    have hb0:=GJ hg0;clear hg0 c0
    go_loopw [19] (fun p wr=>RgS M mb cA D wE wr) (fun _ wr=>wr.rangeLeft mb wE.heap.size)
    case atStart=>exact⟨_,_,hrg0,hb0,fun i nd hi hm _=>by
     have h2:=HK.out i hi;rw[hm] at h2;obtain⟨_,_,g1,_⟩:=h2;exact Maps.has_true_of_atKey g1⟩
    case round=>
     obtain⟨left,cnt,hrg,hbw,hinv⟩:=hrel;have HINV:=zz hinv;clear hinv;clear hrg0 hb0 hs0
     go_wp2_with (at_next;refine wpList_next_ranges (α:=Int) (β:=Value) _ rfl (.tmp 101) rfl 37 BM rawR (Value.int .u64) (fun v=>v) (fun key kl hkey=>by obtain⟨x,rfl,_⟩:=Maps.keyOf_int_inv Tryz.underlying37 hkey;exact⟨x,rfl⟩) (fun v y hv=>⟨v,rfl⟩) mb wE.heap.size cA D left cnt rfl hrg ?_ ?_)
     ·intro h0 hl
      have hok:GK M:=fun i nd hi hm hb=>by have h:=HINV.out i nd hi hm hb;rw[hl] at h;cases h
      have HOK:=zz hok;clear hok;have HBW:=zz (HS.out.bel.trans (hbw.mono HS.out.bel.size));have hl1:=(HO9.out.1.kept (below_grown hbw none) (by simp)).drew.len Tryz.underlying153 3;have hl2:=hrg.owns.drew.len Tryz.underlying49 3;rw[HO9.out.2] at hl1;obtain⟨c0,f0⟩:=(HAR.out.below HBW.out AA).read;clear hl h0 hrg hbw f0 ho;go_wp2;have HBD:=zz HBW.out.drew;have hHeld:(fun w'=>w'.cell? ⟨ab,0,none⟩=some (.map (some mb))∧(Builtin.len_ #[153] 3 #[.map (some mk)]).run Tryz.prog w'= .ok (.int .i64 (Maps.size D:Int)) w'∧(Builtin.len_ #[49] 3 #[.map (some mb)]).run Tryz.prog w'= .ok (.int .i64 (Maps.size D:Int)) w') wr.drew:=⟨c0,hl1,hl2⟩;refine Ay (fun w'=>w'.cell? ⟨ab,0,none⟩=some (.map (some mb))∧(Builtin.len_ #[153] 3 #[.map (some mk)]).run Tryz.prog w'= .ok (.int .i64 (Maps.size D:Int)) w'∧(Builtin.len_ #[49] 3 #[.map (some mb)]).run Tryz.prog w'= .ok (.int .i64 (Maps.size D:Int)) w') 8 (by kernel_rfl) ?_;refine tz 0 ?_;refine tz 1 ?_;refine tz 2 ?_;refine tz 3 ?_;refine tz 4 ?_;refine tz 5 ?_;refine tz 6 ?_;refine tz 7 ?_;refine Ag (by kernel_rfl) ?_;simp only[List.drop_succ_cons,List.drop_zero];clear hHeld hl1 hl2 c0;go_wp2;go_ret;exact⟨⟨true,rfl,fun _=>⟨rfl,HOK.out⟩,fun _=>rfl⟩,HBD.out⟩
     ·intro x cv kl y ps w1 cnt1 hkx hlx hrx hax hrg1 hlt1 hg1 hs1 hen
      obtain⟨i,nx,ka1,kc1,rfl,hi,rfl,hMi,rfl,hsl⟩:=Na HK.out hkx hrx hax;have hrlt:=hrg.lt;have hle:=hrg.left_eq;have hb1:Below wE.heap.size wE w1:=hbw.grown hg1 hbw.size (fun k hk=>by injection hk with hk;omega);have hrf:=HREF.out i nx hMi;have HMI:=zz (And.intro hi hMi);clear hkx hlx hrx hax hrg hg1 hMi hi hsl hs1;go_wp2;have hb5:=hb1.alloc hb1.size (.cells (Ad nx ka1 kc1) 44);have hn5:=AZ w1 (.cells (Ad nx ka1 kc1) 44);have hr5:=hrg1.alloc (.cells (Ad nx ka1 kc1) 44);have hz5:w1.heap.size < (w1.alloc (.cells (Ad nx ka1 kc1) 44)).heap.size:=by simp
      simp only[Ad] at hb5 hn5 hr5 hz5;generalize World.alloc w1 _=W5 at hb5 hn5 hr5 hz5⊢;have hbE:=HS.out.bel.trans (hb5.mono HS.out.bel.size);have e4:=AJ W5 w1.heap.size 4 _ _ (0,0) hn5;simp at e4;generalize w1.heap.size=blk at hz5 hn5 e4⊢;obtain⟨kr,cr,hslr,hlkr⟩:=HAR.out.lookW hrf;generalize hsoe:(M nx.ref).isSome=so at hlkr;have HSO:=zz hsoe;obtain⟨c5,f5⟩:=(HAR.out.below hbE AA).read;have hal:=(HAR.out.below hbE AA).lt;have HL:=zz hlkr;have HBE:=zz hbE;have HB5:=zz hb5;have HR5:=zz hr5;have hHeld:(fun w'=>w'.cell? ⟨ab,0,none⟩=some (.map (some mb))∧w'.cell? ⟨blk,4,none⟩=some (.int .u64 (nx.ref:Int))∧(Instr.lookup 49 (.map (some mb)) (.int .u64 (nx.ref:Int)) true).run Tryz.prog w'= .ok (.tuple #[ndV (ndAt M nx.ref) kr cr,.bool so]) w') W5.drew:=⟨c5,e4,(hlkr _ hbE.drew).1⟩;have hHeld0:=hHeld;clear hlkr hslr hbE hb5 hr5 hn5 hrg1 hb1 c5 f5 e4 hrf hsoe;refine Ay (fun w'=>w'.cell? ⟨ab,0,none⟩=some (.map (some mb))∧w'.cell? ⟨blk,4,none⟩=some (.int .u64 (nx.ref:Int))∧(Instr.lookup 49 (.map (some mb)) (.int .u64 (nx.ref:Int)) true).run Tryz.prog w'= .ok (.tuple #[ndV (ndAt M nx.ref) kr cr,.bool so]) w') 12 (by kernel_rfl) ?_;refine tz 0 ?_;refine tz 1 ?_;refine tz 2 ?_;refine tz 3 ?_;refine tz 4 ?_;refine tz 5 ?_;refine tz 6 ?_;refine tz 7 ?_;refine tz 8 ?_;refine tz 9 ?_;refine AR (i:=10) rfl (by kernel_rfl) (fun K hK=> ?_);go_simp;generalize hWa:World.alloc _ _=Wa;obtain⟨hBa,hha,hza⟩:=Ky hWa;have HBA:=zz hBa;clear hWa hBa;refine hK.out _ _ (⟨(HBA.out.cell (p:=⟨ab,0,none⟩) hal).trans hHeld.1,(HBA.out.cell (p:=⟨blk,4,none⟩) hz5).trans hHeld.2.1,(HL.out _ (HBE.out.trans (HBA.out.mono HBE.out.size)).drew).1⟩) (fun hHeld=> ?_);clear hK K
      try simp only[Act.put,sA,sB,sC,sD,sE,sF]
      refine AR (i:=11) rfl (by kernel_rfl) (fun K hK=> ?_);have z2:=fun i=>AJ Wa W5.heap.size i _ _ (0,0) hha;have y0:=z2 0;have y1:=z2 1;have y2:=z2 2;have y3:=z2 3;have y4:=z2 4;have y5:=z2 5;simp at y0 y1 y2 y3 y4 y5;have f2:∀i,Wa.frozen? ⟨W5.heap.size,i,none⟩=false:=fun i=>by simp[World.frozen?,hha]
      clear z2;go_simp;generalize hWb:World.setCell _ _ _=Wb;have HBB:=zz (show Below W5.heap.size W5 Wb from hWb ▸ CO HBA.out AA _ _ _ _ _ _);clear hWb y0 y1 y2 y3 y4 y5 f2 hha hza;refine hK.out _ _ (⟨(HBB.out.cell (p:=⟨ab,0,none⟩) hal).trans hHeld0.1,(HBB.out.cell (p:=⟨blk,4,none⟩) hz5).trans hHeld0.2.1,(HL.out _ (HBE.out.trans (HBB.out.mono HBE.out.size)).drew).1⟩) (fun hHeld=> ?_);clear hK K
      try simp only[Act.put,sA,sB,sC,sD,sE,sF]
      refine Ag (by kernel_rfl) ?_;simp only[List.drop_succ_cons,List.drop_zero];have e9:Wb.cell? ⟨blk,4,none⟩=some (.int .u64 (nx.ref:Int)):=hHeld.2.1;clear hHeld hHeld0;have HBR:=zz (HB5.out.trans ((HBB.out.mono HB5.out.size)).drew);have HRR:=zz (QT HR5.out HBB.out.drew);have HRG:=zz (show¬Ns M nx→RgS M mb cA D wE Wb.drew from fun hnb=>⟨_,_,HRR.out,HBR.out,fun i' nd' hi' hm' hb'=>by
       have h1:=HINV.out i' nd' hi' hm' hb';rw[h1,Bool.true_and,Bool.not_eq_true'];cases hs:(idL i').sameKey (idL i) with
       |false=>rfl
       |true=>
         have h2:=WideAt.sameKey_eq hs;have h3:i'=i:=by
          unfold idL at h2;injection h2 with _ h2;exact Int.ofNat.inj h2
         subst h3;rw[HMI.out.2] at hm';cases hm';exact absurd hb' hnb⟩)
      have HBZ:=zz (HS.out.bel.trans (HBR.out.mono HS.out.bel.size));clear HBB HL HBE;by_cases h0:nx.ref=0
      ·have q0:((nx.ref:Int) !=0)=false:=by simp[h0]
       have HH:=zz h0;clear h0;go_wp2;go_roundw
       case rel=>exact HRG.out fun h=>h.1 HH.out
       case measure=>first|exact hlt1|(rw[HRR.out.left_eq];first|exact hlt1|(rw[hle];exact hlt1))
      ·have q0:((nx.ref:Int) !=0)=true:=by simp;omega
       have HH:=zz h0;clear h0;by_cases hso:so=true
       ·have hns:(!so)=false:=by simp[hso]
        have HSS:=zz hso;clear hso;go_wp2;go_roundw
        case rel=>exact HRG.out fun h=>(by have h1:=HSO.out.symm.trans h.2;rw[HSS.out] at h1;cases h1)
        case measure=>first|exact hlt1|(rw[HRR.out.left_eq];first|exact hlt1|(rw[hle];exact hlt1))
       ·have hns:(!so)=true:=by simp[hso]
        have HSS:=zz (show so=false by cases so;rfl;exact absurd rfl hso);clear hso;go_wp2;go_ret;exact⟨⟨false,rfl,fun h=>(by cases h),fun h=>absurd ⟨HH.out,HSO.out.trans HSS.out⟩ (h.2 i nx HMI.out.1 HMI.out.2)⟩,HBZ.out⟩
  |cons i0 lt=>
    rw[D8] at hrun;have hlv:bnd (Ca M (i0::lt) deep []) (fun r=>D8 M f r.2 r.1)=some ot:=hrun;generalize hL:i0::lt=L at*;have hpos:0 < L.length:=by rw[←hL];simp
    have HLV:=zz hlv;clear hrun hlv hL;have HLS:=zz (show LvSt mk wE wE (.slice none 0 0) deep [] from⟨⟨rfl,.inl ⟨rfl,rfl⟩⟩,HS.out.mp,Fr.refl _ _,by simp,by simp⟩);have HTOP:=zz HS.out.top;have HBEL:=zz HS.out.bel;have HOWN:=zz HS.out.own;have hmkl:=HS.out.mp.lt;have hmk2:∀q,(Value.slice a6 L.length c6).ownBlock=some q→¬(q=mk∨wE.heap.size≤q):=fun q e e'=>by
     obtain⟨es,ck,hm⟩:=HS.out.mp.obj;rcases e' with e'|e'
     ·subst e'
      rcases Fx HS.out.own hm with h|h
      ·rw[h] at e;cases e
      ·exact h e
     ·have:=(HS.out.own.lt q e).2;omega
    have HMK2:=zz hmk2;clear hmk2;go_wp2
    go_loopw [7,42] (fun p q wr=>∃(u:Value) (j:Nat) (dp:List (Nat×Nat)) (nx:List Nat),p=u∧q= .int .i64 (j:Int)∧j≤L.length∧LvSt mk wE wr u dp nx∧bnd (Ca M (L.drop j) dp nx) (fun r=>D8 M f r.2 r.1)=some ot) (fun _ q wr=>L.length-(intOf q).toNat)
    case atStart=>exact⟨_,0,deep,[],rfl,rfl,Nat.zero_le _,HLS.out,HLV.out⟩
    case round=>
     rename World=>wF
     obtain⟨u,j,dp,nx,hu,rfl,hj,hL,hlv⟩:=hrel;have hu:=hu.symm;subst hu;have HL:=zz hL;have hbF:Below w.heap.size w wF:=HBEL.out.trans ((hL.fr.imp (D':=fun q=>w.heap.size≤q) (fun q _ e=>by have:=HMK.out;have:=HBEL.out.size;rcases e with e|e <;>omega)).below' HBEL.out.size);have HBF:=zz hbF;clear hL hbF HLS;by_cases hlt:j < L.length
     ·have hof:=Aq HOWN.out HL.out.fr HMK2.out
      obtain⟨b,o,rfl,_,kc6⟩:=(Sl.Ai hof).mapAt hlt;rw[Au hlt,Ca] at hlv;have hidt:=HTOP.out _ (List.getElem_mem hlt);generalize L[j]=id at kc6 hlv hidt;cases hMs:(M id).isNone with
      |true=>rw[hMs] at hlv;cases hlv
      |false=>
      rw[hMs,if_neg (by simp)] at hlv;have htk:bnd (bnd (EB M id (ndAt M id).kids dp nx) fun r=>Ca M (L.drop (j+1)) r.1 r.2) (fun r=>D8 M f r.2 r.1)=some ot:=hlv;obtain⟨kb,kcb,hskb,hlkb⟩:=HAR.out.lookW hidt;have hlk1:=(hlkb wF HBF.out).2;obtain⟨c0,f0⟩:=(HAR.out.below HBF.out AA).read;have HSK:=zz hskb;have hkl:=HA.out.len id;have HKT:=zz (HKB.out.at id);have HTK:=zz htk;have hfld:=Yc (ndAt M id) kb kcb wF;generalize hkids:(ndAt M id).kids=ks at*;clear hlv htk hMs f0 hskb hlkb hof;go_wp2;clear hfld hlk1 c0 kc6 hkids
      go_loopw [7,54] (fun p q wr=>∃(u:Value) (m:Nat) (d1:List (Nat×Nat)) (x1:List Nat),p=u∧q= .int .i64 (m:Int)∧m≤ks.length∧LvSt mk wE wr u d1 x1∧bnd (bnd (EB M id (ks.drop m) d1 x1) fun r=>Ca M (L.drop (j+1)) r.1 r.2) (fun r=>D8 M f r.2 r.1)=some ot) (fun _ q wr=>ks.length-(intOf q).toNat)
      case atStart=>exact⟨_,0,dp,nx,rfl,rfl,Nat.zero_le _,HL.out,HTK.out⟩
      case round=>
       rename World=>wG
       obtain⟨u1,m,d1,x1,hu1,rfl,hm,hL1,htk⟩:=hrel;have hu1:=hu1.symm;subst hu1;have HL1:=zz hL1;have hbG:Below w.heap.size w wG:=HBEL.out.trans ((hL1.fr.imp (D':=fun q=>w.heap.size≤q) (fun q _ e=>by have:=HMK.out;have:=HBEL.out.size;rcases e with e|e <;>omega)).below' HBEL.out.size);have HBG:=zz hbG;clear hL1 hbG;by_cases hltm:m < ks.length
       ·obtain⟨bk,ok,rfl,_,kck⟩:=(HSK.out.below HBG.out AA).mapAt hltm
        rw[Au hltm,EB] at htk;have hkt:=HKT.out _ (List.getElem_mem hltm);generalize ks[m]=k at kck htk hkt;by_cases hc:(gl d1 k).isSome∨(M k).isNone∨1000000≤d1.length∨1000000≤x1.length
        ·rw[if_pos hc] at htk;cases htk
        rw[if_neg hc] at htk;simp only[not_or] at hc;obtain⟨hc1,hc2,hc4,hc5⟩:=hc;have hg0:gl d1 k=none:=by simpa using hc1
        have hms:(M k).isSome=true:=by
         cases hmk9:M k with
         |none=>rw[hmk9] at hc2;simp at hc2
         |some _=>rfl
        obtain⟨kk,kkc,hskk,hlkk⟩:=HAR.out.lookW hkt;have hlk2:=(hlkk wG HBG.out).1;rw[hms] at hlk2;obtain⟨c0,f0⟩:=(HAR.out.below HBG.out AA).read;generalize hde:(gl d1 id).getD 0=d at htk;have HTK3:=zz htk;clear hc1 hc2 hms hskk hlkk f0 htk;go_wp2;have hmH:=HL1.out.mp.fr ((Fr.refl (fun _=>False) wG).alloc (.cells (Ad (ndAt M k) kk kkc) 44)) (fun e=>e);have hoH:=HL1.out.own.alloc (.cells (Ad (ndAt M k) kk kkc) 44);have hfH:=HL1.out.fr.alloc (.cells (Ad (ndAt M k) kk kkc) 44);have hbH:=HBG.out.alloc HBG.out.size (.cells (Ad (ndAt M k) kk kkc) 44);simp only[Ad] at hmH hoH hfH hbH;generalize World.alloc wG _=wH at hmH hoH hfH hbH⊢;have hd1:=hmH.look_ok (t:=153) (x:=k) BM Tryz.underlying153 (hzi _) ⟨_,BZ hkt⟩;rw[XA,hg0] at hd1;replace hd1:(Instr.lookup 153 (.map (some mk)) (.int .u64 (k:Int)) true).run Tryz.prog wH= .ok (.tuple #[.int .i64 0,.bool false]) wH:=hd1;have hd2:=hmH.look (t:=153) (x:=id) BM Tryz.underlying153 (hzi _) ⟨_,BZ hidt⟩;have hgd:(gl (dV d1) id).getD (.int .i64 0)= .int .i64 (d:Int):=by
         rw[XA,←hde];cases gl d1 id <;>rfl
        rw[hgd] at hd2;replace hd2:(Instr.lookup 153 (.map (some mk)) (.int .u64 (id:Int)) false).run Tryz.prog wH= .ok (.int .i64 (d:Int)) wH:=hd2;by_cases hd200:200≤d
        ·have hge:decide ((200:Int)≤(d:Int))=true:=by simp;omega
         have hge2:decide (200≤d)=true:=by simpa using hd200
         have HO:=zz (show ot=none from by
          have h:=HTK3.out;rw[if_pos hd200] at h;exact(Option.some.inj h).symm)
         have HBW:=zz hbH;clear hmH hoH hfH hbH hgd hde hg0 hc4 hc5 hd200
         first|rw[hd1]|erw [hd1]
         go_wp2;go_ret;exact⟨⟨false,rfl,fun h=>(by cases h),fun h=>(by rw[HO.out] at h;cases h.1)⟩,HBW.out⟩
        have htk4:=HTK3.out;rw[if_neg hd200] at htk4;have HTK4:=zz htk4;clear htk4 hbH;obtain⟨wI,hrunI,hUI,hgI⟩:=hmH.put (t:=153) BM Tryz.underlying153 (fun x y h=>by injection h with _ h;exact Int.ofNat.inj h) (by simp[dV];omega) k ⟨_,BZ hkt⟩ (.int .i64 ((d:Int)+1));replace hrunI:(Instr.mapUpdate 153 (.map (some mk)) (.int .u64 (k:Int)) (.int .i64 ((d:Int)+1))).run Tryz.prog wH= .ok () wI:=hrunI;have hwr:IntKind.i64.wrap ((d:Int)+1)=(d:Int)+1:=IntWalk.i64_in _ (by omega);have hge:decide ((200:Int)≤(d:Int))=false:=by simp;omega
        have hge2:decide (200≤d)=false:=by simp;omega
        have hfI:Fr (fun q=>q=mk) wH wI:=Fr.EQ hgI (fun q e=>(Option.some.inj e).symm);have HOI:=zz (Aq hoH hfI (fun q e e'=>by have:=(hoH.lt q e).1;omega));have HUI:=zz (show IMap wI mk (dV ((k,d+1)::d1)) from hUI);have HFI:=zz (hfH.trans (hfI.imp (fun q _ e=> .inl e)));have hx5:x1.length < 1000000:=by omega
        clear hmH hoH hfH hUI hgI hfI hgd hde hg0 hd200 hc4 hc5 HTK3
        first|rw[hd1]|erw [hd1]
        go_wp2_with (at_builtin;refine wpList_append_own_at _ rfl (.tmp 90) (.tmp 92) _ rfl wE.heap.size 37 j0 _ 1 8 Tryz.underlying42 hJ hJ0 hJ1 hJ2 rfl (by decide) _ x1.length (x1.map idV) rfl (HOI.out.alloc _) ⟨wI.heap.size,0,none⟩ 1 1 [idV k] rfl rfl (Ao _ _ _) ?_ ?_ ?_ ?_ ?_)
        all_goals first
         |intro v3 W3' own3 g3 _ at3
         |(unfold maxLen;omega)
         |omega
         |(simp;have:=HFI.out.size;omega)
         |(intro u hu;simp only[List.mem_singleton] at hu;subst hu;rfl)
        have hgF:=(Fr.refl (fun q=>u1.ownBlock=some q) wI).alloc (.cells #[idV k] 37);have hg9:=hgF.step g3 (fun q e=> .inl e);have HL3:=zz (show LvSt mk wE W3' v3 ((k,d+1)::d1) (x1++[k]) from
         ⟨by rw [List.map_append, List.length_append]; exact own3,
          HUI.out.fr hg9 (fun e=>by have:=(HOI.out.lt _ e).1;omega),
          HFI.out.trans (hg9.imp (fun q _ e=> .inr (HOI.out.lt _ e).1)),
          fun x hx=>by
           rcases List.mem_append.1 hx with h|h
           ·exact HL1.out.top x h
           ·simp at h;subst h;exact hkt,
          by simp;omega⟩)
        clear own3 g3 at3 hgF hg9;go_wp2;go_roundw
        case rel=>exact⟨v3,m+1,(k,d+1)::d1,x1++[k],rfl,by go_num,by omega,HL3.out,HTK4.out⟩
        case measure=>simp[intOf];omega
       ·obtain rfl:m=ks.length:=by omega
        rw[List.drop_length] at htk;have HLV2:=zz (show bnd (Ca M (L.drop (j+1)) d1 x1) (fun r=>D8 M f r.2 r.1)=some ot from htk);clear htk;go_wp2;go_roundw
        case rel=>exact⟨u1,j+1,d1,x1,rfl,by go_num,by omega,HL1.out,HLV2.out⟩
        case measure=>simp[intOf];omega
     ·obtain rfl:j=L.length:=by omega
      rw[List.drop_length] at hlv;have HRUN:=zz (show D8 M f nx dp=some ot from hlv);clear hlv;have HT2:=zz (show TrSX M ot mk w f u wF nx dp from⟨Cv HL.out.own HBEL.out.size,HL.out.mp,HBF.out,HRUN.out,HL.out.top,HL.out.len⟩);go_wp2;go_roundw
      case rel=>exact⟨u,f,nx,dp,rfl,HT2.out⟩
      case measure=>
       have:=Hg.IY (p:=fun f=>∃lvl deep,TrSX M ot mk w f u wF lvl deep) ⟨nx,dp,HT2.out⟩;have:=HF0.out;omega
end Go.Proofs.YtijhlanclfajiaaGreatDoor
namespace Hg
def refK(k:Nat):Bool:=decide (k=7)||(decide (k=15)||decide (k=19))
def toK(k t:Nat):Bool:=if k=19 then decide (t=3) else decide (t=4)||decide (t=6)
end Hg
namespace Go.Proofs.YtijhlanclfajiaaGreatDoor
open Go.RowKit
open Hg (gl wk isK ndAt Bf KB isNamed CL E9 EJ refK toK)
def Fa(M:Nat→Option Hg.Node)(n:Hg.Node):Bool:=
 (isNamed n.kind==(n.name !=[])) && ((!isNamed n.kind||Ga n.name) && ((CL n.kind==(n.type !=0)) && (decide (n.type≤2) && (decide (E9 n.kind≤n.num) && (decide (n.num≤EJ n.kind) && ((refK n.kind==(n.ref !=0)) && (!refK n.kind||toK n.kind (ndAt M n.ref).kind)))))))
theorem Rx(ab:Nat)(M:Nat→Option Hg.Node)(n:Hg.Node)(ka:Option Addr)(kc:Nat)(w:World)(hA:ArOk w ab M)(hT:DX w)(hrf:n.ref < 18446744073709551616)(hnl:n.name.length≤1000000):
 Calls Tryz.prog 47 #[.pointer (some ⟨ab,0,none⟩),ndV n ka kc] w fun e w'=>e= .returned (.bool (Fa M n))∧Below w.heap.size w w':=by
 obtain⟨res,hres⟩:∃r,r=Fa M n:=⟨_,rfl⟩;rw[←hres];obtain⟨kd,nm,nu,ty,rf,ks⟩:=n;dsimp only at hrf hnl;unfold Fa at hres;dsimp only at hres;have HRES:=zz hres;have TG:=zz (fun W (h:Below w.heap.size w W)=>(hA.below h).getN hrf);have TN:=zz (fun W (h:Below w.heap.size w W)=>SK nm W (by omega) (hT.block (h.block _ hT.lt)));have hb0:Below w.heap.size w (w.alloc (.cells (Ad ⟨kd,nm,nu,ty,rf,ks⟩ ka kc) 44)):=(AP).alloc AA _;have hn0:=AZ w (.cells (Ad ⟨kd,nm,nu,ty,rf,ks⟩ ka kc) 44);have hz0:(w.alloc (.cells (Ad ⟨kd,nm,nu,ty,rf,ks⟩ ka kc) 44)).heap.size=w.heap.size+1:=by simp
 simp only[Ad] at hb0 hn0 hz0;clear hA hT hrf hnl hres;have e:∀b:Nat,((kd:Int)==(b:Int))=decide (kd=b):=fun b=>by rw[Bool.eq_iff_iff];simp;omega
 have E:=zz e;clear e;go_enter Tryz.func47,Tryz.ntmps47;go_upto_region 1 with fail;generalize World.alloc w _=W0 at hb0 hn0 hz0⊢;have y:=fun i=>AJ W0 w.heap.size i _ _ (0,0) hn0;have y0:=y 0;have y1:=y 1;have y2:=y 2;have y3:=y 3;have y4:=y 4;simp at y0 y1 y2 y3 y4;have HB0:=zz hb0;have HN0:=zz hn0;clear y hb0 hn0
 go_cut [5] from 13 to 131 (fun v wx=>v= .bool (isNamed kd)∧W0=wx)
 case first=>as_aux_lemma=>
  have q1:((kd:Int)==2)=_:=E.out 2;have q2:((kd:Int)==3)=_:=E.out 3;have q3:((kd:Int)==4)=_:=E.out 4;have q4:((kd:Int)==6)=_:=E.out 6;have hs:isNamed kd=(decide (kd=2)||(decide (kd=3)||(decide (kd=4)||decide (kd=6)))):=by unfold isNamed;simp[Bool.or_assoc]
  generalize decide (kd=2)=c1 at q1 hs;generalize decide (kd=3)=c2 at q2 hs;generalize decide (kd=4)=c3 at q3 hs;generalize decide (kd=6)=c4 at q4 hs;cases c1
  ·cases c2
   ·cases c3
    all_goals
     have hn:=zz hs;clear hs;go_wp2
     go_meet
     case rel=>exact⟨by rw[hn.out];simp,rfl⟩
   ·have hn:=zz hs
    clear hs;go_wp2
    go_meet
    case rel=>exact⟨by rw[hn.out];simp,rfl⟩
  ·have hn:=zz hs
   clear hs;go_wp2
   go_meet
   case rel=>exact⟨by rw[hn.out];simp,rfl⟩
 case rest=>
  obtain⟨rfl,rfl⟩:=hcut;go_upto_region 2 with fail
  go_cut [5,6] from 13 to 131 (fun v5 v wx=>v5= .bool (isNamed kd)∧v= .bool (CL kd)∧W0=wx)
  case first=>as_aux_lemma=>
   cases hnm:isNamed kd
   all_goals
    have hn:CL kd=(isNamed kd && decide (kd≠2)):=rfl;rw[hnm] at hn;have q1:((kd:Int) !=2)=decide (kd≠2):=by show(!((kd:Int)==((2:Nat):Int)))=_;rw[E.out 2];simp
    have HN:=zz hn;have HM:=zz hnm;clear hn hnm;go_wp2
    go_meet
    case rel=>exact⟨by rw[HM.out],by rw[HN.out];simp,rfl⟩
  case rest=>
   obtain⟨rfl,rfl,rfl⟩:=hcut;go_upto_region 3 with fail
   go_cut [7] from 13 to 131 (fun v wx=>v= .bool (refK kd)∧W0=wx)
   case first=>as_aux_lemma=>
    have q1:((kd:Int)==7)=_:=E.out 7;have q2:((kd:Int)==15)=_:=E.out 15;have q3:((kd:Int)==19)=_:=E.out 19;have hs:refK kd=(decide (kd=7)||(decide (kd=15)||decide (kd=19))):=rfl;generalize decide (kd=7)=c1 at q1 hs;generalize decide (kd=15)=c2 at q2 hs;generalize decide (kd=19)=c3 at q3 hs;cases c1
    ·cases c2
     all_goals
      have hn:=zz hs;clear hs;go_wp2
      go_meet
      case rel=>exact⟨by rw[hn.out];simp,rfl⟩
    ·have hn:=zz hs
     clear hs;go_wp2
     go_meet
     case rel=>exact⟨by rw[hn.out];simp,rfl⟩
   case rest=>
    obtain⟨rfl,rfl⟩:=hcut
    go_upto_block 0 with fail
    go_cut [8,9] from 13 to 131 (fun lv hv wx=>lv= .int .i64 (E9 kd)∧hv= .int .i64 (EJ kd)∧W0=wx)
    case first=>as_aux_lemma=>
     obtain⟨l13,l14,l18,lo⟩:=Hg.PT kd;have t13:=E.out 13;have t14:=E.out 14;have t18:=E.out 18;by_cases k13:kd=13
     ·have HLH:=zz (l13 k13)
      have q1:((kd:Int)==13)=true:=by simp[k13]
      clear l13 l14 l18 lo k13 t13 t14 t18;go_wp2
      go_meet
      case rel=>exact⟨by rw[HLH.out.1],by rw[HLH.out.2],rfl⟩
     have q1:((kd:Int)==13)=false:=by simp;omega
     by_cases k14:kd=14
     ·have HLH:=zz (l14 k14)
      have q2:((kd:Int)==14)=true:=by simp[k14]
      clear l13 l14 l18 lo k13 k14 t13 t14 t18;go_wp2
      go_meet
      case rel=>exact⟨by rw[HLH.out.1],by rw[HLH.out.2],rfl⟩
     have q2:((kd:Int)==14)=false:=by simp;omega
     by_cases k18:kd=18
     ·have HLH:=zz (l18 k18)
      have q3:((kd:Int)==18)=true:=by simp[k18]
      clear l13 l14 l18 lo k13 k14 k18 t13 t14 t18;go_wp2
      go_meet
      case rel=>exact⟨by rw[HLH.out.1],by rw[HLH.out.2],rfl⟩
     have q3:((kd:Int)==18)=false:=by simp;omega
     have HLH:=zz (lo ⟨k13,k14,k18⟩);clear l13 l14 l18 lo k13 k14 k18 t13 t14 t18;go_wp2
     go_meet
     case rel=>exact⟨by rw[HLH.out.1],by rw[HLH.out.2],rfl⟩
    case rest=>
     obtain⟨rfl,rfl,rfl⟩:=hcut;go_upto_region 13 with(go_at_call 34;refine(TG.out _ HB0.out).mono ?_;rintro e w1 ⟨ka1,kc1,rfl,ho1,hb1⟩);have hb2:=HB0.out.trans (hb1.mono HB0.out.size);have hb3:=hb2.alloc hb2.size (.cells (Ad (ndAt M rf) ka1 kc1) 44);have hn3:=(hb1.alloc hb1.size (.cells (Ad (ndAt M rf) ka1 kc1) 44)).block w.heap.size (by simp[hz0])|>.trans HN0.out
     have hn4:=AZ w1 (.cells (Ad (ndAt M rf) ka1 kc1) 44);have hz3:w1.heap.size < (w1.alloc (.cells (Ad (ndAt M rf) ka1 kc1) 44)).heap.size:=by simp
     simp only[Ad] at hb3 hn3 hn4 hz3;generalize World.alloc w1 _=W3 at hb3 hn3 hn4 hz3⊢;generalize w1.heap.size=b1 at hn4 hz3⊢;have t0:=AJ W3 b1 0 _ _ (0,0) hn4;have y:=fun i=>AJ W3 w.heap.size i _ _ (0,0) hn3;clear y0 y1 y2 y3 y4;have y0:=y 0;have y1:=y 1;have y2:=y 2;have y3:=y 3;have y4:=y 4;simp at y0 y1 y2 y3 y4 t0;have HB3:=zz hb3;have HN3:=zz hn3;clear hn3 hn4 hb1 hb2 hb3 ho1 y TG HB0 HN0;generalize(ndAt M rf).kind=kt at t0 HRES
     go_cut [12] from 13 to 131 (fun rv wx=>rv= .bool (decide (kt=4)||decide (kt=6))∧W3=wx)
     case first=>as_aux_lemma=>
      by_cases k4:kt=4
      ·have q1:((kt:Int)==4)=true:=by simp[k4]
       have HK:=zz k4;clear k4;go_wp2
       go_meet
       case rel=>exact⟨by rw[HK.out];rfl,rfl⟩
      ·have q1:((kt:Int)==4)=false:=by simp;omega
       have q2:((kt:Int)==6)=decide (kt=6):=by rw[Bool.eq_iff_iff];simp;omega
       have HK:=zz (decide_eq_false k4);clear k4;go_wp2
       go_meet
       case rel=>exact⟨by rw[HK.out];rfl,rfl⟩
     case rest=>
      obtain⟨rfl,rfl⟩:=hcut
      go_upto_if 75 with fail
      go_cut [12] from 13 to 131 (fun rv wx=>rv= .bool (toK kd kt)∧W3=wx)
      case first=>as_aux_lemma=>
       have t19:=E.out 19;by_cases k19:kd=19
       ·have q1:((kd:Int)==19)=true:=by simp[k19]
        have q2:((kt:Int)==3)=decide (kt=3):=by rw[Bool.eq_iff_iff];simp;omega
        have HK:=zz (show toK kd kt=decide (kt=3) by unfold toK;rw[if_pos k19]);clear k19 t19;go_wp2
        go_meet
        case rel=>exact⟨by rw[HK.out],rfl⟩
       ·have q1:((kd:Int)==19)=false:=by simp;omega
        have HK:=zz (show toK kd kt=(decide (kt=4)||decide (kt=6)) by unfold toK;rw[if_neg k19]);clear k19 t19;go_wp2
        go_meet
        case rel=>exact⟨by rw[HK.out],rfl⟩
      case rest=>
       obtain⟨rfl,rfl⟩:=hcut;have hs1:((ty:Int) !=0)=(ty !=0):=by rw[Bool.eq_iff_iff];simp
       have hs2:decide ((ty:Int)≤2)=decide (ty≤2):=by rw[decide_eq_decide];omega
       have hs3:((rf:Int) !=0)=(rf !=0):=by rw[Bool.eq_iff_iff];simp
       generalize isNamed kd=bn at HRES⊢;generalize CL kd=b3 at HRES⊢;generalize refK kd=br at HRES⊢;generalize toK kd kt=bk at HRES⊢;generalize E9 kd=lo at HRES⊢;generalize EJ kd=hi at HRES⊢;generalize(ty !=0)=ct at HRES hs1;generalize hs4:decide (ty≤2)=c2 at HRES hs2;generalize hs5:decide (lo≤nu)=c4 at HRES;generalize hs6:decide (nu≤hi)=c5 at HRES;generalize(rf !=0)=cr at HRES hs3;clear E;rcases nm with _|⟨c0,nm⟩
       ·have HBE:=HB3
        cases bn
        ·skip
         by_cases h3:(b3==ct)=true
         ·have H3:=zz h3
          cases c2
          ·skip
           have HF:=zz (show false=res by rw[HRES.out];simp[]);go_wp2;go_ret;exact⟨AQ HF.out,HBE.out⟩
          ·cases c4
           ·skip
            have HF:=zz (show false=res by rw[HRES.out];simp[]);go_wp2;go_ret;exact⟨AQ HF.out,HBE.out⟩
           ·cases c5
            ·skip
             have HF:=zz (show false=res by rw[HRES.out];simp[]);go_wp2;go_ret;exact⟨AQ HF.out,HBE.out⟩
            ·cases br
             ·cases cr
              ·have HF:=zz (show true=res by rw[HRES.out,H3.out];rfl)
               go_wp2;go_ret;exact⟨AQ HF.out,HBE.out⟩
              ·skip
               have HF:=zz (show false=res by rw[HRES.out];simp[]);go_wp2;go_ret;exact⟨AQ HF.out,HBE.out⟩
             ·cases cr
              ·skip
               have HF:=zz (show false=res by rw[HRES.out];simp[]);go_wp2;go_ret;exact⟨AQ HF.out,HBE.out⟩
              ·have HF:=zz (show bk=res by rw[HRES.out,H3.out];rfl)
               go_wp2;go_ret;exact⟨AQ HF.out,HBE.out⟩
         ·have h3':(b3==ct)=false:=by simpa using h3
          have H3:=zz h3';clear h3;have HF:=zz (show false=res by rw[HRES.out];simp[H3.out]);go_wp2;go_ret;exact⟨AQ HF.out,HBE.out⟩
        ·skip
         have HF:=zz (show false=res by rw[HRES.out];simp[]);go_wp2;go_ret;exact⟨AQ HF.out,HBE.out⟩
       ·cases bn
        ·have HBE:=HB3
         have HF:=zz (show false=res by rw[HRES.out];simp[]);go_wp2;go_ret;exact⟨AQ HF.out,HBE.out⟩
        ·generalize Ga (c0::nm)=bN at TN HRES
         go_wp2_with fail;refine(TN.out _ HB3.out).mono ?_;rintro e w5 ⟨rfl,hb5⟩;have z:=fun i=>AJ w5 w.heap.size i _ _ (0,0) ((hb5.block w.heap.size (Ab.1 HN3.out).1).trans HN3.out);have z0:=z 0;have z1:=z 1;have z2:=z 2;have z3:=z 3;have z4:=z 4;simp at z0 z1 z2 z3 z4;have HBE:=zz (HB3.out.trans (hb5.mono HB3.out.size));clear z hb5 TN y0 y1 y2 y3 y4;cases bN
         ·skip
          have HF:=zz (show false=res by rw[HRES.out];simp[]);go_wp2;go_ret;exact⟨AQ HF.out,HBE.out⟩
         ·skip
          by_cases h3:(b3==ct)=true
          ·have H3:=zz h3
           cases c2
           ·skip
            have HF:=zz (show false=res by rw[HRES.out];simp[]);go_wp2;go_ret;exact⟨AQ HF.out,HBE.out⟩
           ·cases c4
            ·skip
             have HF:=zz (show false=res by rw[HRES.out];simp[]);go_wp2;go_ret;exact⟨AQ HF.out,HBE.out⟩
            ·cases c5
             ·skip
              have HF:=zz (show false=res by rw[HRES.out];simp[]);go_wp2;go_ret;exact⟨AQ HF.out,HBE.out⟩
             ·cases br
              ·cases cr
               ·have HF:=zz (show true=res by rw[HRES.out,H3.out];rfl)
                go_wp2;go_ret;exact⟨AQ HF.out,HBE.out⟩
               ·skip
                have HF:=zz (show false=res by rw[HRES.out];simp[]);go_wp2;go_ret;exact⟨AQ HF.out,HBE.out⟩
              ·cases cr
               ·skip
                have HF:=zz (show false=res by rw[HRES.out];simp[]);go_wp2;go_ret;exact⟨AQ HF.out,HBE.out⟩
               ·have HF:=zz (show bk=res by rw[HRES.out,H3.out];rfl)
                go_wp2;go_ret;exact⟨AQ HF.out,HBE.out⟩
          ·have h3':(b3==ct)=false:=by simpa using h3
           have H3:=zz h3';clear h3;have HF:=zz (show false=res by rw[HRES.out];simp[H3.out]);go_wp2;go_ret;exact⟨AQ HF.out,HBE.out⟩
end Go.Proofs.YtijhlanclfajiaaGreatDoor
namespace Hg
def stB(k:Nat):Bool:=decide (6≤k) && (decide (k≤12) && decide (k≠10))
def exB(k:Nat):Bool:=decide (13≤k) && decide (k≤20)
def onB(k0 k:Nat):Bool:=decide (k=k0)
theorem I6{k:Nat}:stB k=true↔stP k:=by simp[stB,stP]
theorem Dm{k:Nat}:exB k=true↔exP k:=by simp[exB,exP]
end Hg
namespace Go.Proofs.YtijhlanclfajiaaGreatDoor
open Go.RowKit
open Hg (GT gl wk isK ndAt Bf KB kk Wp stP exP BC stB exB onB I6 Dm)
theorem Mg(k:Nat)(w:World):Calls Tryz.prog 102 #[.int .u8 (k:Int)] w fun e w'=>e= .returned (.bool (stB k))∧w=w':=by
 unfold stB;have q1:decide ((6:Int)≤(k:Int))=decide (6≤k):=by rw[decide_eq_decide];omega
 have q2:decide ((k:Int)≤(12:Int))=decide (k≤12):=by rw[decide_eq_decide];omega
 have q3:((k:Int) !=10)=decide (k≠10):=by rw[Bool.eq_iff_iff];simp;omega
 generalize hc1:decide (6≤k)=c1 at q1⊢;generalize hc2:decide (k≤12)=c2 at q2⊢;generalize decide (k≠10)=c3 at q3⊢;cases c1
 ·go_enter Tryz.func102,Tryz.ntmps102
  go_wp2;go_ret;exact⟨rfl,rfl⟩
 ·cases c2
  all_goals
   go_enter Tryz.func102,Tryz.ntmps102;go_wp2;go_ret;exact⟨rfl,rfl⟩
theorem Gs(k:Nat)(w:World):Calls Tryz.prog 103 #[.int .u8 (k:Int)] w fun e w'=>e= .returned (.bool (exB k))∧w=w':=by
 unfold exB;have q1:decide ((13:Int)≤(k:Int))=decide (13≤k):=by rw[decide_eq_decide];omega
 have q2:decide ((k:Int)≤(20:Int))=decide (k≤20):=by rw[decide_eq_decide];omega
 generalize hc1:decide (13≤k)=c1 at q1⊢;generalize hc2:decide (k≤20)=c2 at q2⊢;cases c1
 all_goals
  go_enter Tryz.func103,Tryz.ntmps103;go_wp2;go_ret;exact⟨rfl,rfl⟩
theorem Uu(k k0 qb:Nat)(w:World)(h:w.cell? ⟨qb,0,none⟩=some (.int .u8 (k0:Int))):Calls Tryz.prog 101 #[.int .u8 (k:Int),.pointer (some ⟨qb,0,none⟩)] w fun e w'=>e= .returned (.bool (onB k0 k))∧w=w':=by
 unfold onB;have q1:((k:Int)==(k0:Int))=decide (k=k0):=by rw[Bool.eq_iff_iff];simp;omega
 generalize decide (k=k0)=c at q1⊢;go_enter Tryz.func101,Tryz.ntmps101;go_wp2;go_ret;exact⟨rfl,rfl⟩
def AllR(M:Nat→Option Hg.Node)(ks:List Nat)(p:Nat→Bool)(a0 b0:Nat)(e:Ending):Prop:=∃b,e= .returned (.bool b)∧(b=true↔∀i,a0≤i→i < b0→p (ndAt M (ks.getD i 0)).kind=true)
theorem Vb(ab b1 b2 fb:Nat)(M:Nat→Option Hg.Node)(n:Hg.Node)(ka:Option Addr)(kc a0 b0:Nat)(w:World)(hK:Iq w ab b1 b2 M n ka kc)(hf:w.cell? ⟨fb,0,none⟩=some (.func (.func 98) #[] #[.pointer (some ⟨b1,0,none⟩),.pointer (some ⟨b2,0,none⟩)]))(hfl:fb < w.heap.size)(hle:b0≤n.kids.length):
 Calls Tryz.prog 99 #[.int .i64 (a0:Int),.int .i64 (b0:Int),.func (.func 102) #[] #[],.pointer (some ⟨fb,0,none⟩)] w fun e w'=>AllR M n.kids stB a0 b0 e∧Below w.heap.size w w':=by
 have HK:=zz hK;have HF:=zz hf;have hln:=hK.len;clear hK hf;go_enter Tryz.func99,Tryz.ntmps99;go_wp2
 go_loopw [8] (fun p wr=>∃i:Nat,p= .int .i64 (i:Int)∧a0≤i∧(i≤b0∨i=a0)∧Below w.heap.size w wr∧∀j,a0≤j→j < i→stB (ndAt M (n.kids.getD j 0)).kind=true) (fun p wr=>b0-(intOf p).toNat)
 case atStart=>exact⟨a0,rfl,AA,.inr rfl,AP,fun j h1 h2=>by omega⟩
 case round=>
  obtain⟨i,rfl,hi1,hi2,hb,hall⟩:=hrel;have HB:=zz hb;have hzr:=hb.size;have HALL:=zz hall;clear hall;by_cases hlt:i < b0
  ·have hil:i < n.kids.length:=by omega
   have cf:wr.cell? ⟨fb,0,none⟩=some (.func (.func 98) #[] #[.pointer (some ⟨b1,0,none⟩),.pointer (some ⟨b2,0,none⟩)]):=(hb.cell hfl).trans HF.out;have TK:=zz (Dt ab b1 b2 M n ka kc i wr (HK.out.below hb) hil);have hkk:(ndAt M (n.kids.getD i 0)).kind=(ndAt M n.kids[i]).kind:=by simp[List.getD,AX hil]
   generalize(ndAt M n.kids[i]).kind=k at TK hkk;have HKK:=zz hkk;clear hb hkk;go_wp2_with fail;refine TK.out.mono ?_;rintro e w1 ⟨rfl,hb1⟩;have HB1:=zz (HB.out.trans (hb1.mono hzr));clear TK hb1;skip;go_wp2_with fail;refine(Mg k _).mono ?_;rintro e w2 ⟨rfl,rfl⟩;cases hp:(stB k:Bool) with
   |false=>
     have HP:=zz hp;clear hp;go_wp2;go_ret;exact⟨⟨false,rfl,fun h=>(by cases h),fun h=>by have h2:=h i hi1 hlt;rw[HKK.out] at h2;exact HP.out.symm.trans h2⟩,HB1.out⟩
   |true=>
     have HP:=zz hp;clear hp;go_wp2;go_roundw
     case rel=>exact⟨i+1,by go_num,by omega,by omega,HB1.out,fun j h1 h2=>by
      by_cases hj:j < i
      ·exact HALL.out j h1 hj
      ·obtain rfl:j=i:=by omega
       rw[HKK.out];exact HP.out⟩
     case measure=>simp[intOf];omega
  ·go_wp2
   go_ret;exact⟨⟨true,rfl,fun _ j h1 h2=>HALL.out j h1 (by omega),fun _=>rfl⟩,HB.out⟩
theorem O0(ab b1 b2 fb:Nat)(M:Nat→Option Hg.Node)(n:Hg.Node)(ka:Option Addr)(kc a0 b0:Nat)(w:World)(hK:Iq w ab b1 b2 M n ka kc)(hf:w.cell? ⟨fb,0,none⟩=some (.func (.func 98) #[] #[.pointer (some ⟨b1,0,none⟩),.pointer (some ⟨b2,0,none⟩)]))(hfl:fb < w.heap.size)(hle:b0≤n.kids.length):
 Calls Tryz.prog 99 #[.int .i64 (a0:Int),.int .i64 (b0:Int),.func (.func 103) #[] #[],.pointer (some ⟨fb,0,none⟩)] w fun e w'=>AllR M n.kids exB a0 b0 e∧Below w.heap.size w w':=by
 have HK:=zz hK;have HF:=zz hf;have hln:=hK.len;clear hK hf;go_enter Tryz.func99,Tryz.ntmps99;go_wp2
 go_loopw [8] (fun p wr=>∃i:Nat,p= .int .i64 (i:Int)∧a0≤i∧(i≤b0∨i=a0)∧Below w.heap.size w wr∧∀j,a0≤j→j < i→exB (ndAt M (n.kids.getD j 0)).kind=true) (fun p wr=>b0-(intOf p).toNat)
 case atStart=>exact⟨a0,rfl,AA,.inr rfl,AP,fun j h1 h2=>by omega⟩
 case round=>
  obtain⟨i,rfl,hi1,hi2,hb,hall⟩:=hrel;have HB:=zz hb;have hzr:=hb.size;have HALL:=zz hall;clear hall;by_cases hlt:i < b0
  ·have hil:i < n.kids.length:=by omega
   have cf:wr.cell? ⟨fb,0,none⟩=some (.func (.func 98) #[] #[.pointer (some ⟨b1,0,none⟩),.pointer (some ⟨b2,0,none⟩)]):=(hb.cell hfl).trans HF.out;have TK:=zz (Dt ab b1 b2 M n ka kc i wr (HK.out.below hb) hil);have hkk:(ndAt M (n.kids.getD i 0)).kind=(ndAt M n.kids[i]).kind:=by simp[List.getD,AX hil]
   generalize(ndAt M n.kids[i]).kind=k at TK hkk;have HKK:=zz hkk;clear hb hkk;go_wp2_with fail;refine TK.out.mono ?_;rintro e w1 ⟨rfl,hb1⟩;have HB1:=zz (HB.out.trans (hb1.mono hzr));clear TK hb1;skip;go_wp2_with fail;refine(Gs k _).mono ?_;rintro e w2 ⟨rfl,rfl⟩;cases hp:(exB k:Bool) with
   |false=>
     have HP:=zz hp;clear hp;go_wp2;go_ret;exact⟨⟨false,rfl,fun h=>(by cases h),fun h=>by have h2:=h i hi1 hlt;rw[HKK.out] at h2;exact HP.out.symm.trans h2⟩,HB1.out⟩
   |true=>
     have HP:=zz hp;clear hp;go_wp2;go_roundw
     case rel=>exact⟨i+1,by go_num,by omega,by omega,HB1.out,fun j h1 h2=>by
      by_cases hj:j < i
      ·exact HALL.out j h1 hj
      ·obtain rfl:j=i:=by omega
       rw[HKK.out];exact HP.out⟩
     case measure=>simp[intOf];omega
  ·go_wp2
   go_ret;exact⟨⟨true,rfl,fun _ j h1 h2=>HALL.out j h1 (by omega),fun _=>rfl⟩,HB.out⟩
theorem JG(ab b1 b2 fb:Nat)(M:Nat→Option Hg.Node)(n:Hg.Node)(ka:Option Addr)(kc a0 b0:Nat)(qb k0:Nat)(w:World)(hK:Iq w ab b1 b2 M n ka kc)(hf:w.cell? ⟨fb,0,none⟩=some (.func (.func 98) #[] #[.pointer (some ⟨b1,0,none⟩),.pointer (some ⟨b2,0,none⟩)]))(hfl:fb < w.heap.size)(hq:w.cell? ⟨qb,0,none⟩=some (.int .u8 (k0:Int))∧qb < w.heap.size)(hle:b0≤n.kids.length):
 Calls Tryz.prog 99 #[.int .i64 (a0:Int),.int .i64 (b0:Int),.func (.func 101) #[] #[.pointer (some ⟨qb,0,none⟩)],.pointer (some ⟨fb,0,none⟩)] w fun e w'=>AllR M n.kids (onB k0) a0 b0 e∧Below w.heap.size w w':=by
 have HK:=zz hK;have HF:=zz hf;have hln:=hK.len;clear hK hf;go_enter Tryz.func99,Tryz.ntmps99;go_wp2
 go_loopw [8] (fun p wr=>∃i:Nat,p= .int .i64 (i:Int)∧a0≤i∧(i≤b0∨i=a0)∧Below w.heap.size w wr∧∀j,a0≤j→j < i→(onB k0) (ndAt M (n.kids.getD j 0)).kind=true) (fun p wr=>b0-(intOf p).toNat)
 case atStart=>exact⟨a0,rfl,AA,.inr rfl,AP,fun j h1 h2=>by omega⟩
 case round=>
  obtain⟨i,rfl,hi1,hi2,hb,hall⟩:=hrel;have HB:=zz hb;have hzr:=hb.size;have HALL:=zz hall;clear hall;by_cases hlt:i < b0
  ·have hil:i < n.kids.length:=by omega
   have cf:wr.cell? ⟨fb,0,none⟩=some (.func (.func 98) #[] #[.pointer (some ⟨b1,0,none⟩),.pointer (some ⟨b2,0,none⟩)]):=(hb.cell hfl).trans HF.out;have TK:=zz (Dt ab b1 b2 M n ka kc i wr (HK.out.below hb) hil);have hkk:(ndAt M (n.kids.getD i 0)).kind=(ndAt M n.kids[i]).kind:=by simp[List.getD,AX hil]
   generalize(ndAt M n.kids[i]).kind=k at TK hkk;have HKK:=zz hkk;clear hb hkk;go_wp2_with fail;refine TK.out.mono ?_;rintro e w1 ⟨rfl,hb1⟩;have HB1:=zz (HB.out.trans (hb1.mono hzr));clear TK hb1
   (have TO:=Uu k k0 qb w1 ((HB1.out.cell hq.2).trans hq.1))
   go_wp2_with fail;refine(TO).mono ?_;rintro e w2 ⟨rfl,rfl⟩;cases hp:((onB k0) k:Bool) with
   |false=>
     have HP:=zz hp;clear hp;go_wp2;go_ret;exact⟨⟨false,rfl,fun h=>(by cases h),fun h=>by have h2:=h i hi1 hlt;rw[HKK.out] at h2;exact HP.out.symm.trans h2⟩,HB1.out⟩
   |true=>
     have HP:=zz hp;clear hp;go_wp2;go_roundw
     case rel=>exact⟨i+1,by go_num,by omega,by omega,HB1.out,fun j h1 h2=>by
      by_cases hj:j < i
      ·exact HALL.out j h1 hj
      ·obtain rfl:j=i:=by omega
       rw[HKK.out];exact HP.out⟩
     case measure=>simp[intOf];omega
  ·go_wp2
   go_ret;exact⟨⟨true,rfl,fun _ j h1 h2=>HALL.out j h1 (by omega),fun _=>rfl⟩,HB.out⟩
end Go.Proofs.YtijhlanclfajiaaGreatDoor
namespace Hg
def kkq(M:Nat→Option Node)(ks:List Nat)(i:Nat):Nat:=(ndAt M (ks.getD i 0)).kind
theorem KL(M:Nat→Option Node)(ks:List Nat)(i:Nat)(h:i < ks.length):(ndAt M ks[i]).kind=kkq M ks i:=by
 unfold kkq
 simp[List.getD,AX h]
end Hg
namespace Go.Proofs.YtijhlanclfajiaaGreatDoor
open Go.RowKit
open Hg (GT gl wk isK ndAt Bf KB kk Wp kkq KL stP exP BC stB exB onB I6 Dm)
def Zd(M:Nat→Option Hg.Node)(n:Hg.Node)(e:Ending):Prop:=∃b,e= .returned (.bool b)∧(b=true↔BC M n)
@[local go_sem] theorem Xo{P:Program}{w:World}{a:Addr}{m:Mode}(fn:Fn)(first captured:Array Value):(store a (.func fn first captured) m).run P w=stored P w a (.func fn first captured) m:=run_store P w a _ m rfl
@[local go_sem] theorem Uk{P:Program}{w:World}{a:Addr}{m:Mode}:(store a .nilFunc m).run P w=stored P w a .nilFunc m:=run_store P w a _ m rfl
theorem Rm(ab:Nat)(M:Nat→Option Hg.Node)(n:Hg.Node)(ka:Option Addr)(kc:Nat)(w:World)(hA:ArOk w ab M)
 (hs:Sl w w.heap.size (.slice ka n.kids.length kc) n.kids.length (n.kids.map idV)) (hl:n.kids.length≤1000000) (hk:∀k∈n.kids,k < Aj) (hP:1≤n.kind∧n.kind≤20):
 Calls Tryz.prog 46 #[.pointer (some ⟨ab,0,none⟩),ndV n ka kc] w fun e w'=>Zd M n e∧Below w.heap.size w w':=by
 obtain⟨kd,nm,nu,ty,rf,ks⟩:=n;have KS:=zz (Y9 hA hs hl hk);dsimp only at hP hl KS;clear hA hs hk;have hkd:kd=1∨kd=2∨kd=3∨kd=5∨kd=8∨kd=9∨kd=12∨(kd=6∨kd=7∨kd=10∨kd=11∨kd=16∨kd=17)∨kd=18∨kd=19∨(kd=4∨kd=13∨kd=14∨kd=15∨kd=20):=by omega
 clear hP;rcases hkd with rfl|rfl|rfl|rfl|rfl|rfl|rfl|hkd|rfl|rfl|hkd
 ·skip
  have HI:=zz (show BC M ⟨1,nm,nu,ty,rf,ks⟩↔(∀i,i < ks.length→kkq M ks i=2) by simp[BC,kk,kkq]);go_enter Tryz.func46,Tryz.ntmps46;go_wp2_with fail;have hks:=KS.out;clear KS;generalize World.alloc (World.alloc (World.alloc w _) _) _=W0 at hks⊢;have HKS:=zz hks;clear hks;have cf:=HKS.out.cf;replace cf:World.cell? _ ⟨w.heap.size+1+1,0,none⟩=some (.func (.func 98) #[] #[.pointer (some ⟨w.heap.size,0,none⟩),.pointer (some ⟨w.heap.size+1,0,none⟩)]):=cf;refine(PS 2 _).mono ?_;rintro e w1 ⟨rfl,rfl⟩;have HKQ:=zz (HKS.out.below ((AP).alloc AA (.cells #[.int .u8 ((2:Nat):Int)] 5)));have hcq:=AJ _ _ 0 _ _ (0,0) (AZ W0 (.cells #[.int .u8 ((2:Nat):Int)] 5));have hqz:(W0).heap.size < ((W0).alloc (.cells #[.int .u8 ((2:Nat):Int)] 5)).heap.size:=by simp
  clear cf;go_wp2_with fail;refine(JG ab w.heap.size (w.heap.size+1) (w.heap.size+2) M _ ka kc 0 ks.length (W0).heap.size 2 _ HKQ.out.kb HKQ.out.cf HKQ.out.lf ⟨hcq,hqz⟩ (show ks.length≤ks.length by omega)).mono ?_;rintro e w2 ⟨⟨b,rfl,hbi⟩,hb2⟩;have HBI:=zz hbi;have HKS:=zz (HKQ.out.below hb2);have cf:=HKS.out.cf;replace cf:World.cell? _ ⟨w.heap.size+1+1,0,none⟩=some (.func (.func 98) #[] #[.pointer (some ⟨w.heap.size,0,none⟩),.pointer (some ⟨w.heap.size+1,0,none⟩)]):=cf;clear HKQ hcq hb2 hqz hbi;go_wp2;go_ret;exact⟨⟨b,rfl,HBI.out.trans ⟨fun h=>HI.out.2 fun i hi=>of_decide_eq_true (h i (Nat.zero_le _) hi),fun h i _ hi=>decide_eq_true (HI.out.1 h i hi)⟩⟩,HKS.out.be⟩
 ·skip
  have HI:=zz (show BC M ⟨2,nm,nu,ty,rf,ks⟩↔(∀i,i < ks.length→kkq M ks i=3) by simp[BC,kk,kkq]);go_enter Tryz.func46,Tryz.ntmps46;go_wp2_with fail;have hks:=KS.out;clear KS;generalize World.alloc (World.alloc (World.alloc w _) _) _=W0 at hks⊢;have HKS:=zz hks;clear hks;have cf:=HKS.out.cf;replace cf:World.cell? _ ⟨w.heap.size+1+1,0,none⟩=some (.func (.func 98) #[] #[.pointer (some ⟨w.heap.size,0,none⟩),.pointer (some ⟨w.heap.size+1,0,none⟩)]):=cf;refine(PS 3 _).mono ?_;rintro e w1 ⟨rfl,rfl⟩;have HKQ:=zz (HKS.out.below ((AP).alloc AA (.cells #[.int .u8 ((3:Nat):Int)] 5)));have hcq:=AJ _ _ 0 _ _ (0,0) (AZ W0 (.cells #[.int .u8 ((3:Nat):Int)] 5));have hqz:(W0).heap.size < ((W0).alloc (.cells #[.int .u8 ((3:Nat):Int)] 5)).heap.size:=by simp
  clear cf;go_wp2_with fail;refine(JG ab w.heap.size (w.heap.size+1) (w.heap.size+2) M _ ka kc 0 ks.length (W0).heap.size 3 _ HKQ.out.kb HKQ.out.cf HKQ.out.lf ⟨hcq,hqz⟩ (show ks.length≤ks.length by omega)).mono ?_;rintro e w2 ⟨⟨b,rfl,hbi⟩,hb2⟩;have HBI:=zz hbi;have HKS:=zz (HKQ.out.below hb2);have cf:=HKS.out.cf;replace cf:World.cell? _ ⟨w.heap.size+1+1,0,none⟩=some (.func (.func 98) #[] #[.pointer (some ⟨w.heap.size,0,none⟩),.pointer (some ⟨w.heap.size+1,0,none⟩)]):=cf;clear HKQ hcq hb2 hqz hbi;go_wp2;go_ret;exact⟨⟨b,rfl,HBI.out.trans ⟨fun h=>HI.out.2 fun i hi=>of_decide_eq_true (h i (Nat.zero_le _) hi),fun h i _ hi=>decide_eq_true (HI.out.1 h i hi)⟩⟩,HKS.out.be⟩
 ·skip
  have HI:=zz (show BC M ⟨3,nm,nu,ty,rf,ks⟩↔(0 < ks.length∧(∀i,i < ks.length-1→kkq M ks i=4)∧kkq M ks (ks.length-1)=5) by simp[BC,kk,kkq]);by_cases hz:ks.length=0
  ·have hp1:decide ((0:Int) < (ks.length:Int))=false:=by simp[hz]
   have hp2:decide (0 < ks.length)=false:=by simp[hz]
   have HZ:=zz hz;clear hz;go_enter Tryz.func46,Tryz.ntmps46;go_wp2_with fail;have hks:=KS.out;clear KS;generalize World.alloc (World.alloc (World.alloc w _) _) _=W0 at hks⊢;have HKS:=zz hks;clear hks;have cf:=HKS.out.cf;replace cf:World.cell? _ ⟨w.heap.size+1+1,0,none⟩=some (.func (.func 98) #[] #[.pointer (some ⟨w.heap.size,0,none⟩),.pointer (some ⟨w.heap.size+1,0,none⟩)]):=cf;go_wp2;go_ret;exact⟨⟨false,rfl,⟨fun h=>(by cases h),fun h=>(by have:=(HI.out.1 h).1;have:=HZ.out;omega)⟩⟩,HKS.out.be⟩
  ·skip
   obtain⟨m,hm⟩:∃m,ks.length=m+1:=⟨ks.length-1,by omega⟩;have hm1:ks.length-1=m:=by omega
   rw[hm1] at HI;have hsub:IntKind.i64.wrap ((ks.length:Int)-1)=(m:Int):=by rw[show((ks.length:Int)-1)=(m:Int) from by omega];exact IntWalk.i64_in _ (by omega)
   have HM:=zz hm;have hml:m < ks.length:=by omega
   have hp1:decide ((0:Int) < (ks.length:Int))=true:=by simpa using(by omega:(0:Int) < (ks.length:Int))
   have hp2:decide (0 < ks.length)=true:=by simpa using(by omega:0 < ks.length)
   have hp3:((ks.length:Int)==0)=false:=by rw[beq_eq_false_iff_ne];omega
   clear hm hm1;generalize hq1:kkq M ks m=q1 at HI;have HQ1:=zz hq1;clear hq1;go_enter Tryz.func46,Tryz.ntmps46;go_wp2_with fail;have hks:=KS.out;clear KS;generalize World.alloc (World.alloc (World.alloc w _) _) _=W0 at hks⊢;have HKS:=zz hks;clear hks;have cf:=HKS.out.cf;replace cf:World.cell? _ ⟨w.heap.size+1+1,0,none⟩=some (.func (.func 98) #[] #[.pointer (some ⟨w.heap.size,0,none⟩),.pointer (some ⟨w.heap.size+1,0,none⟩)]):=cf;refine(PS 4 _).mono ?_;rintro e w1 ⟨rfl,rfl⟩;have HKQ:=zz (HKS.out.below ((AP).alloc AA (.cells #[.int .u8 ((4:Nat):Int)] 5)));have hcq:=AJ _ _ 0 _ _ (0,0) (AZ W0 (.cells #[.int .u8 ((4:Nat):Int)] 5));have hqz:(W0).heap.size < ((W0).alloc (.cells #[.int .u8 ((4:Nat):Int)] 5)).heap.size:=by simp
   clear cf;go_wp2_with fail;refine(JG ab w.heap.size (w.heap.size+1) (w.heap.size+2) M _ ka kc 0 m (W0).heap.size 4 _ HKQ.out.kb HKQ.out.cf HKQ.out.lf ⟨hcq,hqz⟩ (show m≤ks.length by omega)).mono ?_;rintro e w2 ⟨⟨b,rfl,hbi⟩,hb2⟩;have HBI:=zz hbi;have HKS:=zz (HKQ.out.below hb2);have cf:=HKS.out.cf;replace cf:World.cell? _ ⟨w.heap.size+1+1,0,none⟩=some (.func (.func 98) #[] #[.pointer (some ⟨w.heap.size,0,none⟩),.pointer (some ⟨w.heap.size+1,0,none⟩)]):=cf;clear HKQ hcq hb2 hqz hbi;cases b
   ·skip
    go_wp2;go_ret;exact⟨⟨false,rfl,⟨fun h=>(by cases h),fun h=>(by have h2:=HBI.out.2 (fun i _ hi=>decide_eq_true ((HI.out.1 h).2.1 i hi));cases h2)⟩⟩,HKS.out.be⟩
   ·have q5:((q1:Int)==5)=decide (q1=5):=by rw[Bool.eq_iff_iff];simp;omega
    have HA1:=zz (fun i (hi:i < m)=>of_decide_eq_true (HBI.out.1 rfl i (Nat.zero_le _) hi));generalize hd:decide (q1=5)=d at q5;have HD:=zz hd;clear hd HBI;go_wp2_with fail;have TK:=Dt ab w.heap.size (w.heap.size+1) M _ ka kc m _ HKS.out.kb (show m < ks.length by omega);rw[show(ndAt M (Hg.Node.kids ⟨_,nm,nu,ty,rf,ks⟩)[m]).kind=q1 from(KL M ks m (by omega)).trans HQ1.out] at TK;refine TK.mono ?_;rintro e w5 ⟨rfl,hbk⟩;clear TK;have HKS:=zz (HKS.out.below hbk);have cf:=HKS.out.cf;replace cf:World.cell? _ ⟨w.heap.size+1+1,0,none⟩=some (.func (.func 98) #[] #[.pointer (some ⟨w.heap.size,0,none⟩),.pointer (some ⟨w.heap.size+1,0,none⟩)]):=cf;clear hbk;go_wp2;go_ret;exact⟨⟨d,rfl,⟨fun h=>HI.out.2 ⟨by have:=HM.out;omega,HA1.out,of_decide_eq_true (HD.out.trans h)⟩,fun h=>HD.out.symm.trans (decide_eq_true (HI.out.1 h).2.2)⟩⟩,HKS.out.be⟩
 ·by_cases hz:ks.length=0
  ·have HI:=zz (show BC M ⟨5,nm,nu,ty,rf,ks⟩ from by simp[BC,hz])
   have hp3:((ks.length:Int)==0)=true:=by simp[hz]
   have hsub:IntKind.i64.wrap ((ks.length:Int)-1)= -1:=by rw[hz];decide
   clear hz;go_enter Tryz.func46,Tryz.ntmps46;go_wp2_with fail;have hks:=KS.out;clear KS;generalize World.alloc (World.alloc (World.alloc w _) _) _=W0 at hks⊢;have HKS:=zz hks;clear hks;have cf:=HKS.out.cf;replace cf:World.cell? _ ⟨w.heap.size+1+1,0,none⟩=some (.func (.func 98) #[] #[.pointer (some ⟨w.heap.size,0,none⟩),.pointer (some ⟨w.heap.size+1,0,none⟩)]):=cf;refine(Xc _ _ _).mono ?_;rintro e w1 ⟨rfl,rfl⟩;go_wp2;go_ret;exact⟨⟨true,rfl,⟨fun _=>HI.out,fun _=>rfl⟩⟩,HKS.out.be⟩
  ·have HI:=zz (show BC M ⟨5,nm,nu,ty,rf,ks⟩↔((∀i,i < ks.length-1→stP (kkq M ks i))∧(kkq M ks (ks.length-1)=10∨stP (kkq M ks (ks.length-1)))) from by simp[BC,kk,kkq,hz,Nat.pos_of_ne_zero hz])
   obtain⟨m,hm⟩:∃m,ks.length=m+1:=⟨ks.length-1,by omega⟩;have hm1:ks.length-1=m:=by omega
   rw[hm1] at HI;have hsub:IntKind.i64.wrap ((ks.length:Int)-1)=(m:Int):=by rw[show((ks.length:Int)-1)=(m:Int) from by omega];exact IntWalk.i64_in _ (by omega)
   have HM:=zz hm;have hml:m < ks.length:=by omega
   have hp1:decide ((0:Int) < (ks.length:Int))=true:=by simpa using(by omega:(0:Int) < (ks.length:Int))
   have hp2:decide (0 < ks.length)=true:=by simpa using(by omega:0 < ks.length)
   have hp3:((ks.length:Int)==0)=false:=by rw[beq_eq_false_iff_ne];omega
   clear hm hm1;generalize hq1:kkq M ks m=q1 at HI;have HQ1:=zz hq1;clear hq1;go_enter Tryz.func46,Tryz.ntmps46;go_wp2_with fail;have hks:=KS.out;clear KS;generalize World.alloc (World.alloc (World.alloc w _) _) _=W0 at hks⊢;have HKS:=zz hks;clear hks;have cf:=HKS.out.cf;replace cf:World.cell? _ ⟨w.heap.size+1+1,0,none⟩=some (.func (.func 98) #[] #[.pointer (some ⟨w.heap.size,0,none⟩),.pointer (some ⟨w.heap.size+1,0,none⟩)]):=cf;refine(Vb ab w.heap.size (w.heap.size+1) (w.heap.size+2) M _ ka kc 0 m _ HKS.out.kb HKS.out.cf HKS.out.lf (show m≤ks.length by omega)).mono ?_;rintro e w2 ⟨⟨b,rfl,hbi⟩,hb2⟩;have HBI:=zz hbi;have HKS:=zz (HKS.out.below hb2);have cf:=HKS.out.cf;replace cf:World.cell? _ ⟨w.heap.size+1+1,0,none⟩=some (.func (.func 98) #[] #[.pointer (some ⟨w.heap.size,0,none⟩),.pointer (some ⟨w.heap.size+1,0,none⟩)]):=cf;clear hb2 hbi;cases b
   ·skip
    go_wp2;go_ret;exact⟨⟨false,rfl,⟨fun h=>(by cases h),fun h=>(by have h2:=HBI.out.2 (fun i _ hi=>I6.2 ((HI.out.1 h).1 i hi));cases h2)⟩⟩,HKS.out.be⟩
   ·have HA1:=zz (fun i (hi:i < m)=>I6.1 (HBI.out.1 rfl i (Nat.zero_le _) hi))
    clear HBI;go_wp2_with fail;have TK:=Dt ab w.heap.size (w.heap.size+1) M _ ka kc m _ HKS.out.kb (show m < ks.length by omega);rw[show(ndAt M (Hg.Node.kids ⟨_,nm,nu,ty,rf,ks⟩)[m]).kind=q1 from(KL M ks m (by omega)).trans HQ1.out] at TK;refine TK.mono ?_;rintro e w5 ⟨rfl,hbk⟩;clear TK;have HKS:=zz (HKS.out.below hbk);have cf:=HKS.out.cf;replace cf:World.cell? _ ⟨w.heap.size+1+1,0,none⟩=some (.func (.func 98) #[] #[.pointer (some ⟨w.heap.size,0,none⟩),.pointer (some ⟨w.heap.size+1,0,none⟩)]):=cf;clear hbk;by_cases h10:q1=10
    ·subst h10
     go_wp2;go_ret;exact⟨⟨true,rfl,⟨fun _=>HI.out.2 ⟨HA1.out,.inl (by first|rfl|trivial)⟩,fun _=>rfl⟩⟩,HKS.out.be⟩
    ·have hq10:((q1:Int)==10)=false:=by simp;omega
     have HN:=zz h10;clear h10;go_wp2_with fail;have TK:=Dt ab w.heap.size (w.heap.size+1) M _ ka kc m _ HKS.out.kb (show m < ks.length by omega);rw[show(ndAt M (Hg.Node.kids ⟨_,nm,nu,ty,rf,ks⟩)[m]).kind=q1 from(KL M ks m (by omega)).trans HQ1.out] at TK;refine TK.mono ?_;rintro e w8 ⟨rfl,hbk⟩;clear TK;have HKS:=zz (HKS.out.below hbk);have cf:=HKS.out.cf;replace cf:World.cell? _ ⟨w.heap.size+1+1,0,none⟩=some (.func (.func 98) #[] #[.pointer (some ⟨w.heap.size,0,none⟩),.pointer (some ⟨w.heap.size+1,0,none⟩)]):=cf;clear hbk;go_wp2_with fail;refine(Mg q1 _).mono ?_;rintro e w9 ⟨rfl,rfl⟩;go_wp2;go_ret;exact⟨⟨(stB q1),rfl,⟨fun h=>HI.out.2 ⟨HA1.out,.inr (I6.1 h)⟩,fun h=>I6.2 ((HI.out.1 h).2.resolve_left HN.out)⟩⟩,HKS.out.be⟩
 ·skip
  have HI:=zz (show BC M ⟨8,nm,nu,ty,rf,ks⟩↔(ks.length=3∧exP (kkq M ks 0)∧kkq M ks 1=5∧kkq M ks 2=5) by simp[BC,kk,kkq]);have hp:((ks.length:Int)==3)=decide (ks.length=3):=by rw[Bool.eq_iff_iff];simp;omega
  rcases(show ks.length≠3∨ks.length=3 by omega) with hs|hs
  ·rw[decide_eq_false hs] at hp
   have HS:=zz hs;have HI:=zz (fun h=>HS.out (HI.out.1 h).1);have hks:=zz KS.out.be;clear hs KS;go_enter Tryz.func46,Tryz.ntmps46;go_wp2;go_ret;exact⟨⟨false,rfl,⟨fun h=>(by cases h),fun h=>(HI.out h).elim⟩⟩,hks.out⟩
  rw[decide_eq_true hs] at hp;have hlen:3≤ks.length:=by omega
  have HS:=zz hs;clear hs;generalize hq1:kkq M ks 0=q1 at HI;have HQ1:=zz hq1;clear hq1;go_enter Tryz.func46,Tryz.ntmps46;go_wp2_with fail;have hks:=KS.out;clear KS;generalize World.alloc (World.alloc (World.alloc w _) _) _=W0 at hks⊢;have HKS:=zz hks;clear hks;have cf:=HKS.out.cf;replace cf:World.cell? _ ⟨w.heap.size+1+1,0,none⟩=some (.func (.func 98) #[] #[.pointer (some ⟨w.heap.size,0,none⟩),.pointer (some ⟨w.heap.size+1,0,none⟩)]):=cf;have TK:=Dt ab w.heap.size (w.heap.size+1) M _ ka kc 0 _ HKS.out.kb (show 0 < ks.length by omega);rw[show(ndAt M (Hg.Node.kids ⟨_,nm,nu,ty,rf,ks⟩)[0]).kind=q1 from(KL M ks 0 (by omega)).trans HQ1.out] at TK;refine TK.mono ?_;rintro e w7 ⟨rfl,hbk⟩;clear TK;have HKS:=zz (HKS.out.below hbk);have cf:=HKS.out.cf;replace cf:World.cell? _ ⟨w.heap.size+1+1,0,none⟩=some (.func (.func 98) #[] #[.pointer (some ⟨w.heap.size,0,none⟩),.pointer (some ⟨w.heap.size+1,0,none⟩)]):=cf;clear hbk;go_wp2_with fail;refine(Gs q1 _).mono ?_;rintro e w9 ⟨rfl,rfl⟩;cases hx:exB q1
  ·have HX:=zz hx
   clear hx;go_wp2;go_ret;exact⟨⟨false,rfl,⟨fun h=>(by cases h),fun h=>HX.out.symm.trans (Dm.2 (HI.out.1 h).2.1)⟩⟩,HKS.out.be⟩
  ·have HX:=zz hx
   clear hx;go_wp2_with fail;refine(PS 5 _).mono ?_;rintro e w1 ⟨rfl,rfl⟩;have HKQ:=zz (HKS.out.below ((AP).alloc AA (.cells #[.int .u8 ((5:Nat):Int)] 5)));have hcq:=AJ _ _ 0 _ _ (0,0) (AZ w7 (.cells #[.int .u8 ((5:Nat):Int)] 5));have hqz:(w7).heap.size < ((w7).alloc (.cells #[.int .u8 ((5:Nat):Int)] 5)).heap.size:=by simp
   clear cf;go_wp2_with fail;refine(JG ab w.heap.size (w.heap.size+1) (w.heap.size+2) M _ ka kc 1 3 (w7).heap.size 5 _ HKQ.out.kb HKQ.out.cf HKQ.out.lf ⟨hcq,hqz⟩ (show 3≤ks.length by omega)).mono ?_;rintro e w2 ⟨⟨b,rfl,hbi⟩,hb2⟩;have HBI:=zz hbi;have HKS:=zz (HKQ.out.below hb2);have cf:=HKS.out.cf;replace cf:World.cell? _ ⟨w.heap.size+1+1,0,none⟩=some (.func (.func 98) #[] #[.pointer (some ⟨w.heap.size,0,none⟩),.pointer (some ⟨w.heap.size+1,0,none⟩)]):=cf;clear HKQ hcq hb2 hqz hbi;go_wp2;go_ret;exact⟨⟨b,rfl,HBI.out.trans ⟨fun h=>HI.out.2 ⟨HS.out,Dm.1 HX.out,of_decide_eq_true (h 1 (by omega) (by omega)),of_decide_eq_true (h 2 (by omega) (by omega))⟩,fun h i h1 h2=>by rcases(show i=1∨i=2 by omega) with rfl|rfl;exact decide_eq_true (HI.out.1 h).2.2.1;exact decide_eq_true (HI.out.1 h).2.2.2⟩⟩,HKS.out.be⟩
 ·skip
  have HI:=zz (show BC M ⟨9,nm,nu,ty,rf,ks⟩↔(ks.length=2∧exP (kkq M ks 0)∧kkq M ks 1=5) by simp[BC,kk,kkq]);have hp:((ks.length:Int)==2)=decide (ks.length=2):=by rw[Bool.eq_iff_iff];simp;omega
  rcases(show ks.length≠2∨ks.length=2 by omega) with hs|hs
  ·rw[decide_eq_false hs] at hp
   have HS:=zz hs;have HI:=zz (fun h=>HS.out (HI.out.1 h).1);have hks:=zz KS.out.be;clear hs KS;go_enter Tryz.func46,Tryz.ntmps46;go_wp2;go_ret;exact⟨⟨false,rfl,⟨fun h=>(by cases h),fun h=>(HI.out h).elim⟩⟩,hks.out⟩
  rw[decide_eq_true hs] at hp;have hlen:2≤ks.length:=by omega
  have HS:=zz hs;clear hs;generalize hq1:kkq M ks 0=q1 at HI;have HQ1:=zz hq1;clear hq1;generalize hq2:kkq M ks 1=q2 at HI;have HQ2:=zz hq2;clear hq2;go_enter Tryz.func46,Tryz.ntmps46;go_wp2_with fail;have hks:=KS.out;clear KS;generalize World.alloc (World.alloc (World.alloc w _) _) _=W0 at hks⊢;have HKS:=zz hks;clear hks;have cf:=HKS.out.cf;replace cf:World.cell? _ ⟨w.heap.size+1+1,0,none⟩=some (.func (.func 98) #[] #[.pointer (some ⟨w.heap.size,0,none⟩),.pointer (some ⟨w.heap.size+1,0,none⟩)]):=cf;have TK:=Dt ab w.heap.size (w.heap.size+1) M _ ka kc 0 _ HKS.out.kb (show 0 < ks.length by omega);rw[show(ndAt M (Hg.Node.kids ⟨_,nm,nu,ty,rf,ks⟩)[0]).kind=q1 from(KL M ks 0 (by omega)).trans HQ1.out] at TK;refine TK.mono ?_;rintro e w7 ⟨rfl,hbk⟩;clear TK;have HKS:=zz (HKS.out.below hbk);have cf:=HKS.out.cf;replace cf:World.cell? _ ⟨w.heap.size+1+1,0,none⟩=some (.func (.func 98) #[] #[.pointer (some ⟨w.heap.size,0,none⟩),.pointer (some ⟨w.heap.size+1,0,none⟩)]):=cf;clear hbk;go_wp2_with fail;refine(Gs q1 _).mono ?_;rintro e w9 ⟨rfl,rfl⟩;cases hx:exB q1
  ·have HX:=zz hx
   clear hx;go_wp2;go_ret;exact⟨⟨false,rfl,⟨fun h=>(by cases h),fun h=>HX.out.symm.trans (Dm.2 (HI.out.1 h).2.1)⟩⟩,HKS.out.be⟩
  ·have HX:=zz hx
   clear hx;have q5:((q2:Int)==5)=decide (q2=5):=by rw[Bool.eq_iff_iff];simp;omega
   generalize hd:decide (q2=5)=d at q5;have HD:=zz hd;clear hd;go_wp2_with fail;have TK:=Dt ab w.heap.size (w.heap.size+1) M _ ka kc 1 _ HKS.out.kb (show 1 < ks.length by omega);rw[show(ndAt M (Hg.Node.kids ⟨_,nm,nu,ty,rf,ks⟩)[1]).kind=q2 from(KL M ks 1 (by omega)).trans HQ2.out] at TK;refine TK.mono ?_;rintro e w8 ⟨rfl,hbk⟩;clear TK;have HKS:=zz (HKS.out.below hbk);have cf:=HKS.out.cf;replace cf:World.cell? _ ⟨w.heap.size+1+1,0,none⟩=some (.func (.func 98) #[] #[.pointer (some ⟨w.heap.size,0,none⟩),.pointer (some ⟨w.heap.size+1,0,none⟩)]):=cf;clear hbk;go_wp2;go_ret;exact⟨⟨d,rfl,⟨fun h=>HI.out.2 ⟨HS.out,Dm.1 HX.out,of_decide_eq_true (HD.out.trans h)⟩,fun h=>HD.out.symm.trans (decide_eq_true (HI.out.1 h).2.2)⟩⟩,HKS.out.be⟩
 ·skip
  have HI:=zz (show BC M ⟨12,nm,nu,ty,rf,ks⟩↔(ks.length=1∧kkq M ks 0=19) by simp[BC,kk,kkq]);have hp:((ks.length:Int)==1)=decide (ks.length=1):=by rw[Bool.eq_iff_iff];simp;omega
  rcases(show ks.length≠1∨ks.length=1 by omega) with hs|hs
  ·rw[decide_eq_false hs] at hp
   have HS:=zz hs;have HI:=zz (fun h=>HS.out (HI.out.1 h).1);have hks:=zz KS.out.be;clear hs KS;go_enter Tryz.func46,Tryz.ntmps46;go_wp2;go_ret;exact⟨⟨false,rfl,⟨fun h=>(by cases h),fun h=>(HI.out h).elim⟩⟩,hks.out⟩
  rw[decide_eq_true hs] at hp;have hlen:1≤ks.length:=by omega
  have HS:=zz hs;clear hs;generalize hq1:kkq M ks 0=q1 at HI;have HQ1:=zz hq1;clear hq1;have q5:((q1:Int)==19)=decide (q1=19):=by rw[Bool.eq_iff_iff];simp;omega
  generalize hd:decide (q1=19)=d at q5;have HD:=zz hd;clear hd;go_enter Tryz.func46,Tryz.ntmps46;go_wp2_with fail;have hks:=KS.out;clear KS;generalize World.alloc (World.alloc (World.alloc w _) _) _=W0 at hks⊢;have HKS:=zz hks;clear hks;have cf:=HKS.out.cf;replace cf:World.cell? _ ⟨w.heap.size+1+1,0,none⟩=some (.func (.func 98) #[] #[.pointer (some ⟨w.heap.size,0,none⟩),.pointer (some ⟨w.heap.size+1,0,none⟩)]):=cf;have TK:=Dt ab w.heap.size (w.heap.size+1) M _ ka kc 0 _ HKS.out.kb (show 0 < ks.length by omega);rw[show(ndAt M (Hg.Node.kids ⟨_,nm,nu,ty,rf,ks⟩)[0]).kind=q1 from(KL M ks 0 (by omega)).trans HQ1.out] at TK;refine TK.mono ?_;rintro e w8 ⟨rfl,hbk⟩;clear TK;have HKS:=zz (HKS.out.below hbk);have cf:=HKS.out.cf;replace cf:World.cell? _ ⟨w.heap.size+1+1,0,none⟩=some (.func (.func 98) #[] #[.pointer (some ⟨w.heap.size,0,none⟩),.pointer (some ⟨w.heap.size+1,0,none⟩)]):=cf;clear hbk;go_wp2;go_ret;exact⟨⟨d,rfl,⟨fun h=>HI.out.2 ⟨HS.out,of_decide_eq_true (HD.out.trans h)⟩,fun h=>HD.out.symm.trans (decide_eq_true (HI.out.1 h).2)⟩⟩,HKS.out.be⟩
 ·have HI:=zz (show BC M ⟨kd,nm,nu,ty,rf,ks⟩↔(ks.length=1∧exP (kkq M ks 0)) by rcases hkd with rfl|rfl|rfl|rfl|rfl|rfl <;>simp[BC,kk,kkq])
  rcases hkd with rfl|rfl|rfl|rfl|rfl|rfl
  all_goals
   have hp:((ks.length:Int)==1)=decide (ks.length=1):=by rw[Bool.eq_iff_iff];simp;omega
   rcases(show ks.length≠1∨ks.length=1 by omega) with hs|hs
   ·rw[decide_eq_false hs] at hp
    have HS:=zz hs;have HI:=zz (fun h=>HS.out (HI.out.1 h).1);have hks:=zz KS.out.be;clear hs KS;go_enter Tryz.func46,Tryz.ntmps46;go_wp2;go_ret;exact⟨⟨false,rfl,⟨fun h=>(by cases h),fun h=>(HI.out h).elim⟩⟩,hks.out⟩
   rw[decide_eq_true hs] at hp;have hlen:1≤ks.length:=by omega
   have HS:=zz hs;clear hs;generalize hq1:kkq M ks 0=q1 at HI;have HQ1:=zz hq1;clear hq1;go_enter Tryz.func46,Tryz.ntmps46;go_wp2_with fail;have hks:=KS.out;clear KS;generalize World.alloc (World.alloc (World.alloc w _) _) _=W0 at hks⊢;have HKS:=zz hks;clear hks;have cf:=HKS.out.cf;replace cf:World.cell? _ ⟨w.heap.size+1+1,0,none⟩=some (.func (.func 98) #[] #[.pointer (some ⟨w.heap.size,0,none⟩),.pointer (some ⟨w.heap.size+1,0,none⟩)]):=cf;have TK:=Dt ab w.heap.size (w.heap.size+1) M _ ka kc 0 _ HKS.out.kb (show 0 < ks.length by omega);rw[show(ndAt M (Hg.Node.kids ⟨_,nm,nu,ty,rf,ks⟩)[0]).kind=q1 from(KL M ks 0 (by omega)).trans HQ1.out] at TK;refine TK.mono ?_;rintro e w7 ⟨rfl,hbk⟩;clear TK;have HKS:=zz (HKS.out.below hbk);have cf:=HKS.out.cf;replace cf:World.cell? _ ⟨w.heap.size+1+1,0,none⟩=some (.func (.func 98) #[] #[.pointer (some ⟨w.heap.size,0,none⟩),.pointer (some ⟨w.heap.size+1,0,none⟩)]):=cf;clear hbk;go_wp2_with fail;refine(Gs q1 _).mono ?_;rintro e w9 ⟨rfl,rfl⟩;go_wp2;go_ret;exact⟨⟨(exB q1),rfl,⟨fun h=>HI.out.2 ⟨HS.out,Dm.1 h⟩,fun h=>Dm.2 (HI.out.1 h).2⟩⟩,HKS.out.be⟩
 ·skip
  have HI:=zz (show BC M ⟨18,nm,nu,ty,rf,ks⟩↔(ks.length=2∧exP (kkq M ks 0)∧exP (kkq M ks 1)) by simp[BC,kk,kkq]);have hp:((ks.length:Int)==2)=decide (ks.length=2):=by rw[Bool.eq_iff_iff];simp;omega
  rcases(show ks.length≠2∨ks.length=2 by omega) with hs|hs
  ·rw[decide_eq_false hs] at hp
   have HS:=zz hs;have HI:=zz (fun h=>HS.out (HI.out.1 h).1);have hks:=zz KS.out.be;clear hs KS;go_enter Tryz.func46,Tryz.ntmps46;go_wp2;go_ret;exact⟨⟨false,rfl,⟨fun h=>(by cases h),fun h=>(HI.out h).elim⟩⟩,hks.out⟩
  rw[decide_eq_true hs] at hp;have hlen:2≤ks.length:=by omega
  have HS:=zz hs;clear hs;go_enter Tryz.func46,Tryz.ntmps46;go_wp2_with fail;have hks:=KS.out;clear KS;generalize World.alloc (World.alloc (World.alloc w _) _) _=W0 at hks⊢;have HKS:=zz hks;clear hks;have cf:=HKS.out.cf;replace cf:World.cell? _ ⟨w.heap.size+1+1,0,none⟩=some (.func (.func 98) #[] #[.pointer (some ⟨w.heap.size,0,none⟩),.pointer (some ⟨w.heap.size+1,0,none⟩)]):=cf;refine(O0 ab w.heap.size (w.heap.size+1) (w.heap.size+2) M _ ka kc 0 2 _ HKS.out.kb HKS.out.cf HKS.out.lf (show 2≤ks.length by omega)).mono ?_;rintro e w2 ⟨⟨b,rfl,hbi⟩,hb2⟩;have HBI:=zz hbi;have HKS:=zz (HKS.out.below hb2);have cf:=HKS.out.cf;replace cf:World.cell? _ ⟨w.heap.size+1+1,0,none⟩=some (.func (.func 98) #[] #[.pointer (some ⟨w.heap.size,0,none⟩),.pointer (some ⟨w.heap.size+1,0,none⟩)]):=cf;clear hb2 hbi;go_wp2;go_ret;exact⟨⟨b,rfl,HBI.out.trans ⟨fun h=>HI.out.2 ⟨HS.out,Dm.1 (h 0 (by omega) (by omega)),Dm.1 (h 1 (by omega) (by omega))⟩,fun h i h1 h2=>by rcases(show i=0∨i=1 by omega) with rfl|rfl;exact Dm.2 (HI.out.1 h).2.1;exact Dm.2 (HI.out.1 h).2.2⟩⟩,HKS.out.be⟩
 ·skip
  have HI:=zz (show BC M ⟨19,nm,nu,ty,rf,ks⟩↔(∀i,i < ks.length→exP (kkq M ks i)) by simp[BC,kk,kkq]);go_enter Tryz.func46,Tryz.ntmps46;go_wp2_with fail;have hks:=KS.out;clear KS;generalize World.alloc (World.alloc (World.alloc w _) _) _=W0 at hks⊢;have HKS:=zz hks;clear hks;have cf:=HKS.out.cf;replace cf:World.cell? _ ⟨w.heap.size+1+1,0,none⟩=some (.func (.func 98) #[] #[.pointer (some ⟨w.heap.size,0,none⟩),.pointer (some ⟨w.heap.size+1,0,none⟩)]):=cf;refine(O0 ab w.heap.size (w.heap.size+1) (w.heap.size+2) M _ ka kc 0 ks.length _ HKS.out.kb HKS.out.cf HKS.out.lf (show ks.length≤ks.length by omega)).mono ?_;rintro e w2 ⟨⟨b,rfl,hbi⟩,hb2⟩;have HBI:=zz hbi;have HKS:=zz (HKS.out.below hb2);have cf:=HKS.out.cf;replace cf:World.cell? _ ⟨w.heap.size+1+1,0,none⟩=some (.func (.func 98) #[] #[.pointer (some ⟨w.heap.size,0,none⟩),.pointer (some ⟨w.heap.size+1,0,none⟩)]):=cf;clear hb2 hbi;go_wp2;go_ret;exact⟨⟨b,rfl,HBI.out.trans ⟨fun h=>HI.out.2 fun i hi=>Dm.1 (h i (Nat.zero_le _) hi),fun h i _ hi=>Dm.2 (HI.out.1 h i hi)⟩⟩,HKS.out.be⟩
 ·have hp:((ks.length:Int)==0)=decide (ks.length=0):=by rw[Bool.eq_iff_iff];simp
  generalize hd:decide (ks.length=0)=d at hp;have HD:=zz hd;clear hd;have HI:=zz (show BC M ⟨kd,nm,nu,ty,rf,ks⟩↔ks.length=0 by rcases hkd with rfl|rfl|rfl|rfl|rfl <;>simp[BC,kk,kkq]);rcases hkd with rfl|rfl|rfl|rfl|rfl
  all_goals
   have hks:=zz KS.out.be;clear KS;go_enter Tryz.func46,Tryz.ntmps46;go_wp2;go_ret;exact⟨⟨d,rfl,⟨fun h=>HI.out.2 (of_decide_eq_true (HD.out.trans h)),fun h=>HD.out.symm.trans (decide_eq_true (HI.out.1 h))⟩⟩,hks.out⟩
end Go.Proofs.YtijhlanclfajiaaGreatDoor
