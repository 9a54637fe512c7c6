/-
  A part of the proof.
-/
import Derived.Test.YtfgnfpdfohjopaaGreatDoorKgBG
set_option linter.all false
set_option maxHeartbeats 0
set_option maxRecDepth 100000
namespace Hg
def ownD(k:Nat):Nat:=if k=16∨k=17∨k=18∨k=19 then 1 else 0
def De(M:Nat→Option Node):Nat→Nat→Nat
 |0,_=>0
 |l+1,id=>if (M id).isNone then 0 else ownD (ndAt M id).kind+(ndAt M id).kids.foldl (fun m k=>max m (De M l k+(if (ndAt M k).kind=5∧(ndAt M id).kind≠3 then 1 else 0))) 0
def EL(M:Nat→Option Node)(l kd m k:Nat):Nat:=max m (De M l k+(if (ndAt M k).kind=5∧kd≠3 then 1 else 0))
theorem IW(M:Nat→Option Node)(l id:Nat):De M (l+1) id=if (M id).isNone then 0 else ownD (ndAt M id).kind+(ndAt M id).kids.foldl (EL M l (ndAt M id).kind) 0:=rfl
theorem XX(k:Nat):ownD k≤1:=by unfold ownD;split <;>omega
theorem Kt(M:Nat→Option Node):∀(l id:Nat),De M l id≤2*l
 |0,_=>AA
 |l+1,id=>by
   rw[IW];split
   ·omega
   ·have h:∀(ks:List Nat) (m:Nat),m≤2*l+1→ks.foldl (EL M l (ndAt M id).kind) m≤2*l+1:=by
     intro ks
     induction ks with
     |nil=>intro m h;exact h
     |cons k ks ih=>
       intro m h;refine ih _ ?_;have:=Kt M l k;unfold EL
       split <;>omega
    have h1:=h (ndAt M id).kids 0 (by omega);have h2:=XX (ndAt M id).kind;omega
theorem Qe(M:Nat→Option Node)(l kd:Nat)(ks:List Nat):ks.foldl (EL M l kd) 0≤2*l+1:=by
 have h:∀(ks:List Nat) (m:Nat),m≤2*l+1→ks.foldl (EL M l kd) m≤2*l+1:=by
  intro ks
  induction ks with
  |nil=>intro m h;exact h
  |cons k ks ih=>
    intro m h;refine ih _ ?_;have:=Kt M l k;unfold EL
    split <;>omega
 exact h ks 0 (by omega)
end Hg
namespace Go.Proofs.YtfgnfpdfohjopaaGreatDoor
open Go.RowKit
open Hg (GT gl wk isK ndAt CO KB De EL ownD)
theorem Uw(ab:Nat)(M:Nat→Option Hg.Node):∀(l:Nat),l≤1000→∀(w:World) (id:Nat),ArOk w ab M→id < Ah→
 Calls Tryz.prog 91 #[.pointer (some ⟨ab,0,none⟩),.int .u64 (id:Int),.int .i64 (l:Int)] w fun e w'=>e= .returned (.int .i64 (De M l id:Int))∧Below w.heap.size w w':=by
 intro l
 induction l with
 |zero=>
   intro hl w id hA hid;have TG:=zz (hA.getN hid);clear hA;go_enter Tryz.func91,Tryz.ntmps91;go_wp2_with fail;refine TG.out.mono ?_;rintro e w1 ⟨ka,kc,rfl,ho1,hb1⟩;have HB:=zz (hb1.alloc hb1.size (.cells (AZ (ndAt M id) ka kc) 48));clear TG ho1 hb1;generalize(M id).isSome=s;cases s <;>
   ·go_wp2
    go_ret;exact⟨rfl,HB.out⟩
 |succ l ih=>
   intro hl w id hA hid;have IH:=zz (ih (by omega));have HA:=zz hA;have TG:=zz (hA.getN hid);have HFI:=zz (Hg.IW M l id);generalize De M (l+1) id=r at HFI⊢;have hq0:(((l+1:Nat):Int)==0)=false:=by simp;omega
   have hsub:IntKind.i64.wrap (((l+1:Nat):Int)-1)=(l:Int):=by rw[show(((l+1:Nat):Int)-1)=(l:Int) from by omega];exact IntWalk.i64_in _ (by omega)
   generalize hL:l+1=Lv at hq0 hsub⊢;have HLV:=zz hL;have hl:l < 1000:=by omega
   clear hL;cases hM:(M id).isNone with
   |true=>
     have hs:(M id).isSome=false:=by
      cases h:M id with
      |none=>rfl
      |some _=>rw[h] at hM;cases hM
     rw[hM] at HFI;have hr:r=0:=HFI.out;subst hr;clear hA ih;go_enter Tryz.func91,Tryz.ntmps91;go_wp2_with fail;refine TG.out.mono ?_;rintro e w1 ⟨ka,kc,rfl,ho1,hb1⟩;have HB:=zz (hb1.alloc hb1.size (.cells (AZ (ndAt M id) ka kc) 48));rw[hs];clear TG ho1 hb1 hs hM HFI;go_wp2;go_ret;exact⟨rfl,HB.out⟩
   |false=>
     have hs:(M id).isSome=true:=by
      cases h:M id with
      |none=>rw[h] at hM;cases hM
      |some _=>rfl
     rw[hM,if_neg (by simp)] at HFI;have HK:=zz (HA.out.2.at id);have hkl:=HA.out.len id;clear hA ih;go_enter Tryz.func91,Tryz.ntmps91;go_wp2_with fail;refine TG.out.mono ?_;rintro e w1 ⟨ka,kc,rfl,ho1,hb1⟩;rw[hs];have hb3:=hb1.alloc hb1.size (.cells (AZ (ndAt M id) ka kc) 48);have hs3:=Sl.Aj (ho1.alloc (.cells (AZ (ndAt M id) ka kc) 48));have hn3:=AX w1 (.cells (AZ (ndAt M id) ka kc) 48);simp only[AZ] at hb3 hs3 hn3;clear TG ho1 hb1 hs hM;generalize ndAt M id=nd at HFI HK hkl hb3 hs3 hn3⊢;obtain⟨kd,nm,nu,ty,rf,kids⟩:=nd;dsimp only at HFI HK hkl hb3 hs3 hn3⊢;rcases(show kd=16∨kd=17∨kd=18∨kd=19∨(kd≠16∧kd≠17∧kd≠18∧kd≠19) by omega) with h|h|h|h|h
     all_goals
      first
       |have hfin:r=1+kids.foldl (EL M l kd) 0:=by (have h1:=HFI.out;rw[show ownD kd=1 from by (unfold ownD;rw[if_pos (by omega)])] at h1;exact h1)
       |have hfin:r=0+kids.foldl (EL M l kd) 0:=by (have h1:=HFI.out;rw[show ownD kd=0 from by (unfold ownD;rw[if_neg (by omega)])] at h1;exact h1)
      first
       |have q16:((kd:Int)==16)=true:=by simp[h]
       |have q16:((kd:Int)==16)=false:=by (simp;omega)
      first
       |have q17:((kd:Int)==17)=true:=by simp[h]
       |have q17:((kd:Int)==17)=false:=by (simp;omega)
      first
       |have q18:((kd:Int)==18)=true:=by simp[h]
       |have q18:((kd:Int)==18)=false:=by (simp;omega)
      first
       |have q19:((kd:Int)==19)=true:=by simp[h]
       |have q19:((kd:Int)==19)=false:=by (simp;omega)
      clear h HFI;have HFIN:=zz hfin;clear hfin;go_wp2;generalize World.alloc w1 _=W3 at hb3 hs3 hn3⊢;have HB3:=zz hb3;have HS:=zz hs3;have HN3:=zz hn3;have hnl:=(Ab.1 hn3).1;generalize w1.heap.size=nb at HN3 hnl⊢;clear hb3 hs3 hn3
      go_loopw [10,38] (fun p q wr=>∃i:Nat,p= .int .i64 ((kids.take i).foldl (EL M l kd) 0:Nat)∧q= .int .i64 (i:Int)∧i≤kids.length∧Below W3.heap.size W3 wr) (fun _ q wr=>kids.length-(intOf q).toNat)
      case atStart=>exact⟨0,by simp,rfl,Nat.zero_le _,AL⟩
      case round=>
       obtain⟨i,rfl,rfl,hi,hb⟩:=hrel;have HB:=zz hb;have hzr:=hb.size;have hb4:=HB3.out.trans (hb.mono HB3.out.size);have HB4:=zz hb4;by_cases hlt:i < kids.length
       ·obtain⟨b,o,rfl,_,kck⟩:=(HS.out.below hb AA).mapAt hlt
        have hkt:=HK.out _ (List.getElem_mem hlt);have hstep:(kids.take (i+1)).foldl (EL M l kd) 0=EL M l kd ((kids.take i).foldl (EL M l kd) 0) kids[i]:=by
         rw[List.take_succ_eq_append_getElem hlt,List.foldl_append];rfl
        have hml:=Hg.Qe M l kd (kids.take i);generalize kids[i]=k at kck hkt hstep;generalize(kids.take i).foldl (EL M l kd) 0=mo at hstep hml⊢;have HST:=zz (show(kids.take (i+1)).foldl (EL M l kd) 0=max mo (De M l k+(if (ndAt M k).kind=5∧kd≠3 then 1 else 0)) from hstep);have TD:=zz (IH.out wr k (HA.out.below hb4) hkt);have hdl:=Hg.Kt M l k;clear hb hb4 hstep;go_wp2_with fail;refine TD.out.mono ?_;rintro e w5 ⟨rfl,hb5⟩;have HB5:=zz (HB.out.trans (hb5.mono hzr));have TG:=zz ((HA.out.below (HB3.out.trans (HB5.out.mono HB3.out.size))).getN hkt);have hs5:=HB5.out.size;generalize De M l k=d at HST hdl⊢;clear hb5 TD;go_wp2_with fail;refine TG.out.mono ?_;rintro e w6 ⟨ka6,kc6,rfl,ho6,hb6⟩;have hb7:=(HB5.out.trans (hb6.mono hs5)).alloc (HB5.out.trans (hb6.mono hs5)).size (.cells (AZ (ndAt M k) ka6 kc6) 48);have HB7:=zz hb7;have y0:=AJ (w6.alloc (.cells (AZ (ndAt M k) ka6 kc6) 48)) nb 0 _ _ (0,0) ((hb7.block nb hnl).trans HN3.out);simp only[AZ] at y0 HB7;have hk5:(ndAt M k).kind=5∨(ndAt M k).kind≠5:=by omega
        clear TG ho6 hb6 hb7 kck;generalize ndAt M k=nk at HST HB7 y0 hk5⊢;obtain⟨kd2,nm2,nu2,ty2,rf2,ks2⟩:=nk;dsimp only at HST HB7 y0 hk5⊢;rcases hk5 with rfl|hk5
        case' inl=>
         simp at y0;by_cases h3:kd=3
         all_goals have hst:=HST.out
         case' pos=>
          rw[if_neg (fun h=>h.2 h3)] at hst;have q3:(((kd:Nat):Int) !=3)=false:=by simp;omega
         case' neg=>
          rw[if_pos ⟨rfl,h3⟩] at hst;have q3:(((kd:Nat):Int) !=3)=true:=by simp;omega
        case' inr=>
         simp at y0;have hst:=HST.out;rw[if_neg (fun h=>hk5 h.1)] at hst;have q5:((kd2:Int)==5)=false:=by simp;omega
        all_goals
         have HS9:=zz hst;clear hst HST;go_wp2;go_roundw
         case rel=>exact⟨i+1,by rw[HS9.out];exact congrArg (Value.int .i64) (by omega),by go_num,by omega,HB7.out⟩
         case measure=>simp[intOf];omega
       ·obtain rfl:i=kids.length:=by omega
        rw[List.take_length];have hml:=Hg.Qe M l kd kids;have hfin:=HFIN.out;generalize kids.foldl (EL M l kd) 0=mo at hfin hml⊢;have HR9:=zz hfin;clear hb hb4 hfin;go_wp2;go_ret
        first
         | (have e9 : (r : Int) = 1 + (mo : Int) := by (have := HR9.out; omega)
            rw[e9];exact⟨rfl,HB4.out⟩)
         | (have e9 : (r : Int) = 0 + (mo : Int) := by (have := HR9.out; omega)
            rw[e9];exact⟨by first|rfl|(simp;done),HB4.out⟩)
structure Ic (w:World) (ab b1 b2:Nat) (M:Nat→Option Hg.Node) (n:Hg.Node) (ka:Option Addr) (kc:Nat):Prop where
 ar:ArOk w ab M
 h1:w.cell? ⟨b1,0,none⟩=some (.pointer (some ⟨ab,0,none⟩))
 h0:w.cell? ⟨b2,0,none⟩=some (.int .u8 (n.kind:Int))
 h2:w.cell? ⟨b2,5,none⟩=some (.slice ka n.kids.length kc)
 lt:b1 < w.heap.size∧b2 < w.heap.size
 sl:Sl w w.heap.size (.slice ka n.kids.length kc) n.kids.length (n.kids.map idV)
 len:n.kids.length≤1000000
 top:∀k∈n.kids,k < Ah
theorem Ic.below{w w':World}{ab b1 b2:Nat}{M:Nat→Option Hg.Node}{n:Hg.Node}{ka:Option Addr}{kc:Nat}(h:Ic w ab b1 b2 M n ka kc)(hb:Below w.heap.size w w'):Ic w' ab b1 b2 M n ka kc:=
 ⟨h.ar.below hb,(hb.cell (p:=⟨b1,0,none⟩) h.lt.1).trans h.h1,(hb.cell (p:=⟨b2,0,none⟩) h.lt.2).trans h.h0,(hb.cell (p:=⟨b2,5,none⟩) h.lt.2).trans h.h2,⟨AR h.lt.1 hb.size,AR h.lt.2 hb.size⟩,(h.sl.below hb AA).more hb.size,h.len,h.top⟩
theorem DY(ab b1 b2:Nat)(M:Nat→Option Hg.Node)(n:Hg.Node)(ka:Option Addr)(kc i:Nat)(w:World)(hK:Ic w ab b1 b2 M n ka kc)(hi:i < n.kids.length):
 Calls Tryz.prog 131 #[.int .i64 (i:Int),.pointer (some ⟨b1,0,none⟩),.pointer (some ⟨b2,0,none⟩)] w fun e w'=>e= .returned (.int .u8 ((ndAt M n.kids[i]).kind:Int))∧Below w.heap.size w w':=by
 have hlen:=hK.len;have c1:=hK.h1;have c2:=hK.h2;have hb1:=hK.lt.1;have hb2:=hK.lt.2;obtain⟨bk,ok,rfl,hbk,ck⟩:=(hK.sl).mapAt hi;have TG:=zz (fun W (h:Below w.heap.size w W)=>(hK.ar.below h).getN (hK.top _ (List.getElem_mem hi)));generalize n.kids[i]=k at ck TG⊢;have HBc:=zz (Below.refl w.heap.size w);clear hK;go_enter Tryz.func131,Tryz.ntmps131;go_wp2;have hHeld:(fun w'=>w'.cell? ⟨b1,0,none⟩=some (.pointer (some ⟨ab,0,none⟩))∧w'.cell? ⟨b2,5,none⟩=some (.slice (some ⟨bk,ok,none⟩) n.kids.length kc)∧w'.cell? ⟨bk,ok+i,none⟩=some (idV k)) w.drew:=⟨c1,c2,ck⟩;have hHeld0:=hHeld;clear c1 c2 ck;refine Ap (fun w'=>w'.cell? ⟨b1,0,none⟩=some (.pointer (some ⟨ab,0,none⟩))∧w'.cell? ⟨b2,5,none⟩=some (.slice (some ⟨bk,ok,none⟩) n.kids.length kc)∧w'.cell? ⟨bk,ok+i,none⟩=some (idV k)) 12 (by kernel_rfl) ?_;refine tz 0 ?_;refine tz 1 ?_;refine tz 2 ?_;refine tz 3 ?_;refine tz 4 ?_;refine tz 5 ?_;refine FY (i:=6) (j:=10) rfl rfl (by kernel_rfl) (fun K hK=> ?_) (fun K hK=> ?_)
 ·go_simp
  refine Calls.mono (TG.out _ (by first|exact HBc.out|exact HBc.out.drew|exact HBc.out.drew.drew)) ?_;rintro e w5 ⟨ka5,kc5,rfl,ho5,hb5⟩;have HBc:=zz (show Below w.heap.size w w5 from by first|exact HBc.out.trans (hb5.mono HBc.out.size)|exact HBc.out.drew.trans (hb5.mono HBc.out.drew.size));clear ho5 hb5;have hble:w.heap.size≤w5.heap.size:=by first|exact HBc.out.size|exact AA
  refine hK.out _ _ (⟨(HBc.out.cell (p:=⟨b1,0,none⟩) hb1).trans hHeld0.1,(HBc.out.cell (p:=⟨b2,5,none⟩) hb2).trans hHeld0.2.1,(HBc.out.cell (p:=⟨bk,ok+i,none⟩) hbk).trans hHeld0.2.2⟩) (fun hHeld=> ?_);clear hK K
  try simp only[Act.put,sA,sB,sC,sD,sE,sF]
  refine tz 7 ?_;refine tz 8 ?_;refine tz 9 ?_;refine AU (i:=10) rfl (by kernel_rfl) (fun K hK=> ?_);go_simp;generalize hWa:World.alloc _ _=Wa;obtain⟨hBa,hha,hza⟩:=Iq hWa;have HBc:=zz (show Below w.heap.size w Wa from by first|exact HBc.out.trans (hBa.mono HBc.out.size)|exact HBc.out.drew.trans (hBa.mono HBc.out.drew.size));clear hWa hBa;refine hK.out _ _ (⟨(HBc.out.cell (p:=⟨b1,0,none⟩) hb1).trans hHeld0.1,(HBc.out.cell (p:=⟨b2,5,none⟩) hb2).trans hHeld0.2.1,(HBc.out.cell (p:=⟨bk,ok+i,none⟩) hbk).trans hHeld0.2.2⟩) (fun hHeld=> ?_);clear hK K
  try simp only[Act.put,sA,sB,sC,sD,sE,sF]
  refine AU (i:=11) rfl (by kernel_rfl) (fun K hK=> ?_);have z2:=fun i=>AJ Wa w5.heap.size i _ _ (0,0) hha;have y0:=z2 0;have y1:=z2 1;have y2:=z2 2;have y3:=z2 3;have y4:=z2 4;have y5:=z2 5;simp at y0 y1 y2 y3 y4 y5;have f2:∀i,Wa.frozen? ⟨w5.heap.size,i,none⟩=false:=fun i=>by simp[World.frozen?,hha]
  clear z2;go_simp;have hk0:(World.setCell (World.setCell (World.setCell (World.setCell (World.setCell (World.setCell Wa ⟨w5.heap.size,0,none⟩ (.int .u8 ((ndAt M k).kind:Int))) ⟨w5.heap.size,1,none⟩ (strV (ndAt M k).name)) ⟨w5.heap.size,2,none⟩ (.int .i64 (ndAt M k).num)) ⟨w5.heap.size,3,none⟩ (.int .u8 ((ndAt M k).type:Int))) ⟨w5.heap.size,4,none⟩ (.int .u64 ((ndAt M k).ref:Int))) ⟨w5.heap.size,5,none⟩ (.slice ka5 (ndAt M k).kids.length kc5)).cell? ⟨w5.heap.size,0,none⟩=some (.int .u8 ((ndAt M k).kind:Int)):=by simp[go_sem,y0,y1,y2,y3,y4,y5]
  generalize hWb:World.setCell _ _ _=Wb at hk0⊢;have HBc:=zz (show Below w.heap.size w Wb from hWb ▸ Bg HBc.out hble _ _ _ _ _ _);clear hWb y0 y1 y2 y3 y4 y5 f2 hha;refine hK.out _ _ (⟨(HBc.out.cell (p:=⟨b1,0,none⟩) hb1).trans hHeld0.1,(HBc.out.cell (p:=⟨b2,5,none⟩) hb2).trans hHeld0.2.1,(HBc.out.cell (p:=⟨bk,ok+i,none⟩) hbk).trans hHeld0.2.2⟩) (fun hHeld=> ?_);clear hK K
  try simp only[Act.put,sA,sB,sC,sD,sE,sF]
  refine Ag (by kernel_rfl) ?_;simp only[List.drop_succ_cons,List.drop_zero];clear hHeld0;go_wp2;go_ret;exact⟨rfl,HBc.out⟩
 ·go_simp
  generalize hWa:World.alloc _ _=Wa;obtain⟨hBa,hha,hza⟩:=Iq hWa;have HBc:=zz (show Below w.heap.size w Wa from by first|exact HBc.out.trans (hBa.mono HBc.out.size)|exact HBc.out.drew.trans (hBa.mono HBc.out.drew.size));clear hWa hBa;refine hK.out _ _ (⟨(HBc.out.cell (p:=⟨b1,0,none⟩) hb1).trans hHeld0.1,(HBc.out.cell (p:=⟨b2,5,none⟩) hb2).trans hHeld0.2.1,(HBc.out.cell (p:=⟨bk,ok+i,none⟩) hbk).trans hHeld0.2.2⟩) (fun hHeld=> ?_);clear hK K
  try simp only[Act.put,sA,sB,sC,sD,sE,sF]
  refine AU (i:=6) rfl (by kernel_rfl) (fun K hK=> ?_);go_simp;refine Calls.mono (TG.out _ (by first|exact HBc.out|exact HBc.out.drew|exact HBc.out.drew.drew)) ?_;rintro e w5 ⟨ka5,kc5,rfl,ho5,hb5⟩;have hha:=(hb5.block _ (Ab.1 hha).1).trans hha;have HBc:=zz (show Below w.heap.size w w5 from by first|exact HBc.out.trans (hb5.mono HBc.out.size)|exact HBc.out.drew.trans (hb5.mono HBc.out.drew.size));clear ho5 hb5;have hble:w.heap.size≤w.heap.size:=by first|exact HBc.out.size|exact AA
  refine hK.out _ _ (⟨(HBc.out.cell (p:=⟨b1,0,none⟩) hb1).trans hHeld0.1,(HBc.out.cell (p:=⟨b2,5,none⟩) hb2).trans hHeld0.2.1,(HBc.out.cell (p:=⟨bk,ok+i,none⟩) hbk).trans hHeld0.2.2⟩) (fun hHeld=> ?_);clear hK K
  try simp only[Act.put,sA,sB,sC,sD,sE,sF]
  refine tz 7 ?_;refine tz 8 ?_;refine tz 9 ?_;refine AU (i:=11) rfl (by kernel_rfl) (fun K hK=> ?_);have z2:=fun i=>AJ w5 w.heap.size i _ _ (0,0) hha;have y0:=z2 0;have y1:=z2 1;have y2:=z2 2;have y3:=z2 3;have y4:=z2 4;have y5:=z2 5;simp at y0 y1 y2 y3 y4 y5;have f2:∀i,w5.frozen? ⟨w.heap.size,i,none⟩=false:=fun i=>by simp[World.frozen?,hha]
  clear z2;go_simp;have hk0:(World.setCell (World.setCell (World.setCell (World.setCell (World.setCell (World.setCell w5 ⟨w.heap.size,0,none⟩ (.int .u8 ((ndAt M k).kind:Int))) ⟨w.heap.size,1,none⟩ (strV (ndAt M k).name)) ⟨w.heap.size,2,none⟩ (.int .i64 (ndAt M k).num)) ⟨w.heap.size,3,none⟩ (.int .u8 ((ndAt M k).type:Int))) ⟨w.heap.size,4,none⟩ (.int .u64 ((ndAt M k).ref:Int))) ⟨w.heap.size,5,none⟩ (.slice ka5 (ndAt M k).kids.length kc5)).cell? ⟨w.heap.size,0,none⟩=some (.int .u8 ((ndAt M k).kind:Int)):=by simp[go_sem,y0,y1,y2,y3,y4,y5]
  generalize hWb:World.setCell _ _ _=Wb at hk0⊢;have HBc:=zz (show Below w.heap.size w Wb from hWb ▸ Bg HBc.out hble _ _ _ _ _ _);clear hWb y0 y1 y2 y3 y4 y5 f2 hha;refine hK.out _ _ (⟨(HBc.out.cell (p:=⟨b1,0,none⟩) hb1).trans hHeld0.1,(HBc.out.cell (p:=⟨b2,5,none⟩) hb2).trans hHeld0.2.1,(HBc.out.cell (p:=⟨bk,ok+i,none⟩) hbk).trans hHeld0.2.2⟩) (fun hHeld=> ?_);clear hK K
  try simp only[Act.put,sA,sB,sC,sD,sE,sF]
  refine Ag (by kernel_rfl) ?_;simp only[List.drop_succ_cons,List.drop_zero];clear hHeld0;go_wp2;go_ret;exact⟨rfl,HBc.out⟩
theorem NN(k:Nat)(w:World)(h:6≤k∧k≤12∧k≠10):Calls Tryz.prog 135 #[.int .u8 (k:Int)] w fun e w'=>e= .returned (.bool true)∧w=w':=by
 obtain⟨h1,h2,h3⟩:=h;have q1:decide ((6:Int)≤(k:Int))=true:=by simpa using(by omega:(6:Int)≤(k:Int))
 have q2:decide ((k:Int)≤(12:Int))=true:=by simpa using(by omega:(k:Int)≤(12:Int))
 have q4:decide (6≤k)=true:=by simpa using h1
 have q5:decide (k≤12)=true:=by simpa using h2
 have q3:((k:Int) !=10)=true:=by simp;omega
 clear h1 h2 h3;go_enter Tryz.func135,Tryz.ntmps135;go_wp2;go_ret;exact⟨rfl,rfl⟩
theorem Ik(k:Nat)(w:World)(h:13≤k∧k≤20):Calls Tryz.prog 136 #[.int .u8 (k:Int)] w fun e w'=>e= .returned (.bool true)∧w=w':=by
 obtain⟨h1,h2⟩:=h;have q1:decide ((13:Int)≤(k:Int))=true:=by simpa using(by omega:(13:Int)≤(k:Int))
 have q2:decide ((k:Int)≤(20:Int))=true:=by simpa using(by omega:(k:Int)≤(20:Int))
 have q4:decide (13≤k)=true:=by simpa using h1
 have q5:decide (k≤20)=true:=by simpa using h2
 clear h1 h2;go_enter Tryz.func136,Tryz.ntmps136;go_wp2;go_ret;exact⟨rfl,rfl⟩
theorem Vt(k qb:Nat)(w:World)(h:w.cell? ⟨qb,0,none⟩=some (.int .u8 (k:Int))):Calls Tryz.prog 134 #[.int .u8 (k:Int),.pointer (some ⟨qb,0,none⟩)] w fun e w'=>e= .returned (.bool true)∧w=w':=by
 go_enter Tryz.func134,Tryz.ntmps134;go_wp2;go_ret;exact⟨by simp,rfl⟩
theorem Wt(ab b1 b2 fb:Nat)(M:Nat→Option Hg.Node)(n:Hg.Node)(ka:Option Addr)(kc a0 b0:Nat)(w:World)(hK:Ic w ab b1 b2 M n ka kc)(hf:w.cell? ⟨fb,0,none⟩=some (.func (.func 131) #[] #[.pointer (some ⟨b1,0,none⟩),.pointer (some ⟨b2,0,none⟩)]))(hfl:fb < w.heap.size)(hle:b0≤n.kids.length)(hall:∀i (hi:i < n.kids.length),a0≤i→i < b0→6≤(ndAt M n.kids[i]).kind∧(ndAt M n.kids[i]).kind≤12∧(ndAt M n.kids[i]).kind≠10):
 Calls Tryz.prog 132 #[.int .i64 (a0:Int),.int .i64 (b0:Int),.func (.func 135) #[] #[],.pointer (some ⟨fb,0,none⟩)] w fun e w'=>e= .returned (.bool true)∧Below w.heap.size w w':=by
 have HK:=zz hK;have HF:=zz hf;have HALL:=zz hall;have hln:=hK.len;clear hK hf hall;go_enter Tryz.func132,Tryz.ntmps132;go_wp2
 go_loopw [8] (fun p wr=>∃i:Nat,p= .int .i64 (i:Int)∧a0≤i∧(i≤b0∨i=a0)∧Below w.heap.size w wr) (fun p wr=>b0-(intOf p).toNat)
 case atStart=>exact⟨a0,rfl,AA,.inr rfl,AL⟩
 case round=>
  obtain⟨i,rfl,hi1,hi2,hb⟩:=hrel;have HB:=zz hb;have hzr:=hb.size;by_cases hlt:i < b0
  ·have hil:i < n.kids.length:=by omega
   have cf:wr.cell? ⟨fb,0,none⟩=some (.func (.func 131) #[] #[.pointer (some ⟨b1,0,none⟩),.pointer (some ⟨b2,0,none⟩)]):=(hb.cell hfl).trans HF.out;have TK:=zz (DY ab b1 b2 M n ka kc i wr (HK.out.below hb) hil);have hkk:=HALL.out i hil hi1 hlt;generalize(ndAt M n.kids[i]).kind=k at TK hkk;have HKK:=zz hkk;clear hb hkk;go_wp2_with fail;refine TK.out.mono ?_;rintro e w1 ⟨rfl,hb1⟩;have HB1:=zz (HB.out.trans (hb1.mono hzr));clear TK hb1;skip;go_wp2_with fail;refine(NN k _ HKK.out).mono ?_;rintro e w2 ⟨rfl,rfl⟩;go_wp2;go_roundw
   case rel=>exact⟨i+1,by go_num,by omega,by omega,HB1.out⟩
   case measure=>simp[intOf];omega
  ·go_wp2
   go_ret;exact⟨rfl,HB.out⟩
theorem Qp(ab b1 b2 fb:Nat)(M:Nat→Option Hg.Node)(n:Hg.Node)(ka:Option Addr)(kc a0 b0:Nat)(w:World)(hK:Ic w ab b1 b2 M n ka kc)(hf:w.cell? ⟨fb,0,none⟩=some (.func (.func 131) #[] #[.pointer (some ⟨b1,0,none⟩),.pointer (some ⟨b2,0,none⟩)]))(hfl:fb < w.heap.size)(hle:b0≤n.kids.length)(hall:∀i (hi:i < n.kids.length),a0≤i→i < b0→13≤(ndAt M n.kids[i]).kind∧(ndAt M n.kids[i]).kind≤20):
 Calls Tryz.prog 132 #[.int .i64 (a0:Int),.int .i64 (b0:Int),.func (.func 136) #[] #[],.pointer (some ⟨fb,0,none⟩)] w fun e w'=>e= .returned (.bool true)∧Below w.heap.size w w':=by
 have HK:=zz hK;have HF:=zz hf;have HALL:=zz hall;have hln:=hK.len;clear hK hf hall;go_enter Tryz.func132,Tryz.ntmps132;go_wp2
 go_loopw [8] (fun p wr=>∃i:Nat,p= .int .i64 (i:Int)∧a0≤i∧(i≤b0∨i=a0)∧Below w.heap.size w wr) (fun p wr=>b0-(intOf p).toNat)
 case atStart=>exact⟨a0,rfl,AA,.inr rfl,AL⟩
 case round=>
  obtain⟨i,rfl,hi1,hi2,hb⟩:=hrel;have HB:=zz hb;have hzr:=hb.size;by_cases hlt:i < b0
  ·have hil:i < n.kids.length:=by omega
   have cf:wr.cell? ⟨fb,0,none⟩=some (.func (.func 131) #[] #[.pointer (some ⟨b1,0,none⟩),.pointer (some ⟨b2,0,none⟩)]):=(hb.cell hfl).trans HF.out;have TK:=zz (DY ab b1 b2 M n ka kc i wr (HK.out.below hb) hil);have hkk:=HALL.out i hil hi1 hlt;generalize(ndAt M n.kids[i]).kind=k at TK hkk;have HKK:=zz hkk;clear hb hkk;go_wp2_with fail;refine TK.out.mono ?_;rintro e w1 ⟨rfl,hb1⟩;have HB1:=zz (HB.out.trans (hb1.mono hzr));clear TK hb1;skip;go_wp2_with fail;refine(Ik k _ HKK.out).mono ?_;rintro e w2 ⟨rfl,rfl⟩;go_wp2;go_roundw
   case rel=>exact⟨i+1,by go_num,by omega,by omega,HB1.out⟩
   case measure=>simp[intOf];omega
  ·go_wp2
   go_ret;exact⟨rfl,HB.out⟩
theorem KQ(ab b1 b2 fb:Nat)(M:Nat→Option Hg.Node)(n:Hg.Node)(ka:Option Addr)(kc a0 b0:Nat)(qb k0:Nat)(w:World)(hK:Ic w ab b1 b2 M n ka kc)(hf:w.cell? ⟨fb,0,none⟩=some (.func (.func 131) #[] #[.pointer (some ⟨b1,0,none⟩),.pointer (some ⟨b2,0,none⟩)]))(hfl:fb < w.heap.size)(hq:w.cell? ⟨qb,0,none⟩=some (.int .u8 (k0:Int))∧qb < w.heap.size)(hle:b0≤n.kids.length)(hall:∀i (hi:i < n.kids.length),a0≤i→i < b0→(ndAt M n.kids[i]).kind=k0):
 Calls Tryz.prog 132 #[.int .i64 (a0:Int),.int .i64 (b0:Int),.func (.func 134) #[] #[.pointer (some ⟨qb,0,none⟩)],.pointer (some ⟨fb,0,none⟩)] w fun e w'=>e= .returned (.bool true)∧Below w.heap.size w w':=by
 have HK:=zz hK;have HF:=zz hf;have HALL:=zz hall;have hln:=hK.len;clear hK hf hall;go_enter Tryz.func132,Tryz.ntmps132;go_wp2
 go_loopw [8] (fun p wr=>∃i:Nat,p= .int .i64 (i:Int)∧a0≤i∧(i≤b0∨i=a0)∧Below w.heap.size w wr) (fun p wr=>b0-(intOf p).toNat)
 case atStart=>exact⟨a0,rfl,AA,.inr rfl,AL⟩
 case round=>
  obtain⟨i,rfl,hi1,hi2,hb⟩:=hrel;have HB:=zz hb;have hzr:=hb.size;by_cases hlt:i < b0
  ·have hil:i < n.kids.length:=by omega
   have cf:wr.cell? ⟨fb,0,none⟩=some (.func (.func 131) #[] #[.pointer (some ⟨b1,0,none⟩),.pointer (some ⟨b2,0,none⟩)]):=(hb.cell hfl).trans HF.out;have TK:=zz (DY ab b1 b2 M n ka kc i wr (HK.out.below hb) hil);have hkk:=HALL.out i hil hi1 hlt;generalize(ndAt M n.kids[i]).kind=k at TK hkk;have HKK:=zz hkk;clear hb hkk;go_wp2_with fail;refine TK.out.mono ?_;rintro e w1 ⟨rfl,hb1⟩;have HB1:=zz (HB.out.trans (hb1.mono hzr));clear TK hb1
   (have hk0:=HKK.out;subst hk0;have TO:=Vt k qb w1 ((HB1.out.cell hq.2).trans hq.1))
   go_wp2_with fail;refine(TO).mono ?_;rintro e w2 ⟨rfl,rfl⟩;go_wp2;go_roundw
   case rel=>exact⟨i+1,by go_num,by omega,by omega,HB1.out⟩
   case measure=>simp[intOf];omega
  ·go_wp2
   go_ret;exact⟨rfl,HB.out⟩
end Go.Proofs.YtfgnfpdfohjopaaGreatDoor
namespace Hg
def stP(k:Nat):Prop:=6≤k∧k≤12∧k≠10
def exP(k:Nat):Prop:=13≤k∧k≤20
instance (k:Nat):Decidable (stP k):=by unfold stP;infer_instance
instance (k:Nat):Decidable (exP k):=by unfold exP;infer_instance
def kk(M:Nat→Option Node)(n:Node)(i:Nat):Nat:=(ndAt M (n.kids.getD i 0)).kind
def CF(M:Nat→Option Node)(n:Node):Prop:=
 (n.kind=1∧∀i,i < n.kids.length→kk M n i=2)∨
 (n.kind=2∧∀i,i < n.kids.length→kk M n i=3)∨
 (n.kind=3∧0 < n.kids.length∧(∀i,i < n.kids.length-1→kk M n i=4)∧kk M n (n.kids.length-1)=5)∨
 (n.kind=5∧n.kids.length=0)∨
 (n.kind=5∧0 < n.kids.length∧(∀i,i < n.kids.length-1→stP (kk M n i))∧(kk M n (n.kids.length-1)=10∨stP (kk M n (n.kids.length-1))))∨
 (n.kind=8∧n.kids.length=3∧exP (kk M n 0)∧kk M n 1=5∧kk M n 2=5)∨
 (n.kind=9∧n.kids.length=2∧exP (kk M n 0)∧kk M n 1=5)∨
 (n.kind=12∧n.kids.length=1∧kk M n 0=19)∨
 ((n.kind=6∨n.kind=7∨n.kind=10∨n.kind=11∨n.kind=16∨n.kind=17)∧n.kids.length=1∧exP (kk M n 0))∨
 (n.kind=18∧n.kids.length=2∧exP (kk M n 0)∧exP (kk M n 1))∨
 (n.kind=19∧∀i,i < n.kids.length→exP (kk M n i))∨
 ((n.kind=4∨n.kind=13∨n.kind=14∨n.kind=15∨n.kind=20)∧n.kids.length=0)
theorem Er(M:Nat→Option Node)(n:Node)(i:Nat)(h:i < n.kids.length):(ndAt M n.kids[i]).kind=kk M n i:=by
 unfold kk
 simp[List.getD,AY h]
end Hg
namespace Go.Proofs.YtfgnfpdfohjopaaGreatDoor
open Go.RowKit
open Hg (GT gl wk isK ndAt CO KB kk Er stP exP CF)
theorem Oj(k:Nat)(w:World):Calls Tryz.prog 133 #[.int .u8 (k:Int)] w fun e w'=>e= .returned (.func (.func 134) #[] #[.pointer (some ⟨w.heap.size,0,none⟩)])∧w'=w.alloc (.cells #[.int .u8 (k:Int)] 5):=by
 go_enter Tryz.func133,Tryz.ntmps133;go_wp2;go_ret;exact⟨rfl,rfl⟩
theorem Wv(x:Value)(fb:Nat)(w:World):Calls Tryz.prog 132 #[.int .i64 0,.int .i64 (-1),x,.pointer (some ⟨fb,0,none⟩)] w fun e w'=>e= .returned (.bool true)∧w=w':=by
 go_enter Tryz.func132,Tryz.ntmps132;go_wp2;refine wp_loop_once ?_;go_wp2;go_ret;exact⟨rfl,rfl⟩
@[reducible] def kfV(b1 b2:Nat):Value:= .func (.func 131) #[] #[.pointer (some ⟨b1,0,none⟩),.pointer (some ⟨b2,0,none⟩)]
structure O8 (w W0:World) (ab:Nat) (M:Nat→Option Hg.Node) (n:Hg.Node) (ka:Option Addr) (kc:Nat):Prop where
 kb:Ic W0 ab w.heap.size (w.heap.size+1) M n ka kc
 cf:W0.cell? ⟨w.heap.size+2,0,none⟩=some (kfV w.heap.size (w.heap.size+1))
 lf:w.heap.size+2 < W0.heap.size
 be:Below w.heap.size w W0
theorem O8.below{w W0 W1:World}{ab:Nat}{M:Nat→Option Hg.Node}{n:Hg.Node}{ka:Option Addr}{kc:Nat}(h:O8 w W0 ab M n ka kc)(hb:Below W0.heap.size W0 W1):O8 w W1 ab M n ka kc:=
 ⟨h.kb.below hb,(hb.cell (p:=⟨w.heap.size+2,0,none⟩) h.lf).trans h.cf,AR h.lf hb.size,h.be.trans (hb.mono h.be.size)⟩
theorem YU{w:World}{ab:Nat}{M:Nat→Option Hg.Node}{n:Hg.Node}{ka:Option Addr}{kc:Nat}(hA:ArOk w ab M)
 (hs:Sl w w.heap.size (.slice ka n.kids.length kc) n.kids.length (n.kids.map idV)) (hl:n.kids.length≤1000000) (hk:∀k∈n.kids,k < Ah):
 O8 w (((w.alloc (.cells #[.pointer (some ⟨ab,0,none⟩)] 25)).alloc (.cells (AZ n ka kc) 48)).alloc (.cells #[kfV w.heap.size (w.heap.size+1)] 180)) ab M n ka kc:=by
 have h0:=AX w (.cells #[.pointer (some ⟨ab,0,none⟩)] 25);have b0:Below w.heap.size w (w.alloc (.cells #[.pointer (some ⟨ab,0,none⟩)] 25)):=(AL).alloc AA _;have z0:(w.alloc (.cells #[.pointer (some ⟨ab,0,none⟩)] 25)).heap.size=w.heap.size+1:=by simp
 generalize w.alloc (.cells #[.pointer (some ⟨ab,0,none⟩)] 25)=A at*;have h1:=AX A (.cells (AZ n ka kc) 48);have b1:Below A.heap.size A (A.alloc (.cells (AZ n ka kc) 48)):=(AL).alloc AA _;have z1:(A.alloc (.cells (AZ n ka kc) 48)).heap.size=w.heap.size+2:=by simp[z0]
 generalize A.alloc (.cells (AZ n ka kc) 48)=B at*;have h2:=AX B (.cells #[kfV w.heap.size (w.heap.size+1)] 180);have b2:Below B.heap.size B (B.alloc (.cells #[kfV w.heap.size (w.heap.size+1)] 180)):=(AL).alloc AA _;have z2:(B.alloc (.cells #[kfV w.heap.size (w.heap.size+1)] 180)).heap.size=w.heap.size+3:=by simp[z1]
 generalize B.alloc (.cells #[kfV w.heap.size (w.heap.size+1)] 180)=C at*;have hb:Below w.heap.size w C:=b0.trans ((b1.mono (by omega)).trans (b2.mono (by omega)));have k0:C.heap[w.heap.size]? =_:=(b2.block _ (by omega)).trans ((b1.block _ (by omega)).trans h0);have k1:C.heap[w.heap.size+1]? =_:=(b2.block _ (by omega)).trans (z0 ▸ h1);have k2:C.heap[w.heap.size+2]? =_:=z1 ▸ h2;have c1:=AJ C (w.heap.size+1) 0 _ _ (0,0) k1;have c5:=AJ C (w.heap.size+1) 5 _ _ (0,0) k1;exact⟨⟨hA.below hb,AJ C w.heap.size 0 _ _ (0,0) k0,c1,c5,by omega,(hs.below hb AA).more hb.size,hl,hk⟩,AJ C (w.heap.size+2) 0 _ _ (0,0) k2,by omega,hb⟩
@[local go_sem] theorem XT{P:Program}{w:World}{a:Addr}{m:Mode}(fn:Fn)(first captured:Array Value):(store a (.func fn first captured) m).run P w=stored P w a (.func fn first captured) m:=run_store P w a _ m rfl
@[local go_sem] theorem VH{P:Program}{w:World}{a:Addr}{m:Mode}:(store a .nilFunc m).run P w=stored P w a .nilFunc m:=run_store P w a _ m rfl
theorem Tw(ab:Nat)(M:Nat→Option Hg.Node)(n:Hg.Node)(ka:Option Addr)(kc:Nat)(w:World)(hA:ArOk w ab M)
 (hs:Sl w w.heap.size (.slice ka n.kids.length kc) n.kids.length (n.kids.map idV)) (hl:n.kids.length≤1000000) (hk:∀k∈n.kids,k < Ah) (hP:CF M n):
 Calls Tryz.prog 88 #[.pointer (some ⟨ab,0,none⟩),ndV n ka kc] w fun e w'=>e= .returned (.bool true)∧Below w.heap.size w w':=by
 obtain⟨kd,nm,nu,ty,rf,ks⟩:=n;have KS:=zz (YU hA hs hl hk);unfold CF at hP;dsimp only at hP hl KS;clear hA hs hk;rcases hP with⟨rfl,hall⟩|⟨rfl,hall⟩|⟨rfl,hpos,hall,hlast⟩|⟨rfl,h0⟩|⟨rfl,hpos,hall,hlast⟩|⟨rfl,h3,e0,k1,k2⟩|⟨rfl,h2,e0,k1⟩|⟨rfl,h1,k0⟩|⟨hkd,h1,e0⟩|⟨rfl,h2,e0,e1⟩|⟨rfl,hall⟩|⟨hkd,h0⟩
 ·skip
  go_enter Tryz.func88,Tryz.ntmps88;go_wp2_with fail;have hks:=KS.out;clear KS;generalize World.alloc (World.alloc (World.alloc w _) _) _=W0 at hks⊢;have HKS:=zz hks;clear hks;have cf:=HKS.out.cf;replace cf:World.cell? _ ⟨w.heap.size+1+1,0,none⟩=some (.func (.func 131) #[] #[.pointer (some ⟨w.heap.size,0,none⟩),.pointer (some ⟨w.heap.size+1,0,none⟩)]):=cf;refine(Oj 2 _).mono ?_;rintro e w1 ⟨rfl,rfl⟩;have HKQ:=zz (HKS.out.below ((AL).alloc AA (.cells #[.int .u8 ((2:Nat):Int)] 5)));have hcq:=AJ _ _ 0 _ _ (0,0) (AX W0 (.cells #[.int .u8 ((2:Nat):Int)] 5));have hqz:(W0).heap.size < ((W0).alloc (.cells #[.int .u8 ((2:Nat):Int)] 5)).heap.size:=by simp
  clear cf;go_wp2_with fail;refine(KQ ab w.heap.size (w.heap.size+1) (w.heap.size+2) M _ ka kc 0 ks.length (W0).heap.size 2 _ HKQ.out.kb HKQ.out.cf HKQ.out.lf ⟨hcq,hqz⟩ (show ks.length≤ks.length by omega) (fun i hi h1 h2=>by rw[Er];exact hall i (by simpa using hi))).mono ?_;rintro e w2 ⟨rfl,hb2⟩;have HKS:=zz (HKQ.out.below hb2);have cf:=HKS.out.cf;replace cf:World.cell? _ ⟨w.heap.size+1+1,0,none⟩=some (.func (.func 131) #[] #[.pointer (some ⟨w.heap.size,0,none⟩),.pointer (some ⟨w.heap.size+1,0,none⟩)]):=cf;clear HKQ hcq hb2 hqz;go_wp2;go_ret;exact⟨rfl,HKS.out.be⟩
 ·skip
  go_enter Tryz.func88,Tryz.ntmps88;go_wp2_with fail;have hks:=KS.out;clear KS;generalize World.alloc (World.alloc (World.alloc w _) _) _=W0 at hks⊢;have HKS:=zz hks;clear hks;have cf:=HKS.out.cf;replace cf:World.cell? _ ⟨w.heap.size+1+1,0,none⟩=some (.func (.func 131) #[] #[.pointer (some ⟨w.heap.size,0,none⟩),.pointer (some ⟨w.heap.size+1,0,none⟩)]):=cf;refine(Oj 3 _).mono ?_;rintro e w1 ⟨rfl,rfl⟩;have HKQ:=zz (HKS.out.below ((AL).alloc AA (.cells #[.int .u8 ((3:Nat):Int)] 5)));have hcq:=AJ _ _ 0 _ _ (0,0) (AX W0 (.cells #[.int .u8 ((3:Nat):Int)] 5));have hqz:(W0).heap.size < ((W0).alloc (.cells #[.int .u8 ((3:Nat):Int)] 5)).heap.size:=by simp
  clear cf;go_wp2_with fail;refine(KQ ab w.heap.size (w.heap.size+1) (w.heap.size+2) M _ ka kc 0 ks.length (W0).heap.size 3 _ HKQ.out.kb HKQ.out.cf HKQ.out.lf ⟨hcq,hqz⟩ (show ks.length≤ks.length by omega) (fun i hi h1 h2=>by rw[Er];exact hall i (by simpa using hi))).mono ?_;rintro e w2 ⟨rfl,hb2⟩;have HKS:=zz (HKQ.out.below hb2);have cf:=HKS.out.cf;replace cf:World.cell? _ ⟨w.heap.size+1+1,0,none⟩=some (.func (.func 131) #[] #[.pointer (some ⟨w.heap.size,0,none⟩),.pointer (some ⟨w.heap.size+1,0,none⟩)]):=cf;clear HKQ hcq hb2 hqz;go_wp2;go_ret;exact⟨rfl,HKS.out.be⟩
 ·skip
  obtain⟨m,hm⟩:∃m,ks.length=m+1:=⟨ks.length-1,by omega⟩;have hm1:ks.length-1=m:=by omega
  rw[hm1] at hall hlast;have hsub:IntKind.i64.wrap ((ks.length:Int)-1)=(m:Int):=by rw[show((ks.length:Int)-1)=(m:Int) from by omega];exact IntWalk.i64_in _ (by omega)
  have HM:=zz hm;have hml:m < ks.length:=by omega
  have hp1:decide ((0:Int) < (ks.length:Int))=true:=by simpa using(by omega:(0:Int) < (ks.length:Int))
  have hp2:decide (0 < ks.length)=true:=by simpa using hpos
  have hp3:((ks.length:Int)==0)=false:=by rw[beq_eq_false_iff_ne];omega
  clear hm hm1;go_enter Tryz.func88,Tryz.ntmps88;go_wp2_with fail;have hks:=KS.out;clear KS;generalize World.alloc (World.alloc (World.alloc w _) _) _=W0 at hks⊢;have HKS:=zz hks;clear hks;have cf:=HKS.out.cf;replace cf:World.cell? _ ⟨w.heap.size+1+1,0,none⟩=some (.func (.func 131) #[] #[.pointer (some ⟨w.heap.size,0,none⟩),.pointer (some ⟨w.heap.size+1,0,none⟩)]):=cf;refine(Oj 4 _).mono ?_;rintro e w1 ⟨rfl,rfl⟩;have HKQ:=zz (HKS.out.below ((AL).alloc AA (.cells #[.int .u8 ((4:Nat):Int)] 5)));have hcq:=AJ _ _ 0 _ _ (0,0) (AX W0 (.cells #[.int .u8 ((4:Nat):Int)] 5));have hqz:(W0).heap.size < ((W0).alloc (.cells #[.int .u8 ((4:Nat):Int)] 5)).heap.size:=by simp
  clear cf;go_wp2_with fail;refine(KQ ab w.heap.size (w.heap.size+1) (w.heap.size+2) M _ ka kc 0 m (W0).heap.size 4 _ HKQ.out.kb HKQ.out.cf HKQ.out.lf ⟨hcq,hqz⟩ (show m≤ks.length by omega) (fun i hi h1 h2=>by rw[Er];exact hall i (by omega))).mono ?_;rintro e w2 ⟨rfl,hb2⟩;have HKS:=zz (HKQ.out.below hb2);have cf:=HKS.out.cf;replace cf:World.cell? _ ⟨w.heap.size+1+1,0,none⟩=some (.func (.func 131) #[] #[.pointer (some ⟨w.heap.size,0,none⟩),.pointer (some ⟨w.heap.size+1,0,none⟩)]):=cf;clear HKQ hcq hb2 hqz;go_wp2_with fail;have TK:=DY ab w.heap.size (w.heap.size+1) M _ ka kc m _ HKS.out.kb (show m < ks.length by omega);rw[Er,hlast] at TK;refine TK.mono ?_;rintro e w5 ⟨rfl,hbk⟩;clear TK;have HKS:=zz (HKS.out.below hbk);have cf:=HKS.out.cf;replace cf:World.cell? _ ⟨w.heap.size+1+1,0,none⟩=some (.func (.func 131) #[] #[.pointer (some ⟨w.heap.size,0,none⟩),.pointer (some ⟨w.heap.size+1,0,none⟩)]):=cf;clear hbk;go_wp2;go_ret;exact⟨rfl,HKS.out.be⟩
 ·skip
  have hp3:((ks.length:Int)==0)=true:=by simp[h0]
  have hsub:IntKind.i64.wrap ((ks.length:Int)-1)= -1:=by rw[h0];decide
  have hl0:=zz h0;clear h0;go_enter Tryz.func88,Tryz.ntmps88;go_wp2_with fail;have hks:=KS.out;clear KS;generalize World.alloc (World.alloc (World.alloc w _) _) _=W0 at hks⊢;have HKS:=zz hks;clear hks;have cf:=HKS.out.cf;replace cf:World.cell? _ ⟨w.heap.size+1+1,0,none⟩=some (.func (.func 131) #[] #[.pointer (some ⟨w.heap.size,0,none⟩),.pointer (some ⟨w.heap.size+1,0,none⟩)]):=cf;refine(Wv _ _ _).mono ?_;rintro e w1 ⟨rfl,rfl⟩;go_wp2;go_ret;exact⟨rfl,HKS.out.be⟩
 ·skip
  obtain⟨m,hm⟩:∃m,ks.length=m+1:=⟨ks.length-1,by omega⟩;have hm1:ks.length-1=m:=by omega
  rw[hm1] at hall hlast;have hsub:IntKind.i64.wrap ((ks.length:Int)-1)=(m:Int):=by rw[show((ks.length:Int)-1)=(m:Int) from by omega];exact IntWalk.i64_in _ (by omega)
  have HM:=zz hm;have hml:m < ks.length:=by omega
  have hp1:decide ((0:Int) < (ks.length:Int))=true:=by simpa using(by omega:(0:Int) < (ks.length:Int))
  have hp2:decide (0 < ks.length)=true:=by simpa using hpos
  have hp3:((ks.length:Int)==0)=false:=by rw[beq_eq_false_iff_ne];omega
  clear hm hm1;go_enter Tryz.func88,Tryz.ntmps88;go_wp2_with fail;have hks:=KS.out;clear KS;generalize World.alloc (World.alloc (World.alloc w _) _) _=W0 at hks⊢;have HKS:=zz hks;clear hks;have cf:=HKS.out.cf;replace cf:World.cell? _ ⟨w.heap.size+1+1,0,none⟩=some (.func (.func 131) #[] #[.pointer (some ⟨w.heap.size,0,none⟩),.pointer (some ⟨w.heap.size+1,0,none⟩)]):=cf;refine(Wt ab w.heap.size (w.heap.size+1) (w.heap.size+2) M _ ka kc 0 m _ HKS.out.kb HKS.out.cf HKS.out.lf (show m≤ks.length by omega) (fun i hi h1 h2=>by rw[Er];exact hall i (by omega))).mono ?_;rintro e w2 ⟨rfl,hb2⟩;have HKS:=zz (HKS.out.below hb2);have cf:=HKS.out.cf;replace cf:World.cell? _ ⟨w.heap.size+1+1,0,none⟩=some (.func (.func 131) #[] #[.pointer (some ⟨w.heap.size,0,none⟩),.pointer (some ⟨w.heap.size+1,0,none⟩)]):=cf;clear hb2;rcases hlast with hlast|hlast
  ·go_wp2_with fail
   have TK:=DY ab w.heap.size (w.heap.size+1) M _ ka kc m _ HKS.out.kb (show m < ks.length by omega);rw[Er,hlast] at TK;refine TK.mono ?_;rintro e w5 ⟨rfl,hbk⟩;clear TK;have HKS:=zz (HKS.out.below hbk);have cf:=HKS.out.cf;replace cf:World.cell? _ ⟨w.heap.size+1+1,0,none⟩=some (.func (.func 131) #[] #[.pointer (some ⟨w.heap.size,0,none⟩),.pointer (some ⟨w.heap.size+1,0,none⟩)]):=cf;clear hbk;go_wp2;go_ret;exact⟨rfl,HKS.out.be⟩
  ·go_wp2_with fail
   generalize hq7:kk M _ m=q7 at hlast;have he7:=zz hlast;have hqq:=hq7;have HQ7:=zz hq7;clear hq7;have TK:=DY ab w.heap.size (w.heap.size+1) M _ ka kc m _ HKS.out.kb (show m < ks.length by omega);rw[Er,hqq] at TK;refine TK.mono ?_;rintro e w7 ⟨rfl,hbk⟩;clear TK;have HKS:=zz (HKS.out.below hbk);have cf:=HKS.out.cf;replace cf:World.cell? _ ⟨w.heap.size+1+1,0,none⟩=some (.func (.func 131) #[] #[.pointer (some ⟨w.heap.size,0,none⟩),.pointer (some ⟨w.heap.size+1,0,none⟩)]):=cf;clear hbk;clear hqq;by_cases h10:q7=10
   ·subst h10
    exact absurd rfl he7.out.2.2
   ·have hq10:((q7:Int)==10)=false:=by simp;omega
    clear h10;go_wp2_with fail;have TK:=DY ab w.heap.size (w.heap.size+1) M _ ka kc m _ HKS.out.kb (show m < ks.length by omega);rw[Er,HQ7.out] at TK;refine TK.mono ?_;rintro e w8 ⟨rfl,hbk⟩;clear TK;have HKS:=zz (HKS.out.below hbk);have cf:=HKS.out.cf;replace cf:World.cell? _ ⟨w.heap.size+1+1,0,none⟩=some (.func (.func 131) #[] #[.pointer (some ⟨w.heap.size,0,none⟩),.pointer (some ⟨w.heap.size+1,0,none⟩)]):=cf;clear hbk;go_wp2_with fail;refine(NN q7 _ he7.out).mono ?_;rintro e w9 ⟨rfl,rfl⟩;go_wp2;go_ret;exact⟨rfl,HKS.out.be⟩
 ·skip
  have hp:((ks.length:Int)==3)=true:=by simp[h3]
  have hl3:=zz h3;have hlen:3≤ks.length:=by omega
  clear h3;go_enter Tryz.func88,Tryz.ntmps88;go_wp2_with fail;have hks:=KS.out;clear KS;generalize World.alloc (World.alloc (World.alloc w _) _) _=W0 at hks⊢;have HKS:=zz hks;clear hks;have cf:=HKS.out.cf;replace cf:World.cell? _ ⟨w.heap.size+1+1,0,none⟩=some (.func (.func 131) #[] #[.pointer (some ⟨w.heap.size,0,none⟩),.pointer (some ⟨w.heap.size+1,0,none⟩)]):=cf;generalize hq7:kk M _ 0=q7 at e0;have he7:=zz e0;have hqq:=hq7;clear hq7;have TK:=DY ab w.heap.size (w.heap.size+1) M _ ka kc 0 _ HKS.out.kb (show 0 < ks.length by omega);rw[Er,hqq] at TK;refine TK.mono ?_;rintro e w7 ⟨rfl,hbk⟩;clear TK;have HKS:=zz (HKS.out.below hbk);have cf:=HKS.out.cf;replace cf:World.cell? _ ⟨w.heap.size+1+1,0,none⟩=some (.func (.func 131) #[] #[.pointer (some ⟨w.heap.size,0,none⟩),.pointer (some ⟨w.heap.size+1,0,none⟩)]):=cf;clear hbk;clear hqq;go_wp2_with fail;refine(Ik q7 _ he7.out).mono ?_;rintro e w9 ⟨rfl,rfl⟩;go_wp2_with fail;refine(Oj 5 _).mono ?_;rintro e w1 ⟨rfl,rfl⟩;have HKQ:=zz (HKS.out.below ((AL).alloc AA (.cells #[.int .u8 ((5:Nat):Int)] 5)));have hcq:=AJ _ _ 0 _ _ (0,0) (AX w7 (.cells #[.int .u8 ((5:Nat):Int)] 5));have hqz:(w7).heap.size < ((w7).alloc (.cells #[.int .u8 ((5:Nat):Int)] 5)).heap.size:=by simp
  clear cf;go_wp2_with fail;refine(KQ ab w.heap.size (w.heap.size+1) (w.heap.size+2) M _ ka kc 1 3 (w7).heap.size 5 _ HKQ.out.kb HKQ.out.cf HKQ.out.lf ⟨hcq,hqz⟩ (show 3≤ks.length by omega) (fun i hi h1 h2=>by rw[Er];exact(by rcases(show i=1∨i=2 by omega) with rfl|rfl <;>assumption))).mono ?_;rintro e w2 ⟨rfl,hb2⟩;have HKS:=zz (HKQ.out.below hb2);have cf:=HKS.out.cf;replace cf:World.cell? _ ⟨w.heap.size+1+1,0,none⟩=some (.func (.func 131) #[] #[.pointer (some ⟨w.heap.size,0,none⟩),.pointer (some ⟨w.heap.size+1,0,none⟩)]):=cf;clear HKQ hcq hb2 hqz;go_wp2;go_ret;exact⟨rfl,HKS.out.be⟩
 ·skip
  have hp:((ks.length:Int)==2)=true:=by simp[h2]
  have hlen:2≤ks.length:=by omega
  clear h2;go_enter Tryz.func88,Tryz.ntmps88;go_wp2_with fail;have hks:=KS.out;clear KS;generalize World.alloc (World.alloc (World.alloc w _) _) _=W0 at hks⊢;have HKS:=zz hks;clear hks;have cf:=HKS.out.cf;replace cf:World.cell? _ ⟨w.heap.size+1+1,0,none⟩=some (.func (.func 131) #[] #[.pointer (some ⟨w.heap.size,0,none⟩),.pointer (some ⟨w.heap.size+1,0,none⟩)]):=cf;generalize hq7:kk M _ 0=q7 at e0;have he7:=zz e0;have hqq:=hq7;clear hq7;have TK:=DY ab w.heap.size (w.heap.size+1) M _ ka kc 0 _ HKS.out.kb (show 0 < ks.length by omega);rw[Er,hqq] at TK;refine TK.mono ?_;rintro e w7 ⟨rfl,hbk⟩;clear TK;have HKS:=zz (HKS.out.below hbk);have cf:=HKS.out.cf;replace cf:World.cell? _ ⟨w.heap.size+1+1,0,none⟩=some (.func (.func 131) #[] #[.pointer (some ⟨w.heap.size,0,none⟩),.pointer (some ⟨w.heap.size+1,0,none⟩)]):=cf;clear hbk;clear hqq;go_wp2_with fail;refine(Ik q7 _ he7.out).mono ?_;rintro e w9 ⟨rfl,rfl⟩;go_wp2_with fail;have TK:=DY ab w.heap.size (w.heap.size+1) M _ ka kc 1 _ HKS.out.kb (show 1 < ks.length by omega);rw[Er,k1] at TK;refine TK.mono ?_;rintro e w8 ⟨rfl,hbk⟩;clear TK;have HKS:=zz (HKS.out.below hbk);have cf:=HKS.out.cf;replace cf:World.cell? _ ⟨w.heap.size+1+1,0,none⟩=some (.func (.func 131) #[] #[.pointer (some ⟨w.heap.size,0,none⟩),.pointer (some ⟨w.heap.size+1,0,none⟩)]):=cf;clear hbk;go_wp2;go_ret;exact⟨rfl,HKS.out.be⟩
 ·skip
  have hp:((ks.length:Int)==1)=true:=by simp[h1]
  have hlen:1≤ks.length:=by omega
  clear h1;go_enter Tryz.func88,Tryz.ntmps88;go_wp2_with fail;have hks:=KS.out;clear KS;generalize World.alloc (World.alloc (World.alloc w _) _) _=W0 at hks⊢;have HKS:=zz hks;clear hks;have cf:=HKS.out.cf;replace cf:World.cell? _ ⟨w.heap.size+1+1,0,none⟩=some (.func (.func 131) #[] #[.pointer (some ⟨w.heap.size,0,none⟩),.pointer (some ⟨w.heap.size+1,0,none⟩)]):=cf;have TK:=DY ab w.heap.size (w.heap.size+1) M _ ka kc 0 _ HKS.out.kb (show 0 < ks.length by omega);rw[Er,k0] at TK;refine TK.mono ?_;rintro e w8 ⟨rfl,hbk⟩;clear TK;have HKS:=zz (HKS.out.below hbk);have cf:=HKS.out.cf;replace cf:World.cell? _ ⟨w.heap.size+1+1,0,none⟩=some (.func (.func 131) #[] #[.pointer (some ⟨w.heap.size,0,none⟩),.pointer (some ⟨w.heap.size+1,0,none⟩)]):=cf;clear hbk;go_wp2;go_ret;exact⟨rfl,HKS.out.be⟩
 ·skip
  have hp:((ks.length:Int)==1)=true:=by simp[h1]
  have hlen:1≤ks.length:=by omega
  clear h1;rcases hkd with rfl|rfl|rfl|rfl|rfl|rfl
  all_goals
   go_enter Tryz.func88,Tryz.ntmps88;go_wp2_with fail;have hks:=KS.out;clear KS;generalize World.alloc (World.alloc (World.alloc w _) _) _=W0 at hks⊢;have HKS:=zz hks;clear hks;have cf:=HKS.out.cf;replace cf:World.cell? _ ⟨w.heap.size+1+1,0,none⟩=some (.func (.func 131) #[] #[.pointer (some ⟨w.heap.size,0,none⟩),.pointer (some ⟨w.heap.size+1,0,none⟩)]):=cf;generalize hq7:kk M _ 0=q7 at e0;have he7:=zz e0;have hqq:=hq7;clear hq7;have TK:=DY ab w.heap.size (w.heap.size+1) M _ ka kc 0 _ HKS.out.kb (show 0 < ks.length by omega);rw[Er,hqq] at TK;refine TK.mono ?_;rintro e w7 ⟨rfl,hbk⟩;clear TK;have HKS:=zz (HKS.out.below hbk);have cf:=HKS.out.cf;replace cf:World.cell? _ ⟨w.heap.size+1+1,0,none⟩=some (.func (.func 131) #[] #[.pointer (some ⟨w.heap.size,0,none⟩),.pointer (some ⟨w.heap.size+1,0,none⟩)]):=cf;clear hbk;clear hqq;go_wp2_with fail;refine(Ik q7 _ he7.out).mono ?_;rintro e w9 ⟨rfl,rfl⟩;go_wp2;go_ret;exact⟨rfl,HKS.out.be⟩
 ·skip
  have hp:((ks.length:Int)==2)=true:=by simp[h2]
  have hlen:2≤ks.length:=by omega
  clear h2;go_enter Tryz.func88,Tryz.ntmps88;go_wp2_with fail;have hks:=KS.out;clear KS;generalize World.alloc (World.alloc (World.alloc w _) _) _=W0 at hks⊢;have HKS:=zz hks;clear hks;have cf:=HKS.out.cf;replace cf:World.cell? _ ⟨w.heap.size+1+1,0,none⟩=some (.func (.func 131) #[] #[.pointer (some ⟨w.heap.size,0,none⟩),.pointer (some ⟨w.heap.size+1,0,none⟩)]):=cf;refine(Qp ab w.heap.size (w.heap.size+1) (w.heap.size+2) M _ ka kc 0 2 _ HKS.out.kb HKS.out.cf HKS.out.lf (show 2≤ks.length by omega) (fun i hi h1 h2=>by rw[Er];exact(by rcases(show i=0∨i=1 by omega) with rfl|rfl <;>assumption))).mono ?_;rintro e w2 ⟨rfl,hb2⟩;have HKS:=zz (HKS.out.below hb2);have cf:=HKS.out.cf;replace cf:World.cell? _ ⟨w.heap.size+1+1,0,none⟩=some (.func (.func 131) #[] #[.pointer (some ⟨w.heap.size,0,none⟩),.pointer (some ⟨w.heap.size+1,0,none⟩)]):=cf;clear hb2;go_wp2;go_ret;exact⟨rfl,HKS.out.be⟩
 ·skip
  go_enter Tryz.func88,Tryz.ntmps88;go_wp2_with fail;have hks:=KS.out;clear KS;generalize World.alloc (World.alloc (World.alloc w _) _) _=W0 at hks⊢;have HKS:=zz hks;clear hks;have cf:=HKS.out.cf;replace cf:World.cell? _ ⟨w.heap.size+1+1,0,none⟩=some (.func (.func 131) #[] #[.pointer (some ⟨w.heap.size,0,none⟩),.pointer (some ⟨w.heap.size+1,0,none⟩)]):=cf;refine(Qp ab w.heap.size (w.heap.size+1) (w.heap.size+2) M _ ka kc 0 ks.length _ HKS.out.kb HKS.out.cf HKS.out.lf (show ks.length≤ks.length by omega) (fun i hi h1 h2=>by rw[Er];exact hall i (by simpa using hi))).mono ?_;rintro e w2 ⟨rfl,hb2⟩;have HKS:=zz (HKS.out.below hb2);have cf:=HKS.out.cf;replace cf:World.cell? _ ⟨w.heap.size+1+1,0,none⟩=some (.func (.func 131) #[] #[.pointer (some ⟨w.heap.size,0,none⟩),.pointer (some ⟨w.heap.size+1,0,none⟩)]):=cf;clear hb2;go_wp2;go_ret;exact⟨rfl,HKS.out.be⟩
 ·skip
  have hp:((ks.length:Int)==0)=true:=by simp[h0]
  clear h0;rcases hkd with rfl|rfl|rfl|rfl|rfl
  all_goals
   have hks:=zz KS.out.be;clear KS;go_enter Tryz.func88,Tryz.ntmps88;go_wp2;go_ret;exact⟨rfl,hks.out⟩
open Hg (OL JC De)
section
attribute [local go_sem] Oper.semAt_some
theorem OX(W:World)(o1 o2:Obj):Below W.heap.size W ((W.alloc o1).alloc o2)∧((W.alloc o1).alloc o2).heap[W.heap.size]? =some o1∧((W.alloc o1).alloc o2).heap[W.heap.size+1]? =some o2∧((W.alloc o1).alloc o2).heap.size=W.heap.size+2:=by
 have h:=AX (W.alloc o1) o2;rw[show(W.alloc o1).heap.size=W.heap.size+1 by simp] at h;exact⟨((AL).alloc AA _).alloc (by simp) _,(heap_alloc_old _ _ (by simp)).trans (AX W _),h,by simp⟩
structure KU (M:Nat→Option Hg.Node) (par:Nat→Nat×Int) (F:Nat) (xs:List (Nat×Hg.Node)):Prop where
 tree:∃F R,OL M F R
 walk:wk M F [1] []=some xs
 f:F≤1000000
 id:∀x∈xs,x.1 < Ah
 kind:∀x∈xs,1≤x.2.kind∧x.2.kind≤20
 kids:∀x∈xs,CF M x.2
 parts:∀x∈xs,FM M x.2
 root:∀x∈xs,x.2.kind=1↔x.1=1
 rets:∀x∈xs,x.2.kind=5→JC M par x.1 x.2=true
 deep:∀x∈xs,x.2.kind=3→De M 201 x.1≤90
def shA(p1 p2 p3 p4:Value)(a:Act):Prop:=∃u0 u5 u6 u7 u8 u9 u10 u11 u12 u13 u14 u15 u16 u17 u18 u19 u20 u21 u22 u23 u24 u25 u26 u27 u28 u29 u30 u31 u32 u33 u34 u35 u36 u37 u38 u39 u40 u41 u42 u43 u44 u45 u46 u47 u48 u49 u50 u51 u52 u53 u54 u55 u56 u57 u58 u59 u60 u61 u62 u63 u64 u65 u66 u67 u68 u69 u70 u71 u72:Value,a={tmps:= #[u0,p1,p2,p3,p4,u5,u6,u7,u8,u9,u10,u11,u12,u13,u14,u15,u16,u17,u18,u19,u20,u21,u22,u23,u24,u25,u26,u27,u28,u29,u30,u31,u32,u33,u34,u35,u36,u37,u38,u39,u40,u41,u42,u43,u44,u45,u46,u47,u48,u49,u50,u51,u52,u53,u54,u55,u56,u57,u58,u59,u60,u61,u62,u63,u64,u65,u66,u67,u68,u69,u70,u71,u72],defers:=[]}
def shB(p1 p2 p5 p6:Value)(a:Act):Prop:=∃u0 u3 u4 u7 u8 u9 u10 u11 u12 u13 u14 u15 u16 u17 u18 u19 u20 u21 u22 u23 u24 u25 u26 u27 u28 u29 u30 u31 u32 u33 u34 u35 u36 u37 u38 u39 u40 u41 u42 u43 u44 u45 u46 u47 u48 u49 u50 u51 u52 u53 u54 u55 u56 u57 u58 u59 u60 u61 u62 u63 u64 u65 u66 u67 u68 u69 u70 u71 u72:Value,a={tmps:= #[u0,p1,p2,u3,u4,p5,p6,u7,u8,u9,u10,u11,u12,u13,u14,u15,u16,u17,u18,u19,u20,u21,u22,u23,u24,u25,u26,u27,u28,u29,u30,u31,u32,u33,u34,u35,u36,u37,u38,u39,u40,u41,u42,u43,u44,u45,u46,u47,u48,u49,u50,u51,u52,u53,u54,u55,u56,u57,u58,u59,u60,u61,u62,u63,u64,u65,u66,u67,u68,u69,u70,u71,u72],defers:=[]}
def ShR(ab B:Nat)(S:Nat→Prop)(x:Au)(a:Act)(A:World):Prop:=
 ∃S0 blk,BoxI ab B S0 A∧shA (.pointer (some ⟨B,0,none⟩)) (.pointer (some ⟨B+1,0,none⟩)) (idV x.id) (.pointer (some ⟨blk,0,none⟩)) a∧A.heap[blk]? =some (.cells (AZ x.nd x.ka x.kc) 48 (0,0))∧x.At A∧(∀q,S q↔S0 q∨q=blk)∧¬S0 blk
def ShQ(ab B:Nat)(S:Nat→Prop)(x:Au)(a:Act)(A:World):Prop:=
 ∃S0 blk,BoxI ab B S0 A∧shB (.pointer (some ⟨B,0,none⟩)) (.pointer (some ⟨B+1,0,none⟩)) (idV x.id) (.pointer (some ⟨blk,0,none⟩)) a∧A.heap[blk]? =some (.cells (AZ x.nd x.ka x.kc) 48 (0,0))∧(∀q,S q↔S0 q∨q=blk)∧¬S0 blk
theorem Lx(ab:Nat)(M:Nat→Option Hg.Node)(par:Nat→Nat×Int)(hp:LY M par)(F:Nat)(xs:List (Nat×Hg.Node))(w:World)(hA:ArOk w ab M)(hT:Cv w)(hS:KU M par F xs):
 Calls Tryz.prog 47 #[.pointer (some ⟨ab,0,none⟩)] w fun e w'=>e= .returned (.bool true)∧Below w.heap.size w w':=by
 obtain⟨F0,R0,htree⟩:=hS.tree;have HP:=zz hp;have HA:=zz hA;have HSH:=zz hS;have HTB:=zz hT;have TW:=zz (Jf ab 1);have TR:=zz (H9 ab);have TT:=zz (fun W (h:Below w.heap.size w W)=>VP ab M F0 R0 W (hA.below h) htree);obtain⟨⟨mb,c,hAr⟩,hkb⟩:=hA;have HAR:=zz hAr;have HKB:=zz hkb;clear hAr hkb htree hS hT hp;refine(callsIn_wide (n:=5)).1 (callsIn_of_wp_marks Tryz.func47 rfl trivial ?_ rfl);simp only[Tryz.ntmps47,List.size_toArray,List.length_cons,List.length_nil,Nat.reduceAdd,Nat.reduceSub,Array.replicate_succ,Array.replicate_zero,List.push_toArray,List.append_toArray,List.nil_append,List.cons_append];gi_wp2_with fail;obtain⟨hb0,h0,h1,hz⟩:=OX w (.cells #[.pointer (some ⟨ab,0,none⟩)] 25) (.cells #[.bool false] 4);generalize World.alloc (World.alloc w _) _=W0 at hb0 h0 h1 hz⊢;refine⟨trivial,(callsIn_wide.2 (TT.out _ hb0)).mono ?_⟩;rintro e WT ⟨rfl,hbT⟩;have hbw:=hb0.trans (hbT.mono hb0.size);have hBx:=(hbT.block w.heap.size (by omega)).trans h0;have hRx:=(hbT.block (w.heap.size+1) (by omega)).trans h1;have hzw:w.heap.size+2≤WT.heap.size:=by have:=hbT.size;omega
 generalize Value.bool false=r0 at hRx;clear hb0 h0 h1 hz hbT TT;gi_wp2;refine wpIn_wide.2 (La ?_);have e0:=AJ WT w.heap.size 0 _ _ (0,0) hBx;simp at e0;have hHeld:(fun w'=>w'.cell? ⟨w.heap.size,0,none⟩=some (.pointer (some ⟨ab,0,none⟩))) (WT).drew:=e0;refine Ap (fun w'=>w'.cell? ⟨w.heap.size,0,none⟩=some (.pointer (some ⟨ab,0,none⟩))) 3 (by kernel_rfl) ?_;refine tz 0 ?_;refine tz 1 ?_;refine AU (i:=2) rfl (by kernel_rfl) (fun K hK=> ?_);go_simp;refine(TR.out _).mono ?_;rintro e w1 ⟨rfl,rfl⟩;refine hK.out _ _ (hHeld) (fun hHeld=> ?_);clear hK K
 try simp only[Act.put,sA,sB,sC,sD,sE,sF]
 refine Ag (by kernel_rfl) ?_;simp only[List.drop_succ_cons,List.drop_zero];go_wp2_with fail;refine(TW.out _).mono ?_;rintro e w1 ⟨rfl,rfl⟩;have hdz:(WT).drew.heap.size=(WT).heap.size:=rfl;obtain⟨hbW,k1,k2,hzW⟩:=OX (WT).drew (.cells #[.pointer (some ⟨ab,0,none⟩)] 25) (.cells #[idV 1] 45);rw[hdz] at hbW k1 k2 hzW⊢;generalize World.alloc (World.alloc (WT).drew _) _=W1 at hbW k1 k2 hzW⊢;have hbW:Below (WT).heap.size WT W1:=((AL).drew).trans hbW;generalize hnz:(WT).heap.size=nz at hbW k1 k2 hzW hzw⊢;have g0:(W1).heap[w.heap.size]? =some (.cells #[.pointer (some ⟨ab,0,none⟩)] 25 (0,0)):=(hbW.block _ (by omega)).trans hBx;have g1:(W1).heap[w.heap.size+1]? =some (.cells #[r0] 4 (0,0)):=(hbW.block _ (by omega)).trans hRx;have hb1:Below w.heap.size w W1:=hbw.trans (hbW.mono (by omega));have hseq:=Hw ab mb c M w.heap.size 1 (nz+1) nz F xs W1 (fun W' hf=>HAR.out.below (hb1.trans (hf.below' (by omega))) AA) (AJ W1 (nz+1) 0 _ _ (0,0) k2) (AJ W1 nz 0 _ _ (0,0) k1) ⟨by omega,by omega,by omega,by omega⟩ (by decide) HKB.out HSH.out.walk HSH.out.f;have HB1:=zz hb1;have HARW:=zz (show∀W',Fr (fun q=>w.heap.size≤q) W1 W'→ArOk W' ab M from fun W' hf=>HA.out.below (hb1.trans (hf.below' (by omega))));have HBN:=zz (And.intro hnz hbW);clear k1 k2 hHeld hBx hRx hbw hbW e0 hb1 hdz hnz;go_wp2;gi_wp2;refine GI (gf:=129) rfl (enters_of Tryz.func129 (by kernel_rfl) rfl) hseq (Fr.refl _ _) rfl (fun q h=>by rcases h with h|h <;>omega) (by omega)
  (fun S _ A=>BoxI ab w.heap.size S A) (fun _ _ _ _=>False) (fun S _ x a A=>ShR ab w.heap.size S x a A) (fun S pre A A' h hf=>h.fr hf) (fun _ _ _ _ _ h _=>h) ?hI1 (fun S pre A h q hq=>(h.lt q hq).2) ?hI1l
  (fun q=>q=w.heap.size∨q=w.heap.size+1) ⟨g0,⟨_,g1⟩,fun q=>Iff.rfl⟩ (fun q e=>by rcases e with e|e <;>subst e <;>exact⟨by omega,by omega,by omega⟩) ?assign ?body ?done ?stop
 case hI1=>
  rintro S pre x a A A' ⟨S0,blk,hi,ha,hb,hx,hS,hn⟩ hf;exact⟨S0,blk,hi.fr (hf.imp (fun q _ h h'=>h (.inl ((hS q).2 (.inl h'))))),ha,hf.at_ hb (fun h=>h (.inl ((hS blk).2 (.inr rfl)))),(hx.fr AA hf (fun q e h=>h (.inr e))).more hf.size,hS,hn⟩
 case hI1l=>
  rintro S pre x a A ⟨S0,blk,hi,ha,hb,hx,hS,hn⟩ q hq;rcases(hS q).1 hq with h|h
  ·exact(hi.lt q h).2
  ·subst h;exact(Ab.1 hb).1
 case assign=>
  intro l m S pre x A K hi hpre hx hkb hf hK;gi_wp2;refine hK (fun q=>S q∨q=A.heap.size) _ _ ⟨S,A.heap.size,hi.fr ((Fr.refl _ _).alloc _), ?_,AX A _,Sl.alloc hx AA _|>.more (by simp),fun q=>Iff.rfl,fun h=>by have:=(hi.lt _ h).2;omega⟩ ((Fr.refl _ _).alloc _) (fun q h=>h.imp (fun h=>h) (fun h=>by omega));exact⟨_,_,_,_,_,_,_,_,_,_,_,_,_,_,_,_,_,_,_,_,_,_,_,_,_,_,_,_,_,_,_,_,_,_,_,_,_,_,_,_,_,_,_,_,_,_,_,_,_,_,_,_,_,_,_,_,_,_,_,_,_,_,_,_,_,_,_,_,_,rfl⟩
 case body=>
  rintro l m S pre x a1 A ⟨S0,blk,⟨hbx,⟨r0,hbr⟩,hSv⟩,ha,hb,hx,hS,hn⟩ hpre hf;obtain⟨u0,u5,u6,u7,u8,u9,u10,u11,u12,u13,u14,u15,u16,u17,u18,u19,u20,u21,u22,u23,u24,u25,u26,u27,u28,u29,u30,u31,u32,u33,u34,u35,u36,u37,u38,u39,u40,u41,u42,u43,u44,u45,u46,u47,u48,u49,u50,u51,u52,u53,u54,u55,u56,u57,u58,u59,u60,u61,u62,u63,u64,u65,u66,u67,u68,u69,u70,u71,u72,rfl⟩:=ha;have hxm:x.strip∈xs:=hpre.subset (by simp);have hf2:Fr (fun q=>w.heap.size≤q) W1 A:=hf.imp (fun q _ e=>by rcases e with(e|e)|e|e <;>omega);have hAA:=HARW.out A hf2;have hTA:=HTB.out.block ((HB1.out.trans (hf2.below' (by omega))).block _ HTB.out.lt);obtain⟨xi,nd,ka,kc⟩:=x;have hxm:(xi,nd)∈xs:=hxm;have hMx:=Hg.JP M F _ _ _ HSH.out.walk _ hxm;have hkt:=HKB.out xi nd hMx;have hnl:=HA.out.len xi;unfold ndAt at hnl;rw[hMx] at hnl;have hnl:nd.kids.length≤1000000:=hnl;have hkd:=HSH.out.kind _ hxm;have hrt:=HSH.out.root _ hxm;have hre:=HSH.out.rets _ hxm;have hki:=HSH.out.kids _ hxm;have hpa:=HSH.out.parts _ hxm;dsimp only at hkd hrt hre hki hpa;have hx:Sl A A.heap.size (.slice ka nd.kids.length kc) nd.kids.length (nd.kids.map idV):=hx;have TK:=zz (fun W (h:Below A.heap.size A W)=>Tw ab M nd ka kc W (hAA.below h) ((hx.below h AA).more h.size) hnl hkt hki);have TP:=zz (fun W (h:Below A.heap.size A W)=>UL ab M HP.out.zero nd ka kc W (hAA.below h) (hTA.block (h.block _ hTA.lt)) hpa);have TQ:=zz (fun W (h:Below A.heap.size A W)=>Pg ab M par HP.out xi nd ka kc W (hAA.below h) ((hx.below h AA).more h.size) hnl hkt);have hbl:=(Ab.1 hb).1;have hBl:=(Ab.1 hbx).1;have hnx:¬(fun _:Nat=>False) w.heap.size:=fun h=>h;have hnr:¬(fun _:Nat=>False) (w.heap.size+1):=fun h=>h;have eB:=AJ A w.heap.size 0 _ _ (0,0) hbx;have y:=fun i=>AJ A blk i _ _ (0,0) hb;have y0:=y 0;have y1:=y 1;have y2:=y 2;have y3:=y 3;have y4:=y 4;have y5:=y 5;simp at eB y0 y1 y2 y3 y4 y5;have hHeld:(fun w'=>w'.cell? ⟨w.heap.size,0,none⟩=some (.pointer (some ⟨ab,0,none⟩))∧w'.cell? ⟨blk,0,none⟩=some (.int .u8 (nd.kind:Int))∧w'.cell? ⟨blk,1,none⟩=some (strV nd.name)∧w'.cell? ⟨blk,2,none⟩=some (.int .i64 nd.num)∧w'.cell? ⟨blk,3,none⟩=some (.int .u8 (nd.type:Int))∧w'.cell? ⟨blk,4,none⟩=some (.int .u64 (nd.ref:Int))∧w'.cell? ⟨blk,5,none⟩=some (.slice ka nd.kids.length kc)) A.drew:=⟨eB,y0,y1,y2,y3,y4,y5⟩;have hHeld0:=hHeld;have HBc:=zz (Below.refl A.heap.size A);have q1:decide ((nd.kind:Int) < 1)=false:=by simp;omega
  have q2:decide ((20:Int) < (nd.kind:Int))=false:=by simp;omega
  have q3:decide (20 < nd.kind)=false:=by simp;omega
  have q4:¬nd.kind=0:=by omega
  clear hpre hf hf2 hAA hTA hMx hkt hki hpa eB y y0 y1 y2 y3 y4 y5 hkd;by_cases hk1:nd.kind=1
  ·have hx1:=hrt.1 hk1
   subst hx1;have q7:((nd.kind:Int)==1)=true:=by simp[hk1]
   have q5:((nd.kind:Int)==5)=false:=by simp[hk1]
   clear hk1 hrt hre TQ;gi_wp2;refine CX (fun w'=>w'.cell? ⟨w.heap.size,0,none⟩=some (.pointer (some ⟨ab,0,none⟩))∧w'.cell? ⟨blk,0,none⟩=some (.int .u8 (nd.kind:Int))∧w'.cell? ⟨blk,1,none⟩=some (strV nd.name)∧w'.cell? ⟨blk,2,none⟩=some (.int .i64 nd.num)∧w'.cell? ⟨blk,3,none⟩=some (.int .u8 (nd.type:Int))∧w'.cell? ⟨blk,4,none⟩=some (.int .u64 (nd.ref:Int))∧w'.cell? ⟨blk,5,none⟩=some (.slice ka nd.kids.length kc)) 41 (by kernel_rfl) (by kernel_rfl) (by rintro⟨_,_,h⟩;exact h) ?_;refine tz 0 ?_;refine tz 1 ?_;refine tz 2 ?_;refine tz 3 ?_;refine tz 4 ?_;refine tz 5 ?_;refine tz 6 ?_;refine tz 7 ?_;refine tz 8 ?_;refine tz 9 ?_;refine tz 10 ?_;refine AU (i:=11) rfl (by kernel_rfl) (fun K hK=> ?_);go_simp;refine Calls.mono (TK.out _ (by first|exact HBc.out|exact HBc.out.drew|exact HBc.out.drew.drew)) ?_;rintro e w5 ⟨rfl,hb5⟩;have HBc:=zz (show Below A.heap.size A w5 from by first|exact HBc.out.trans (hb5.mono HBc.out.size)|exact HBc.out.drew.trans (hb5.mono HBc.out.drew.size));clear hb5 TK;refine hK.out _ _ (⟨(HBc.out.cell (p:=⟨w.heap.size,0,none⟩) hBl).trans hHeld0.1,(HBc.out.cell (p:=⟨blk,0,none⟩) hbl).trans hHeld0.2.1,(HBc.out.cell (p:=⟨blk,1,none⟩) hbl).trans hHeld0.2.2.1,(HBc.out.cell (p:=⟨blk,2,none⟩) hbl).trans hHeld0.2.2.2.1,(HBc.out.cell (p:=⟨blk,3,none⟩) hbl).trans hHeld0.2.2.2.2.1,(HBc.out.cell (p:=⟨blk,4,none⟩) hbl).trans hHeld0.2.2.2.2.2.1,(HBc.out.cell (p:=⟨blk,5,none⟩) hbl).trans hHeld0.2.2.2.2.2.2⟩) (fun hHeld=> ?_);clear hK K
   try simp only[Act.put,sA,sB,sC,sD,sE,sF]
   refine tz 12 ?_;refine tz 13 ?_;refine tz 14 ?_;refine tz 15 ?_;refine tz 16 ?_;refine AU (i:=17) rfl (by kernel_rfl) (fun K hK=> ?_);go_simp;refine Calls.mono (TP.out _ (by first|exact HBc.out|exact HBc.out.drew|exact HBc.out.drew.drew)) ?_;rintro e w6 ⟨rfl,hb5⟩;have HBc:=zz (show Below A.heap.size A w6 from by first|exact HBc.out.trans (hb5.mono HBc.out.size)|exact HBc.out.drew.trans (hb5.mono HBc.out.drew.size));clear hb5 TP;refine hK.out _ _ (⟨(HBc.out.cell (p:=⟨w.heap.size,0,none⟩) hBl).trans hHeld0.1,(HBc.out.cell (p:=⟨blk,0,none⟩) hbl).trans hHeld0.2.1,(HBc.out.cell (p:=⟨blk,1,none⟩) hbl).trans hHeld0.2.2.1,(HBc.out.cell (p:=⟨blk,2,none⟩) hbl).trans hHeld0.2.2.2.1,(HBc.out.cell (p:=⟨blk,3,none⟩) hbl).trans hHeld0.2.2.2.2.1,(HBc.out.cell (p:=⟨blk,4,none⟩) hbl).trans hHeld0.2.2.2.2.2.1,(HBc.out.cell (p:=⟨blk,5,none⟩) hbl).trans hHeld0.2.2.2.2.2.2⟩) (fun hHeld=> ?_);clear hK K
   try simp only[Act.put,sA,sB,sC,sD,sE,sF]
   refine tz 18 ?_;refine tz 19 ?_;refine tz 20 ?_;refine tz 21 ?_;refine tz 22 ?_;refine tz 23 ?_;refine tz 24 ?_;refine tz 25 ?_;refine AU (i:=26) rfl (by kernel_rfl) (fun K hK=> ?_);go_simp;refine(TR.out _).mono ?_;rintro e w8 ⟨rfl,rfl⟩;refine hK.out _ _ (hHeld) (fun hHeld=> ?_);clear hK K
   try simp only[Act.put,sA,sB,sC,sD,sE,sF]
   refine tz 27 ?_;refine tz 28 ?_;refine tz 29 ?_;refine tz 30 ?_;refine tz 31 ?_;refine tz 32 ?_;refine tz 33 ?_;refine tz 34 ?_;refine Ac (i:=35) rfl (by kernel_rfl) (fun _ _ _ h=>h) (by assumption) (Or.inr ⟨by rfl,rfl⟩) ?_
   try simp only[Act.put,sA,sB,sC,sD,sE,sF]
   refine Ac (i:=36) rfl (by kernel_rfl) (fun _ _ _ h=>h) (by assumption) (Or.inr ⟨by rfl,rfl⟩) ?_
   try simp only[Act.put,sA,sB,sC,sD,sE,sF]
   refine Ac (i:=37) rfl (by kernel_rfl) (fun _ _ _ h=>h) (by assumption) (Or.inr ⟨by rfl,rfl⟩) ?_
   try simp only[Act.put,sA,sB,sC,sD,sE,sF]
   refine Ac (i:=38) rfl (by kernel_rfl) (fun _ _ _ h=>h) (by assumption) (Or.inr ⟨by rfl,rfl⟩) ?_
   try simp only[Act.put,sA,sB,sC,sD,sE,sF]
   refine Ac (i:=39) rfl (by kernel_rfl) (fun _ _ _ h=>h) (by assumption) (Or.inr ⟨by rfl,rfl⟩) ?_
   try simp only[Act.put,sA,sB,sC,sD,sE,sF]
   refine tz 40 ?_;refine Ag (by kernel_rfl) ?_;simp only[List.drop_succ_cons,List.drop_zero];have HFA:Fr (fun _=>False) A _:=Fr.of_below HBc.out;clear hHeld hHeld0;have HFR:=zz HFA;clear HFA;go_wp2;gi_wp2;exact⟨S0,⟨HFR.out.at_ hbx hnx,⟨r0,HFR.out.at_ hbr hnr⟩,hSv⟩,HFR.out.imp (fun q _ e=>e.elim),fun q h=> .inl ((hS q).2 (.inl h))⟩
  ·have hx1:xi≠1:=fun e=>hk1 (hrt.2 e)
   have q7:((nd.kind:Int)==1)=false:=by simp;omega
   have q8:((xi:Int)==1)=false:=by simp;omega
   by_cases k5:nd.kind=5
   ·have q5:((nd.kind:Int)==5)=true:=by simp[k5]
    have hr5:=hre k5;have TQ2:=TQ.out;simp only[hr5] at TQ2;have TQ:=zz TQ2;clear k5 hk1 hx1 hrt hre hr5 TQ2;gi_wp2;refine CX (fun w'=>w'.cell? ⟨w.heap.size,0,none⟩=some (.pointer (some ⟨ab,0,none⟩))∧w'.cell? ⟨blk,0,none⟩=some (.int .u8 (nd.kind:Int))∧w'.cell? ⟨blk,1,none⟩=some (strV nd.name)∧w'.cell? ⟨blk,2,none⟩=some (.int .i64 nd.num)∧w'.cell? ⟨blk,3,none⟩=some (.int .u8 (nd.type:Int))∧w'.cell? ⟨blk,4,none⟩=some (.int .u64 (nd.ref:Int))∧w'.cell? ⟨blk,5,none⟩=some (.slice ka nd.kids.length kc)) 41 (by kernel_rfl) (by kernel_rfl) (by rintro⟨_,_,h⟩;exact h) ?_;refine tz 0 ?_;refine tz 1 ?_;refine tz 2 ?_;refine tz 3 ?_;refine tz 4 ?_;refine tz 5 ?_;refine tz 6 ?_;refine tz 7 ?_;refine tz 8 ?_;refine tz 9 ?_;refine tz 10 ?_;refine AU (i:=11) rfl (by kernel_rfl) (fun K hK=> ?_);go_simp;refine Calls.mono (TK.out _ (by first|exact HBc.out|exact HBc.out.drew|exact HBc.out.drew.drew)) ?_;rintro e w5 ⟨rfl,hb5⟩;have HBc:=zz (show Below A.heap.size A w5 from by first|exact HBc.out.trans (hb5.mono HBc.out.size)|exact HBc.out.drew.trans (hb5.mono HBc.out.drew.size));clear hb5 TK;refine hK.out _ _ (⟨(HBc.out.cell (p:=⟨w.heap.size,0,none⟩) hBl).trans hHeld0.1,(HBc.out.cell (p:=⟨blk,0,none⟩) hbl).trans hHeld0.2.1,(HBc.out.cell (p:=⟨blk,1,none⟩) hbl).trans hHeld0.2.2.1,(HBc.out.cell (p:=⟨blk,2,none⟩) hbl).trans hHeld0.2.2.2.1,(HBc.out.cell (p:=⟨blk,3,none⟩) hbl).trans hHeld0.2.2.2.2.1,(HBc.out.cell (p:=⟨blk,4,none⟩) hbl).trans hHeld0.2.2.2.2.2.1,(HBc.out.cell (p:=⟨blk,5,none⟩) hbl).trans hHeld0.2.2.2.2.2.2⟩) (fun hHeld=> ?_);clear hK K
    try simp only[Act.put,sA,sB,sC,sD,sE,sF]
    refine tz 12 ?_;refine tz 13 ?_;refine tz 14 ?_;refine tz 15 ?_;refine tz 16 ?_;refine AU (i:=17) rfl (by kernel_rfl) (fun K hK=> ?_);go_simp;refine Calls.mono (TP.out _ (by first|exact HBc.out|exact HBc.out.drew|exact HBc.out.drew.drew)) ?_;rintro e w6 ⟨rfl,hb5⟩;have HBc:=zz (show Below A.heap.size A w6 from by first|exact HBc.out.trans (hb5.mono HBc.out.size)|exact HBc.out.drew.trans (hb5.mono HBc.out.drew.size));clear hb5 TP;refine hK.out _ _ (⟨(HBc.out.cell (p:=⟨w.heap.size,0,none⟩) hBl).trans hHeld0.1,(HBc.out.cell (p:=⟨blk,0,none⟩) hbl).trans hHeld0.2.1,(HBc.out.cell (p:=⟨blk,1,none⟩) hbl).trans hHeld0.2.2.1,(HBc.out.cell (p:=⟨blk,2,none⟩) hbl).trans hHeld0.2.2.2.1,(HBc.out.cell (p:=⟨blk,3,none⟩) hbl).trans hHeld0.2.2.2.2.1,(HBc.out.cell (p:=⟨blk,4,none⟩) hbl).trans hHeld0.2.2.2.2.2.1,(HBc.out.cell (p:=⟨blk,5,none⟩) hbl).trans hHeld0.2.2.2.2.2.2⟩) (fun hHeld=> ?_);clear hK K
    try simp only[Act.put,sA,sB,sC,sD,sE,sF]
    refine tz 18 ?_;refine tz 19 ?_;refine tz 20 ?_;refine tz 21 ?_;refine tz 22 ?_;refine tz 23 ?_;refine tz 24 ?_;refine tz 25 ?_;refine AU (i:=26) rfl (by kernel_rfl) (fun K hK=> ?_);go_simp;refine(TR.out _).mono ?_;rintro e w8 ⟨rfl,rfl⟩;refine hK.out _ _ (hHeld) (fun hHeld=> ?_);clear hK K
    try simp only[Act.put,sA,sB,sC,sD,sE,sF]
    refine tz 27 ?_;refine tz 28 ?_;refine tz 29 ?_;refine tz 30 ?_;refine tz 31 ?_;refine tz 32 ?_;refine tz 33 ?_;refine tz 34 ?_;refine tz 35 ?_;refine tz 36 ?_;refine tz 37 ?_;refine AU (i:=38) rfl (by kernel_rfl) (fun K hK=> ?_);go_simp;refine Calls.mono (TQ.out _ (by first|exact HBc.out|exact HBc.out.drew|exact HBc.out.drew.drew)) ?_;rintro e w7 ⟨rfl,hb5⟩;have HBc:=zz (show Below A.heap.size A w7 from by first|exact HBc.out.trans (hb5.mono HBc.out.size)|exact HBc.out.drew.trans (hb5.mono HBc.out.drew.size));clear hb5 TQ;refine hK.out _ _ (⟨(HBc.out.cell (p:=⟨w.heap.size,0,none⟩) hBl).trans hHeld0.1,(HBc.out.cell (p:=⟨blk,0,none⟩) hbl).trans hHeld0.2.1,(HBc.out.cell (p:=⟨blk,1,none⟩) hbl).trans hHeld0.2.2.1,(HBc.out.cell (p:=⟨blk,2,none⟩) hbl).trans hHeld0.2.2.2.1,(HBc.out.cell (p:=⟨blk,3,none⟩) hbl).trans hHeld0.2.2.2.2.1,(HBc.out.cell (p:=⟨blk,4,none⟩) hbl).trans hHeld0.2.2.2.2.2.1,(HBc.out.cell (p:=⟨blk,5,none⟩) hbl).trans hHeld0.2.2.2.2.2.2⟩) (fun hHeld=> ?_);clear hK K
    try simp only[Act.put,sA,sB,sC,sD,sE,sF]
    refine tz 39 ?_;refine tz 40 ?_;refine Ag (by kernel_rfl) ?_;simp only[List.drop_succ_cons,List.drop_zero];have HFA:Fr (fun _=>False) A _:=Fr.of_below HBc.out;clear hHeld hHeld0;have HFR:=zz HFA;clear HFA;go_wp2;gi_wp2;exact⟨S0,⟨HFR.out.at_ hbx hnx,⟨r0,HFR.out.at_ hbr hnr⟩,hSv⟩,HFR.out.imp (fun q _ e=>e.elim),fun q h=> .inl ((hS q).2 (.inl h))⟩
   ·have q5:((nd.kind:Int)==5)=false:=by simp;omega
    clear k5 hk1 hx1 hrt hre TQ;gi_wp2;refine CX (fun w'=>w'.cell? ⟨w.heap.size,0,none⟩=some (.pointer (some ⟨ab,0,none⟩))∧w'.cell? ⟨blk,0,none⟩=some (.int .u8 (nd.kind:Int))∧w'.cell? ⟨blk,1,none⟩=some (strV nd.name)∧w'.cell? ⟨blk,2,none⟩=some (.int .i64 nd.num)∧w'.cell? ⟨blk,3,none⟩=some (.int .u8 (nd.type:Int))∧w'.cell? ⟨blk,4,none⟩=some (.int .u64 (nd.ref:Int))∧w'.cell? ⟨blk,5,none⟩=some (.slice ka nd.kids.length kc)) 41 (by kernel_rfl) (by kernel_rfl) (by rintro⟨_,_,h⟩;exact h) ?_;refine tz 0 ?_;refine tz 1 ?_;refine tz 2 ?_;refine tz 3 ?_;refine tz 4 ?_;refine tz 5 ?_;refine tz 6 ?_;refine tz 7 ?_;refine tz 8 ?_;refine tz 9 ?_;refine tz 10 ?_;refine AU (i:=11) rfl (by kernel_rfl) (fun K hK=> ?_);go_simp;refine Calls.mono (TK.out _ (by first|exact HBc.out|exact HBc.out.drew|exact HBc.out.drew.drew)) ?_;rintro e w5 ⟨rfl,hb5⟩;have HBc:=zz (show Below A.heap.size A w5 from by first|exact HBc.out.trans (hb5.mono HBc.out.size)|exact HBc.out.drew.trans (hb5.mono HBc.out.drew.size));clear hb5 TK;refine hK.out _ _ (⟨(HBc.out.cell (p:=⟨w.heap.size,0,none⟩) hBl).trans hHeld0.1,(HBc.out.cell (p:=⟨blk,0,none⟩) hbl).trans hHeld0.2.1,(HBc.out.cell (p:=⟨blk,1,none⟩) hbl).trans hHeld0.2.2.1,(HBc.out.cell (p:=⟨blk,2,none⟩) hbl).trans hHeld0.2.2.2.1,(HBc.out.cell (p:=⟨blk,3,none⟩) hbl).trans hHeld0.2.2.2.2.1,(HBc.out.cell (p:=⟨blk,4,none⟩) hbl).trans hHeld0.2.2.2.2.2.1,(HBc.out.cell (p:=⟨blk,5,none⟩) hbl).trans hHeld0.2.2.2.2.2.2⟩) (fun hHeld=> ?_);clear hK K
    try simp only[Act.put,sA,sB,sC,sD,sE,sF]
    refine tz 12 ?_;refine tz 13 ?_;refine tz 14 ?_;refine tz 15 ?_;refine tz 16 ?_;refine AU (i:=17) rfl (by kernel_rfl) (fun K hK=> ?_);go_simp;refine Calls.mono (TP.out _ (by first|exact HBc.out|exact HBc.out.drew|exact HBc.out.drew.drew)) ?_;rintro e w6 ⟨rfl,hb5⟩;have HBc:=zz (show Below A.heap.size A w6 from by first|exact HBc.out.trans (hb5.mono HBc.out.size)|exact HBc.out.drew.trans (hb5.mono HBc.out.drew.size));clear hb5 TP;refine hK.out _ _ (⟨(HBc.out.cell (p:=⟨w.heap.size,0,none⟩) hBl).trans hHeld0.1,(HBc.out.cell (p:=⟨blk,0,none⟩) hbl).trans hHeld0.2.1,(HBc.out.cell (p:=⟨blk,1,none⟩) hbl).trans hHeld0.2.2.1,(HBc.out.cell (p:=⟨blk,2,none⟩) hbl).trans hHeld0.2.2.2.1,(HBc.out.cell (p:=⟨blk,3,none⟩) hbl).trans hHeld0.2.2.2.2.1,(HBc.out.cell (p:=⟨blk,4,none⟩) hbl).trans hHeld0.2.2.2.2.2.1,(HBc.out.cell (p:=⟨blk,5,none⟩) hbl).trans hHeld0.2.2.2.2.2.2⟩) (fun hHeld=> ?_);clear hK K
    try simp only[Act.put,sA,sB,sC,sD,sE,sF]
    refine tz 18 ?_;refine tz 19 ?_;refine tz 20 ?_;refine tz 21 ?_;refine tz 22 ?_;refine tz 23 ?_;refine tz 24 ?_;refine tz 25 ?_;refine AU (i:=26) rfl (by kernel_rfl) (fun K hK=> ?_);go_simp;refine(TR.out _).mono ?_;rintro e w8 ⟨rfl,rfl⟩;refine hK.out _ _ (hHeld) (fun hHeld=> ?_);clear hK K
    try simp only[Act.put,sA,sB,sC,sD,sE,sF]
    refine tz 27 ?_;refine tz 28 ?_;refine tz 29 ?_;refine tz 30 ?_;refine tz 31 ?_;refine tz 32 ?_;refine tz 33 ?_;refine tz 34 ?_;refine Ac (i:=35) rfl (by kernel_rfl) (fun _ _ _ h=>h) (by assumption) (Or.inr ⟨by rfl,rfl⟩) ?_
    try simp only[Act.put,sA,sB,sC,sD,sE,sF]
    refine Ac (i:=36) rfl (by kernel_rfl) (fun _ _ _ h=>h) (by assumption) (Or.inr ⟨by rfl,rfl⟩) ?_
    try simp only[Act.put,sA,sB,sC,sD,sE,sF]
    refine Ac (i:=37) rfl (by kernel_rfl) (fun _ _ _ h=>h) (by assumption) (Or.inr ⟨by rfl,rfl⟩) ?_
    try simp only[Act.put,sA,sB,sC,sD,sE,sF]
    refine Ac (i:=38) rfl (by kernel_rfl) (fun _ _ _ h=>h) (by assumption) (Or.inr ⟨by rfl,rfl⟩) ?_
    try simp only[Act.put,sA,sB,sC,sD,sE,sF]
    refine Ac (i:=39) rfl (by kernel_rfl) (fun _ _ _ h=>h) (by assumption) (Or.inr ⟨by rfl,rfl⟩) ?_
    try simp only[Act.put,sA,sB,sC,sD,sE,sF]
    refine tz 40 ?_;refine Ag (by kernel_rfl) ?_;simp only[List.drop_succ_cons,List.drop_zero];have HFA:Fr (fun _=>False) A _:=Fr.of_below HBc.out;clear hHeld hHeld0;have HFR:=zz HFA;clear HFA;go_wp2;gi_wp2;exact⟨S0,⟨HFR.out.at_ hbx hnx,⟨r0,HFR.out.at_ hbr hnr⟩,hSv⟩,HFR.out.imp (fun q _ e=>e.elim),fun q h=> .inl ((hS q).2 (.inl h))⟩
 case done=>
  rintro S ys W hys ⟨hBx,⟨r0,hRx⟩,hSv⟩ hK hnS hf;have hbw:Below w.heap.size w W:=HB1.out.trans ((hf.imp (D':=fun q=>w.heap.size≤q) (fun q _ e=>by rcases e with(e|e)|e|e <;>omega)).below' HB1.out.size);have hW1W:W1.heap.size < W.heap.size:=(Ab.1 hK).1;have hzw2:w.heap.size+2≤W.heap.size:=by omega
  have HKD:=zz hK;have hW1:w.heap.size+2≤W1.heap.size:=by omega
  clear hys hSv hnS hf hK hzw hzW g0 g1 HB1 HARW hseq;have hzw:=hzw2;clear hzw2;gi_wp2;refine wpIn_wide.2 (La ?_);have e0:=AJ W w.heap.size 0 _ _ (0,0) hBx;simp at e0;have hHeld:(fun w'=>w'.cell? ⟨w.heap.size,0,none⟩=some (.pointer (some ⟨ab,0,none⟩))) (W).drew:=e0;refine Ap (fun w'=>w'.cell? ⟨w.heap.size,0,none⟩=some (.pointer (some ⟨ab,0,none⟩))) 3 (by kernel_rfl) ?_;refine tz 0 ?_;refine tz 1 ?_;refine AU (i:=2) rfl (by kernel_rfl) (fun K hK=> ?_);go_simp;refine(TR.out _).mono ?_;rintro e w1 ⟨rfl,rfl⟩;refine hK.out _ _ (hHeld) (fun hHeld=> ?_);clear hK K
  try simp only[Act.put,sA,sB,sC,sD,sE,sF]
  refine Ag (by kernel_rfl) ?_;simp only[List.drop_succ_cons,List.drop_zero];go_wp2_with fail;refine(TW.out _).mono ?_;rintro e w1 ⟨rfl,rfl⟩;have hdz:(W).drew.heap.size=(W).heap.size:=rfl;obtain⟨hbW,k1,k2,hzW⟩:=OX (W).drew (.cells #[.pointer (some ⟨ab,0,none⟩)] 25) (.cells #[idV 1] 45);rw[hdz] at hbW k1 k2 hzW⊢;generalize World.alloc (World.alloc (W).drew _) _=W2 at hbW k1 k2 hzW⊢;have hbW:Below (W).heap.size W W2:=((AL).drew).trans hbW;generalize hnz:(W).heap.size=nz at hbW k1 k2 hzW hzw⊢;have g0:(W2).heap[w.heap.size]? =some (.cells #[.pointer (some ⟨ab,0,none⟩)] 25 (0,0)):=(hbW.block _ (by omega)).trans hBx;have g1:(W2).heap[w.heap.size+1]? =some (.cells #[r0] 4 (0,0)):=(hbW.block _ (by omega)).trans hRx;have hb1:Below w.heap.size w W2:=hbw.trans (hbW.mono (by omega));have hseq:=Hw ab mb c M w.heap.size 1 (nz+1) nz F xs W2 (fun W' hf=>HAR.out.below (hb1.trans (hf.below' (by omega))) AA) (AJ W2 (nz+1) 0 _ _ (0,0) k2) (AJ W2 nz 0 _ _ (0,0) k1) ⟨by omega,by omega,by omega,by omega⟩ (by decide) HKB.out HSH.out.walk HSH.out.f;have HB1:=zz hb1;have HARW:=zz (show∀W',Fr (fun q=>w.heap.size≤q) W2 W'→ArOk W' ab M from fun W' hf=>HA.out.below (hb1.trans (hf.below' (by omega))));have HBN:=zz (And.intro hnz hbW);clear k1 k2 hHeld hBx hRx hbw hbW e0 hb1 hdz hnz;go_wp2;gi_wp2;have hne0:W.heap.size≠W1.heap.size:=by omega
  refine GI (gf:=129) rfl (enters_of Tryz.func129 (by kernel_rfl) rfl) hseq (Fr.refl _ _) rfl (fun q h=>by rcases h with h|h <;>omega) (by omega)
   (fun S _ A=>BoxI ab w.heap.size S A) (fun _ _ _ _=>False) (fun S _ x a A=>ShQ ab w.heap.size S x a A) (fun S pre A A' h hf=>h.fr hf) (fun _ _ _ _ _ h _=>h) ?hI1z (fun S pre A h q hq=>(h.lt q hq).2) ?hI1lz
   (fun q=>q=w.heap.size∨q=w.heap.size+1) ⟨g0,⟨_,g1⟩,fun q=>Iff.rfl⟩ (fun q e=>by rcases e with e|e <;>subst e <;>exact⟨by omega,by omega,by omega⟩) ?assignz ?bodyz ?donez ?stopz
  case hI1z=>
   rintro S pre x a A A' ⟨S0,blk,hi,ha,hb,hS,hn⟩ hf;exact⟨S0,blk,hi.fr (hf.imp (fun q _ h h'=>h (.inl ((hS q).2 (.inl h'))))),ha,hf.at_ hb (fun h=>h (.inl ((hS blk).2 (.inr rfl)))),hS,hn⟩
  case hI1lz=>
   rintro S pre x a A ⟨S0,blk,hi,ha,hb,hS,hn⟩ q hq;rcases(hS q).1 hq with h|h
   ·exact(hi.lt q h).2
   ·subst h;exact(Ab.1 hb).1
  case assignz=>
   intro l m S pre x A K hi hpre hx hkb hf hK;gi_wp2;refine hK (fun q=>S q∨q=A.heap.size) _ _ ⟨S,A.heap.size,hi.fr ((Fr.refl _ _).alloc _), ?_,AX A _,fun q=>Iff.rfl,fun h=>by have:=(hi.lt _ h).2;omega⟩ ((Fr.refl _ _).alloc _) (fun q h=>h.imp (fun h=>h) (fun h=>by omega));exact⟨_,_,_,_,_,_,_,_,_,_,_,_,_,_,_,_,_,_,_,_,_,_,_,_,_,_,_,_,_,_,_,_,_,_,_,_,_,_,_,_,_,_,_,_,_,_,_,_,_,_,_,_,_,_,_,_,_,_,_,_,_,_,_,_,_,_,_,_,_,rfl⟩
  case bodyz=>
   rintro l m S pre x a1 A ⟨S0,blk,⟨hbx,⟨r0,hbr⟩,hSv⟩,ha,hb,hS,hn⟩ hpre hf;obtain⟨u0,u3,u4,u7,u8,u9,u10,u11,u12,u13,u14,u15,u16,u17,u18,u19,u20,u21,u22,u23,u24,u25,u26,u27,u28,u29,u30,u31,u32,u33,u34,u35,u36,u37,u38,u39,u40,u41,u42,u43,u44,u45,u46,u47,u48,u49,u50,u51,u52,u53,u54,u55,u56,u57,u58,u59,u60,u61,u62,u63,u64,u65,u66,u67,u68,u69,u70,u71,u72,rfl⟩:=ha;have hxm:x.strip∈xs:=hpre.subset (by simp);have hf2:Fr (fun q=>w.heap.size≤q) W2 A:=hf.imp (fun q _ e=>by rcases e with(e|e)|e|e <;>omega);have hAA:=HARW.out A hf2;have hid:=HSH.out.id _ hxm;have hdp:=HSH.out.deep _ hxm;obtain⟨xi,nd,ka,kc⟩:=x;have hid:xi < Ah:=hid;have hdp:nd.kind=3→De M 201 xi≤90:=hdp;have TD:=zz (Uw ab M 201 (by omega) A xi hAA hid);have hbl:=(Ab.1 hb).1;have hnx:¬(fun _:Nat=>False) w.heap.size:=fun h=>h;have hnr:¬(fun _:Nat=>False) (w.heap.size+1):=fun h=>h;have eB:=AJ A w.heap.size 0 _ _ (0,0) hbx;have y0:=AJ A blk 0 _ _ (0,0) hb;simp at eB y0;clear hpre hf hf2 hAA hxm;by_cases k3:nd.kind=3
   ·have q3:((nd.kind:Int)==3)=true:=by simp[k3]
    have hd9:=hdp k3;generalize De M 201 xi=d at TD hd9;have qd:decide ((90:Int) < (d:Int))=false:=by simp;omega
    have qd2:decide (90 < d)=false:=by simp;omega
    clear k3 hdp hd9;gi_wp2_with fail;refine⟨trivial,fun h=>(by cases h),(CallsIn.inRound l (callsIn_wide.2 TD.out)).mono ?_⟩;rintro e w5 ⟨rfl,hb5⟩;have HFA:Fr (fun _=>False) A w5:=Fr.of_below hb5;clear hb5 TD;have HFR:=zz HFA;clear HFA;gi_wp2;exact⟨S0,⟨HFR.out.at_ hbx hnx,⟨r0,HFR.out.at_ hbr hnr⟩,hSv⟩,HFR.out.imp (fun q _ e=>e.elim),fun q h=> .inl ((hS q).2 (.inl h))⟩
   ·have q3:((nd.kind:Int)==3)=false:=by simp;omega
    clear k3 hdp TD;have HFA:Fr (fun _=>False) A A:=Fr.refl _ _;gi_wp2_with fail;refine⟨trivial, ?_⟩;have HFR:=zz HFA;clear HFA;gi_wp2;exact⟨S0,⟨HFR.out.at_ hbx hnx,⟨r0,HFR.out.at_ hbr hnr⟩,hSv⟩,HFR.out.imp (fun q _ e=>e.elim),fun q h=> .inl ((hS q).2 (.inl h))⟩
  case donez=>
   rintro S ys W3 hys ⟨hbx,⟨r0,hbr⟩,hSv⟩ hK hnS hf;have eB:=AJ W3 (w.heap.size+1) 0 _ _ (0,0) hbr;simp at eB;have fB:W3.frozen? ⟨w.heap.size+1,0,none⟩=false:=by simp[World.frozen?,hbr]
   have hl2:=(Ab.1 hbr).1;have hkW:W2.heap[W1.heap.size]? =some (.deferred (some [])):=(HBN.out.2.block _ (by have:=HBN.out.1;omega)).trans HKD.out;have hkW3:W3.heap[W1.heap.size]? =some (.deferred (some [])):=hf.at_ hkW (fun e=>by have:=HBN.out.1;rcases e with(e|e)|e|e <;>omega);have hne2:¬w.heap.size+1=W2.heap.size:=by omega
   have hne1:¬w.heap.size+1=W1.heap.size:=by omega
   have hne3:¬W1.heap.size=W2.heap.size:=by have:=HBN.out.1;omega
   have hK2:(W3.setCell ⟨w.heap.size+1,0,none⟩ (.bool true)).heap[W2.heap.size]? =some (.deferred (some [])):=(Below.heap_setCell W3 ⟨w.heap.size+1,0,none⟩ (.bool true) W2.heap.size (fun e=>hne2 e.symm)).trans hK;have hK1:(W3.setCell ⟨w.heap.size+1,0,none⟩ (.bool true)).heap[W1.heap.size]? =some (.deferred (some [])):=(Below.heap_setCell W3 ⟨w.heap.size+1,0,none⟩ (.bool true) W1.heap.size (fun e=>hne1 e.symm)).trans hkW3;have hfs:=hf.set (p:=⟨w.heap.size+1,0,none⟩) (.inl (.inl (.inr rfl))) (.bool true);have hbs:(W3.setCell ⟨w.heap.size+1,0,none⟩ (.bool true)).heap[w.heap.size+1]? =some (.cells #[.bool true] 4 (0,0)):=heap_setCell_same hbr _;have hpf:=DZ (W3.setCell ⟨w.heap.size+1,0,none⟩ (.bool true)) W2.heap.size (.deferred none);have hK3:=hpf.at_ hK1 hne3;have hbs2:=hpf.at_ hbs hne2;have hpg:=DZ ((W3.setCell ⟨w.heap.size+1,0,none⟩ (.bool true)).putObj W2.heap.size (.deferred none)) W1.heap.size (.deferred none);have hcell:(((W3.setCell ⟨w.heap.size+1,0,none⟩ (.bool true)).putObj W2.heap.size (.deferred none)).putObj W1.heap.size (.deferred none)).cell? ⟨w.heap.size+1,0,none⟩=some (.bool true):=by
    have:=AJ _ (w.heap.size+1) 0 _ _ (0,0) (hpg.at_ hbs2 hne1);simpa using this
   have HFIN:=zz (show Below w.heap.size w (((W3.setCell ⟨w.heap.size+1,0,none⟩ (.bool true)).putObj W2.heap.size (.deferred none)).putObj W1.heap.size (.deferred none)) from by
    have h1:=HB1.out.trans ((hfs.imp (D':=fun q=>w.heap.size≤q) (fun q _ e=>by rcases e with(e|e)|e|e <;>omega)).below' HB1.out.size);have h2:=h1.trans ((hpf.imp (D':=fun q=>w.heap.size≤q) (fun q _ e=>by omega)).below' h1.size);exact h2.trans ((hpg.imp (D':=fun q=>w.heap.size≤q) (fun q _ e=>by omega)).below' h2.size))
   clear hbx hbr hSv hf hfs hbs hpf hpg hbs2 hK hnS hkW hkW3 hK1;gi_wp2;refine⟨by simp,.inl ⟨_,_,rfl,run_takeDeferred hK2,⟨by simp,.inl ⟨_,_,rfl,run_takeDeferred hK3, ?_⟩⟩⟩⟩;refine⟨.bool true, ?_,rfl,HFIN.out⟩
   simp[results,Tryz.results47,go_sem,hcell]
  case stopz=>
   intro c S pre W hpre h;exact h.elim
 case stop=>
  intro c S pre W hpre h;exact h.elim
end
open Hg (Iz El Bj okT DL RB)
structure KV (M:Nat→Option Hg.Node) (par:Nat→Nat×Int) (abv:Nat→Nat) (F F2:Nat) (xs:List (Nat×Hg.Node)):Prop where
 prs:LY M par
 shaped:KU M par F xs
 clash:Iz M
 f2:F2≤1000000
 hidden:∀x∈xs,x.2.kind=15∨x.2.kind=7→∃R,El M par F2 x.1 [] []=some R∧0≤idxI R x.2.ref∧R.length≤1000000
 abo:Tf M abv
 rb:RB M
 id:∀x∈xs,x.1≤1000000
 h18:∀x∈xs,x.2.kind=18→0 < x.2.kids.length
 idx:∀x∈xs,x.2.kind≠19→(Bj M abv x.1 x.2).length≤x.2.kids.length
def IA(M:Nat→Option Hg.Node)(abv:Nat→Nat)(xs:List (Nat×Hg.Node)):Nat:=if xs.all (okT M abv) then(if DL M=0 then 3 else 0) else 11
theorem NY(ab:Nat)(M:Nat→Option Hg.Node)(par:Nat→Nat×Int)(abv:Nat→Nat)(F F2:Nat)(xs:List (Nat×Hg.Node))(w:World)(hA:ArOk w ab M)(hT:Cv w)(hR:KV M par abv F F2 xs):
 Calls Tryz.prog 20 #[.pointer (some ⟨ab,0,none⟩)] w fun e w'=>e= .returned (.int .i64 (IA M abv xs:Int))∧Below w.heap.size w w':=by
 have T1:=zz (Lx ab M par hR.prs F xs w hA hT hR.shaped);have T2:=zz (fun W (h:Below w.heap.size w W)=>Uz ab M W (hA.below h) hR.clash);have T3:=zz (fun W (h:Below w.heap.size w W)=>RZ ab M par hR.prs F F2 xs W (hA.below h) hR.shaped.walk hR.shaped.f hR.f2 hR.shaped.id hR.hidden);have T4:=zz (fun W (h:Below w.heap.size w W)=>Tm ab M abv hR.abo hR.rb F xs W (hA.below h) hR.shaped.walk hR.shaped.f hR.id hR.h18 hR.idx);have T5:=zz (fun W (h:Below w.heap.size w W)=>QG ab M W (hA.below h));unfold IA;generalize xs.all (okT M abv)=ok at T4⊢;generalize DL M=mk at T5⊢;clear hA hT hR;go_enter Tryz.func20,Tryz.ntmps20;go_wp2_with fail;refine T1.out.mono ?_;rintro e w1 ⟨rfl,hb1⟩;have HB1:=zz hb1;clear T1 hb1;go_wp2_with fail;refine(T2.out _ HB1.out).mono ?_;rintro e w2 ⟨rfl,hb2⟩;have HB2:=zz (HB1.out.trans (hb2.mono HB1.out.size));clear T2 hb2;go_wp2_with fail;refine(T3.out _ HB2.out).mono ?_;rintro e w3 ⟨rfl,hb3⟩;have HB3:=zz (HB2.out.trans (hb3.mono HB2.out.size));clear T3 hb3;go_wp2_with fail;refine(T4.out _ HB3.out).mono ?_;rintro e w4 ⟨rfl,hb4⟩;have HB4:=zz (HB3.out.trans (hb4.mono HB3.out.size));clear T4 hb4;cases ok with
 |false=>
   go_wp2;go_ret;exact⟨rfl,HB4.out⟩
 |true=>
   go_wp2_with fail;refine(T5.out _ HB4.out).mono ?_;rintro e w5 ⟨rfl,hb5⟩;have HB5:=zz (HB4.out.trans (hb5.mono HB4.out.size));clear T5 hb5;by_cases h0:mk=0
   ·subst h0
    go_wp2;go_ret;exact⟨rfl,HB5.out⟩
   ·have q0:((mk:Int)==0)=false:=by simp;omega
    have HN:=zz h0;clear h0;go_wp2;go_ret;exact⟨by first|rfl|(rw[if_pos rfl,if_neg HN.out];rfl),HB5.out⟩
end Go.Proofs.YtfgnfpdfohjopaaGreatDoor
