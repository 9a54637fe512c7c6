/-
  Part of the proof of CheckLists.
-/
import Derived.Test.YtljmibnfmilfbaaGreatDoorKeBL
set_option linter.all false
set_option maxHeartbeats 32000000
set_option maxRecDepth 100000
namespace Hg
def ownD(k:Nat):Nat:=if k=16∨k=17∨k=18∨k=19 then 1 else 0
def Cg(M:Nat→Option Node):Nat→Nat→Nat
 |0,_=>0
 |l+1,id=>if (M id).isNone then 0 else ownD (ndAt M id).kind+(ndAt M id).kids.foldl (fun m k=>max m (Cg M l k+(if (ndAt M k).kind=5∧(ndAt M id).kind≠3 then 1 else 0))) 0
def BK(M:Nat→Option Node)(l kd m k:Nat):Nat:=max m (Cg M l k+(if (ndAt M k).kind=5∧kd≠3 then 1 else 0))
theorem LU(M:Nat→Option Node)(l id:Nat):Cg M (l+1) id=if (M id).isNone then 0 else ownD (ndAt M id).kind+(ndAt M id).kids.foldl (BK M l (ndAt M id).kind) 0:=rfl
theorem Xf(k:Nat):ownD k≤1:=by unfold ownD;split <;>omega
theorem Eg(M:Nat→Option Node):∀(l id:Nat),Cg M l id≤2*l
 |0,_=>Nat.le_refl _
 |l+1,id=>by
   rw[LU];split
   ·omega
   ·have h:∀(ks:List Nat) (m:Nat),m≤2*l+1→ks.foldl (BK M l (ndAt M id).kind) m≤2*l+1:=by
     intro ks
     induction ks with
     |nil=>intro m h;exact h
     |cons k ks ih=>
       intro m h;refine ih _ ?_;have:=Eg M l k;unfold BK
       split <;>omega
    have h1:=h (ndAt M id).kids 0 (by omega);have h2:=Xf (ndAt M id).kind;omega
theorem D5(M:Nat→Option Node)(l kd:Nat)(ks:List Nat):ks.foldl (BK M l kd) 0≤2*l+1:=by
 have h:∀(ks:List Nat) (m:Nat),m≤2*l+1→ks.foldl (BK M l kd) m≤2*l+1:=by
  intro ks
  induction ks with
  |nil=>intro m h;exact h
  |cons k ks ih=>
    intro m h;refine ih _ ?_;have:=Eg M l k;unfold BK
    split <;>omega
 exact h ks 0 (by omega)
end Hg
namespace Go.Proofs.YtljmibnfmilfbaaGreatDoor
open Go.RowKit
open Hg (GT gl wk isK ndAt CS KB Cg BK ownD)
theorem VA(ab:Nat)(M:Nat→Option Hg.Node):∀(l:Nat),l≤1000→∀(w:World) (id:Nat),ArOk w ab M→id < Ae→
 Calls Tryz.prog 76 #[.pointer (some ⟨ab,0,none⟩),.int .u64 (id:Int),.int .i64 (l:Int)] w fun e w'=>e= .returned (.int .i64 (Cg M l id:Int))∧Below w.heap.size w w':=by
 intro l
 induction l with
 |zero=>
   intro hl w id hA hid;have TG:=zz (hA.getN hid);clear hA;go_enter Tryz.func76,Tryz.ntmps76;go_wp2_with fail;refine TG.out.mono ?_;rintro e w1 ⟨ka,kc,rfl,ho1,hb1⟩;have HB:=zz (hb1.alloc hb1.size (.cells (AA (ndAt M id) ka kc) 33));clear TG ho1 hb1;generalize(M id).isSome=s;cases s <;>
   ·go_wp2
    go_ret;exact⟨rfl,HB.out⟩
 |succ l ih=>
   intro hl w id hA hid;have IH:=zz (ih (by omega));have HA:=zz hA;have TG:=zz (hA.getN hid);have HFI:=zz (Hg.LU M l id);generalize Cg M (l+1) id=r at HFI⊢;have hq0:(((l+1:Nat):Int)==0)=false:=by simp;omega
   have hsub:IntKind.i64.wrap (((l+1:Nat):Int)-1)=(l:Int):=by rw[show(((l+1:Nat):Int)-1)=(l:Int) from by omega];exact IntWalk.i64_in _ (by omega)
   generalize hL:l+1=Lv at hq0 hsub⊢;have HLV:=zz hL;have hl:l < 1000:=by omega
   clear hL;cases hM:(M id).isNone with
   |true=>
     have hs:(M id).isSome=false:=by
      cases h:M id with
      |none=>rfl
      |some _=>rw[h] at hM;cases hM
     rw[hM] at HFI;have hr:r=0:=HFI.out;subst hr;clear hA ih;go_enter Tryz.func76,Tryz.ntmps76;go_wp2_with fail;refine TG.out.mono ?_;rintro e w1 ⟨ka,kc,rfl,ho1,hb1⟩;have HB:=zz (hb1.alloc hb1.size (.cells (AA (ndAt M id) ka kc) 33));rw[hs];clear TG ho1 hb1 hs hM HFI;go_wp2;go_ret;exact⟨rfl,HB.out⟩
   |false=>
     have hs:(M id).isSome=true:=by
      cases h:M id with
      |none=>rw[h] at hM;cases hM
      |some _=>rfl
     rw[hM,if_neg (by simp)] at HFI;have HK:=zz (HA.out.2.at id);have hkl:=HA.out.len id;clear hA ih;go_enter Tryz.func76,Tryz.ntmps76;go_wp2_with fail;refine TG.out.mono ?_;rintro e w1 ⟨ka,kc,rfl,ho1,hb1⟩;rw[hs];have hb3:=hb1.alloc hb1.size (.cells (AA (ndAt M id) ka kc) 33);have hs3:=Sl.AX (ho1.alloc (.cells (AA (ndAt M id) ka kc) 33));have hn3:=heap_alloc_new w1 (.cells (AA (ndAt M id) ka kc) 33);simp only[AA] at hb3 hs3 hn3;clear TG ho1 hb1 hs hM;generalize ndAt M id=nd at HFI HK hkl hb3 hs3 hn3⊢;obtain⟨kd,nm,nu,ty,rf,kids⟩:=nd;dsimp only at HFI HK hkl hb3 hs3 hn3⊢;by_cases h16:kd=16
     ·subst h16
      have hfin:r=1+kids.foldl (BK M l 16) 0:=HFI.out;clear HFI;have HFIN:=zz hfin;clear hfin;go_wp2;generalize World.alloc w1 _=W3 at hb3 hs3 hn3⊢;have HB3:=zz hb3;have HS:=zz hs3;have HN3:=zz hn3;have hnl:=(Array.getElem?_eq_some_iff.1 hn3).1;generalize w1.heap.size=nb at HN3 hnl⊢;clear hb3 hs3 hn3
      go_loopw [10,38] (fun p q wr=>∃i:Nat,p= .int .i64 ((kids.take i).foldl (BK M l 16) 0:Nat)∧q= .int .i64 (i:Int)∧i≤kids.length∧Below W3.heap.size W3 wr) (fun _ q wr=>kids.length-(intOf q).toNat)
      case atStart=>exact⟨0,by simp,rfl,Nat.zero_le _,Below.refl _ _⟩
      case round=>
       obtain⟨i,rfl,rfl,hi,hb⟩:=hrel;have HB:=zz hb;have hzr:=hb.size;have hb4:=HB3.out.trans (hb.mono HB3.out.size);have HB4:=zz hb4;by_cases hlt:i < kids.length
       ·obtain⟨b,o,rfl,_,kck⟩:=(HS.out.below hb (Nat.le_refl _)).mapAt hlt
        have hkt:=HK.out _ (List.getElem_mem hlt);have hstep:(kids.take (i+1)).foldl (BK M l 16) 0=BK M l 16 ((kids.take i).foldl (BK M l 16) 0) kids[i]:=by
         rw[List.take_succ_eq_append_getElem hlt,List.foldl_append];rfl
        have hml:=Hg.D5 M l 16 (kids.take i);generalize kids[i]=k at kck hkt hstep;generalize(kids.take i).foldl (BK M l 16) 0=mo at hstep hml⊢;have HST:=zz (show(kids.take (i+1)).foldl (BK M l 16) 0=max mo (Cg M l k+(if (ndAt M k).kind=5∧16≠3 then 1 else 0)) from hstep);have TD:=zz (IH.out wr k (HA.out.below hb4) hkt);have hdl:=Hg.Eg M l k;clear hb hb4 hstep;go_wp2_with fail;refine TD.out.mono ?_;rintro e w5 ⟨rfl,hb5⟩;have HB5:=zz (HB.out.trans (hb5.mono hzr));have TG:=zz ((HA.out.below (HB3.out.trans (HB5.out.mono HB3.out.size))).getN hkt);have hs5:=HB5.out.size;generalize Cg M l k=d at HST hdl⊢;clear hb5 TD;go_wp2_with fail;refine TG.out.mono ?_;rintro e w6 ⟨ka6,kc6,rfl,ho6,hb6⟩;have hb7:=(HB5.out.trans (hb6.mono hs5)).alloc (HB5.out.trans (hb6.mono hs5)).size (.cells (AA (ndAt M k) ka6 kc6) 33);have HB7:=zz hb7;have y0:=cell_of_row (w6.alloc (.cells (AA (ndAt M k) ka6 kc6) 33)) nb 0 _ _ (0,0) ((hb7.block nb hnl).trans HN3.out);simp only[AA] at y0 HB7;have hk5:(ndAt M k).kind=5∨(ndAt M k).kind≠5:=by omega
        clear TG ho6 hb6 hb7 kck;generalize ndAt M k=nk at HST HB7 y0 hk5⊢;obtain⟨kd2,nm2,nu2,ty2,rf2,ks2⟩:=nk;dsimp only at HST HB7 y0 hk5⊢;rcases hk5 with rfl|hk5
        ·simp at y0
         by_cases h3:16=3
         ·first
           |omega
           | skip
             have hst:=HST.out;rw[if_neg (fun h=>h.2 h3)] at hst;have q3:(((16:Nat):Int) !=3)=false:=by simp;omega
             have HS9:=zz hst;clear hst HST;go_wp2;go_roundw
             case rel=>exact⟨i+1,by rw[HS9.out];exact congrArg (Value.int .i64) (by omega),by go_num,by omega,HB7.out⟩
             case measure=>simp[intOf];omega
         ·have hst:=HST.out
          rw[if_pos ⟨rfl,h3⟩] at hst;have q3:(((16:Nat):Int) !=3)=true:=by first|(simp;done)|(simp;omega)
          have HS9:=zz hst;clear hst HST;go_wp2;go_roundw
          case rel=>exact⟨i+1,by rw[HS9.out];exact congrArg (Value.int .i64) (by omega),by go_num,by omega,HB7.out⟩
          case measure=>simp[intOf];omega
        ·simp at y0
         have hst:=HST.out;rw[if_neg (fun h=>hk5 h.1)] at hst;have q5:((kd2:Int)==5)=false:=by simp;omega
         have HS9:=zz hst;clear hst HST;go_wp2;go_roundw
         case rel=>exact⟨i+1,by rw[HS9.out];exact congrArg (Value.int .i64) (by omega),by go_num,by omega,HB7.out⟩
         case measure=>simp[intOf];omega
       ·obtain rfl:i=kids.length:=by omega
        rw[List.take_length];have hml:=Hg.D5 M l 16 kids;have hfin:=HFIN.out;generalize kids.foldl (BK M l 16) 0=mo at hfin hml⊢;have HR9:=zz hfin;clear hb hb4 hfin;go_wp2;go_ret;have e9:(r:Int)=1+(mo:Int):=by have:=HR9.out;omega
        rw[e9];exact⟨by first|rfl|(simp;done),HB4.out⟩
     by_cases h17:kd=17
     ·subst h17
      have hfin:r=1+kids.foldl (BK M l 17) 0:=HFI.out;clear HFI;have HFIN:=zz hfin;clear hfin;go_wp2;generalize World.alloc w1 _=W3 at hb3 hs3 hn3⊢;have HB3:=zz hb3;have HS:=zz hs3;have HN3:=zz hn3;have hnl:=(Array.getElem?_eq_some_iff.1 hn3).1;generalize w1.heap.size=nb at HN3 hnl⊢;clear hb3 hs3 hn3
      go_loopw [10,38] (fun p q wr=>∃i:Nat,p= .int .i64 ((kids.take i).foldl (BK M l 17) 0:Nat)∧q= .int .i64 (i:Int)∧i≤kids.length∧Below W3.heap.size W3 wr) (fun _ q wr=>kids.length-(intOf q).toNat)
      case atStart=>exact⟨0,by simp,rfl,Nat.zero_le _,Below.refl _ _⟩
      case round=>
       obtain⟨i,rfl,rfl,hi,hb⟩:=hrel;have HB:=zz hb;have hzr:=hb.size;have hb4:=HB3.out.trans (hb.mono HB3.out.size);have HB4:=zz hb4;by_cases hlt:i < kids.length
       ·obtain⟨b,o,rfl,_,kck⟩:=(HS.out.below hb (Nat.le_refl _)).mapAt hlt
        have hkt:=HK.out _ (List.getElem_mem hlt);have hstep:(kids.take (i+1)).foldl (BK M l 17) 0=BK M l 17 ((kids.take i).foldl (BK M l 17) 0) kids[i]:=by
         rw[List.take_succ_eq_append_getElem hlt,List.foldl_append];rfl
        have hml:=Hg.D5 M l 17 (kids.take i);generalize kids[i]=k at kck hkt hstep;generalize(kids.take i).foldl (BK M l 17) 0=mo at hstep hml⊢;have HST:=zz (show(kids.take (i+1)).foldl (BK M l 17) 0=max mo (Cg M l k+(if (ndAt M k).kind=5∧17≠3 then 1 else 0)) from hstep);have TD:=zz (IH.out wr k (HA.out.below hb4) hkt);have hdl:=Hg.Eg M l k;clear hb hb4 hstep;go_wp2_with fail;refine TD.out.mono ?_;rintro e w5 ⟨rfl,hb5⟩;have HB5:=zz (HB.out.trans (hb5.mono hzr));have TG:=zz ((HA.out.below (HB3.out.trans (HB5.out.mono HB3.out.size))).getN hkt);have hs5:=HB5.out.size;generalize Cg M l k=d at HST hdl⊢;clear hb5 TD;go_wp2_with fail;refine TG.out.mono ?_;rintro e w6 ⟨ka6,kc6,rfl,ho6,hb6⟩;have hb7:=(HB5.out.trans (hb6.mono hs5)).alloc (HB5.out.trans (hb6.mono hs5)).size (.cells (AA (ndAt M k) ka6 kc6) 33);have HB7:=zz hb7;have y0:=cell_of_row (w6.alloc (.cells (AA (ndAt M k) ka6 kc6) 33)) nb 0 _ _ (0,0) ((hb7.block nb hnl).trans HN3.out);simp only[AA] at y0 HB7;have hk5:(ndAt M k).kind=5∨(ndAt M k).kind≠5:=by omega
        clear TG ho6 hb6 hb7 kck;generalize ndAt M k=nk at HST HB7 y0 hk5⊢;obtain⟨kd2,nm2,nu2,ty2,rf2,ks2⟩:=nk;dsimp only at HST HB7 y0 hk5⊢;rcases hk5 with rfl|hk5
        ·simp at y0
         by_cases h3:17=3
         ·first
           |omega
           | skip
             have hst:=HST.out;rw[if_neg (fun h=>h.2 h3)] at hst;have q3:(((17:Nat):Int) !=3)=false:=by simp;omega
             have HS9:=zz hst;clear hst HST;go_wp2;go_roundw
             case rel=>exact⟨i+1,by rw[HS9.out];exact congrArg (Value.int .i64) (by omega),by go_num,by omega,HB7.out⟩
             case measure=>simp[intOf];omega
         ·have hst:=HST.out
          rw[if_pos ⟨rfl,h3⟩] at hst;have q3:(((17:Nat):Int) !=3)=true:=by first|(simp;done)|(simp;omega)
          have HS9:=zz hst;clear hst HST;go_wp2;go_roundw
          case rel=>exact⟨i+1,by rw[HS9.out];exact congrArg (Value.int .i64) (by omega),by go_num,by omega,HB7.out⟩
          case measure=>simp[intOf];omega
        ·simp at y0
         have hst:=HST.out;rw[if_neg (fun h=>hk5 h.1)] at hst;have q5:((kd2:Int)==5)=false:=by simp;omega
         have HS9:=zz hst;clear hst HST;go_wp2;go_roundw
         case rel=>exact⟨i+1,by rw[HS9.out];exact congrArg (Value.int .i64) (by omega),by go_num,by omega,HB7.out⟩
         case measure=>simp[intOf];omega
       ·obtain rfl:i=kids.length:=by omega
        rw[List.take_length];have hml:=Hg.D5 M l 17 kids;have hfin:=HFIN.out;generalize kids.foldl (BK M l 17) 0=mo at hfin hml⊢;have HR9:=zz hfin;clear hb hb4 hfin;go_wp2;go_ret;have e9:(r:Int)=1+(mo:Int):=by have:=HR9.out;omega
        rw[e9];exact⟨by first|rfl|(simp;done),HB4.out⟩
     by_cases h18:kd=18
     ·subst h18
      have hfin:r=1+kids.foldl (BK M l 18) 0:=HFI.out;clear HFI;have HFIN:=zz hfin;clear hfin;go_wp2;generalize World.alloc w1 _=W3 at hb3 hs3 hn3⊢;have HB3:=zz hb3;have HS:=zz hs3;have HN3:=zz hn3;have hnl:=(Array.getElem?_eq_some_iff.1 hn3).1;generalize w1.heap.size=nb at HN3 hnl⊢;clear hb3 hs3 hn3
      go_loopw [10,38] (fun p q wr=>∃i:Nat,p= .int .i64 ((kids.take i).foldl (BK M l 18) 0:Nat)∧q= .int .i64 (i:Int)∧i≤kids.length∧Below W3.heap.size W3 wr) (fun _ q wr=>kids.length-(intOf q).toNat)
      case atStart=>exact⟨0,by simp,rfl,Nat.zero_le _,Below.refl _ _⟩
      case round=>
       obtain⟨i,rfl,rfl,hi,hb⟩:=hrel;have HB:=zz hb;have hzr:=hb.size;have hb4:=HB3.out.trans (hb.mono HB3.out.size);have HB4:=zz hb4;by_cases hlt:i < kids.length
       ·obtain⟨b,o,rfl,_,kck⟩:=(HS.out.below hb (Nat.le_refl _)).mapAt hlt
        have hkt:=HK.out _ (List.getElem_mem hlt);have hstep:(kids.take (i+1)).foldl (BK M l 18) 0=BK M l 18 ((kids.take i).foldl (BK M l 18) 0) kids[i]:=by
         rw[List.take_succ_eq_append_getElem hlt,List.foldl_append];rfl
        have hml:=Hg.D5 M l 18 (kids.take i);generalize kids[i]=k at kck hkt hstep;generalize(kids.take i).foldl (BK M l 18) 0=mo at hstep hml⊢;have HST:=zz (show(kids.take (i+1)).foldl (BK M l 18) 0=max mo (Cg M l k+(if (ndAt M k).kind=5∧18≠3 then 1 else 0)) from hstep);have TD:=zz (IH.out wr k (HA.out.below hb4) hkt);have hdl:=Hg.Eg M l k;clear hb hb4 hstep;go_wp2_with fail;refine TD.out.mono ?_;rintro e w5 ⟨rfl,hb5⟩;have HB5:=zz (HB.out.trans (hb5.mono hzr));have TG:=zz ((HA.out.below (HB3.out.trans (HB5.out.mono HB3.out.size))).getN hkt);have hs5:=HB5.out.size;generalize Cg M l k=d at HST hdl⊢;clear hb5 TD;go_wp2_with fail;refine TG.out.mono ?_;rintro e w6 ⟨ka6,kc6,rfl,ho6,hb6⟩;have hb7:=(HB5.out.trans (hb6.mono hs5)).alloc (HB5.out.trans (hb6.mono hs5)).size (.cells (AA (ndAt M k) ka6 kc6) 33);have HB7:=zz hb7;have y0:=cell_of_row (w6.alloc (.cells (AA (ndAt M k) ka6 kc6) 33)) nb 0 _ _ (0,0) ((hb7.block nb hnl).trans HN3.out);simp only[AA] at y0 HB7;have hk5:(ndAt M k).kind=5∨(ndAt M k).kind≠5:=by omega
        clear TG ho6 hb6 hb7 kck;generalize ndAt M k=nk at HST HB7 y0 hk5⊢;obtain⟨kd2,nm2,nu2,ty2,rf2,ks2⟩:=nk;dsimp only at HST HB7 y0 hk5⊢;rcases hk5 with rfl|hk5
        ·simp at y0
         by_cases h3:18=3
         ·first
           |omega
           | skip
             have hst:=HST.out;rw[if_neg (fun h=>h.2 h3)] at hst;have q3:(((18:Nat):Int) !=3)=false:=by simp;omega
             have HS9:=zz hst;clear hst HST;go_wp2;go_roundw
             case rel=>exact⟨i+1,by rw[HS9.out];exact congrArg (Value.int .i64) (by omega),by go_num,by omega,HB7.out⟩
             case measure=>simp[intOf];omega
         ·have hst:=HST.out
          rw[if_pos ⟨rfl,h3⟩] at hst;have q3:(((18:Nat):Int) !=3)=true:=by first|(simp;done)|(simp;omega)
          have HS9:=zz hst;clear hst HST;go_wp2;go_roundw
          case rel=>exact⟨i+1,by rw[HS9.out];exact congrArg (Value.int .i64) (by omega),by go_num,by omega,HB7.out⟩
          case measure=>simp[intOf];omega
        ·simp at y0
         have hst:=HST.out;rw[if_neg (fun h=>hk5 h.1)] at hst;have q5:((kd2:Int)==5)=false:=by simp;omega
         have HS9:=zz hst;clear hst HST;go_wp2;go_roundw
         case rel=>exact⟨i+1,by rw[HS9.out];exact congrArg (Value.int .i64) (by omega),by go_num,by omega,HB7.out⟩
         case measure=>simp[intOf];omega
       ·obtain rfl:i=kids.length:=by omega
        rw[List.take_length];have hml:=Hg.D5 M l 18 kids;have hfin:=HFIN.out;generalize kids.foldl (BK M l 18) 0=mo at hfin hml⊢;have HR9:=zz hfin;clear hb hb4 hfin;go_wp2;go_ret;have e9:(r:Int)=1+(mo:Int):=by have:=HR9.out;omega
        rw[e9];exact⟨by first|rfl|(simp;done),HB4.out⟩
     by_cases h19:kd=19
     ·subst h19
      have hfin:r=1+kids.foldl (BK M l 19) 0:=HFI.out;clear HFI;have HFIN:=zz hfin;clear hfin;go_wp2;generalize World.alloc w1 _=W3 at hb3 hs3 hn3⊢;have HB3:=zz hb3;have HS:=zz hs3;have HN3:=zz hn3;have hnl:=(Array.getElem?_eq_some_iff.1 hn3).1;generalize w1.heap.size=nb at HN3 hnl⊢;clear hb3 hs3 hn3
      go_loopw [10,38] (fun p q wr=>∃i:Nat,p= .int .i64 ((kids.take i).foldl (BK M l 19) 0:Nat)∧q= .int .i64 (i:Int)∧i≤kids.length∧Below W3.heap.size W3 wr) (fun _ q wr=>kids.length-(intOf q).toNat)
      case atStart=>exact⟨0,by simp,rfl,Nat.zero_le _,Below.refl _ _⟩
      case round=>
       obtain⟨i,rfl,rfl,hi,hb⟩:=hrel;have HB:=zz hb;have hzr:=hb.size;have hb4:=HB3.out.trans (hb.mono HB3.out.size);have HB4:=zz hb4;by_cases hlt:i < kids.length
       ·obtain⟨b,o,rfl,_,kck⟩:=(HS.out.below hb (Nat.le_refl _)).mapAt hlt
        have hkt:=HK.out _ (List.getElem_mem hlt);have hstep:(kids.take (i+1)).foldl (BK M l 19) 0=BK M l 19 ((kids.take i).foldl (BK M l 19) 0) kids[i]:=by
         rw[List.take_succ_eq_append_getElem hlt,List.foldl_append];rfl
        have hml:=Hg.D5 M l 19 (kids.take i);generalize kids[i]=k at kck hkt hstep;generalize(kids.take i).foldl (BK M l 19) 0=mo at hstep hml⊢;have HST:=zz (show(kids.take (i+1)).foldl (BK M l 19) 0=max mo (Cg M l k+(if (ndAt M k).kind=5∧19≠3 then 1 else 0)) from hstep);have TD:=zz (IH.out wr k (HA.out.below hb4) hkt);have hdl:=Hg.Eg M l k;clear hb hb4 hstep;go_wp2_with fail;refine TD.out.mono ?_;rintro e w5 ⟨rfl,hb5⟩;have HB5:=zz (HB.out.trans (hb5.mono hzr));have TG:=zz ((HA.out.below (HB3.out.trans (HB5.out.mono HB3.out.size))).getN hkt);have hs5:=HB5.out.size;generalize Cg M l k=d at HST hdl⊢;clear hb5 TD;go_wp2_with fail;refine TG.out.mono ?_;rintro e w6 ⟨ka6,kc6,rfl,ho6,hb6⟩;have hb7:=(HB5.out.trans (hb6.mono hs5)).alloc (HB5.out.trans (hb6.mono hs5)).size (.cells (AA (ndAt M k) ka6 kc6) 33);have HB7:=zz hb7;have y0:=cell_of_row (w6.alloc (.cells (AA (ndAt M k) ka6 kc6) 33)) nb 0 _ _ (0,0) ((hb7.block nb hnl).trans HN3.out);simp only[AA] at y0 HB7;have hk5:(ndAt M k).kind=5∨(ndAt M k).kind≠5:=by omega
        clear TG ho6 hb6 hb7 kck;generalize ndAt M k=nk at HST HB7 y0 hk5⊢;obtain⟨kd2,nm2,nu2,ty2,rf2,ks2⟩:=nk;dsimp only at HST HB7 y0 hk5⊢;rcases hk5 with rfl|hk5
        ·simp at y0
         by_cases h3:19=3
         ·first
           |omega
           | skip
             have hst:=HST.out;rw[if_neg (fun h=>h.2 h3)] at hst;have q3:(((19:Nat):Int) !=3)=false:=by simp;omega
             have HS9:=zz hst;clear hst HST;go_wp2;go_roundw
             case rel=>exact⟨i+1,by rw[HS9.out];exact congrArg (Value.int .i64) (by omega),by go_num,by omega,HB7.out⟩
             case measure=>simp[intOf];omega
         ·have hst:=HST.out
          rw[if_pos ⟨rfl,h3⟩] at hst;have q3:(((19:Nat):Int) !=3)=true:=by first|(simp;done)|(simp;omega)
          have HS9:=zz hst;clear hst HST;go_wp2;go_roundw
          case rel=>exact⟨i+1,by rw[HS9.out];exact congrArg (Value.int .i64) (by omega),by go_num,by omega,HB7.out⟩
          case measure=>simp[intOf];omega
        ·simp at y0
         have hst:=HST.out;rw[if_neg (fun h=>hk5 h.1)] at hst;have q5:((kd2:Int)==5)=false:=by simp;omega
         have HS9:=zz hst;clear hst HST;go_wp2;go_roundw
         case rel=>exact⟨i+1,by rw[HS9.out];exact congrArg (Value.int .i64) (by omega),by go_num,by omega,HB7.out⟩
         case measure=>simp[intOf];omega
       ·obtain rfl:i=kids.length:=by omega
        rw[List.take_length];have hml:=Hg.D5 M l 19 kids;have hfin:=HFIN.out;generalize kids.foldl (BK M l 19) 0=mo at hfin hml⊢;have HR9:=zz hfin;clear hb hb4 hfin;go_wp2;go_ret;have e9:(r:Int)=1+(mo:Int):=by have:=HR9.out;omega
        rw[e9];exact⟨by first|rfl|(simp;done),HB4.out⟩
     have hfin:r=0+kids.foldl (BK M l kd) 0:=by
      have h:=HFI.out;rw[show ownD kd=0 from by unfold ownD;rw[if_neg (by omega)]] at h;exact h
     have q16:((kd:Int)==16)=false:=by simp;omega
     have q17:((kd:Int)==17)=false:=by simp;omega
     have q18:((kd:Int)==18)=false:=by simp;omega
     have q19:((kd:Int)==19)=false:=by simp;omega
     clear HFI;have HFIN:=zz hfin;clear hfin;go_wp2;generalize World.alloc w1 _=W3 at hb3 hs3 hn3⊢;have HB3:=zz hb3;have HS:=zz hs3;have HN3:=zz hn3;have hnl:=(Array.getElem?_eq_some_iff.1 hn3).1;generalize w1.heap.size=nb at HN3 hnl⊢;clear hb3 hs3 hn3
     go_loopw [10,38] (fun p q wr=>∃i:Nat,p= .int .i64 ((kids.take i).foldl (BK M l kd) 0:Nat)∧q= .int .i64 (i:Int)∧i≤kids.length∧Below W3.heap.size W3 wr) (fun _ q wr=>kids.length-(intOf q).toNat)
     case atStart=>exact⟨0,by simp,rfl,Nat.zero_le _,Below.refl _ _⟩
     case round=>
      obtain⟨i,rfl,rfl,hi,hb⟩:=hrel;have HB:=zz hb;have hzr:=hb.size;have hb4:=HB3.out.trans (hb.mono HB3.out.size);have HB4:=zz hb4;by_cases hlt:i < kids.length
      ·obtain⟨b,o,rfl,_,kck⟩:=(HS.out.below hb (Nat.le_refl _)).mapAt hlt
       have hkt:=HK.out _ (List.getElem_mem hlt);have hstep:(kids.take (i+1)).foldl (BK M l kd) 0=BK M l kd ((kids.take i).foldl (BK M l kd) 0) kids[i]:=by
        rw[List.take_succ_eq_append_getElem hlt,List.foldl_append];rfl
       have hml:=Hg.D5 M l kd (kids.take i);generalize kids[i]=k at kck hkt hstep;generalize(kids.take i).foldl (BK M l kd) 0=mo at hstep hml⊢;have HST:=zz (show(kids.take (i+1)).foldl (BK M l kd) 0=max mo (Cg M l k+(if (ndAt M k).kind=5∧kd≠3 then 1 else 0)) from hstep);have TD:=zz (IH.out wr k (HA.out.below hb4) hkt);have hdl:=Hg.Eg M l k;clear hb hb4 hstep;go_wp2_with fail;refine TD.out.mono ?_;rintro e w5 ⟨rfl,hb5⟩;have HB5:=zz (HB.out.trans (hb5.mono hzr));have TG:=zz ((HA.out.below (HB3.out.trans (HB5.out.mono HB3.out.size))).getN hkt);have hs5:=HB5.out.size;generalize Cg M l k=d at HST hdl⊢;clear hb5 TD;go_wp2_with fail;refine TG.out.mono ?_;rintro e w6 ⟨ka6,kc6,rfl,ho6,hb6⟩;have hb7:=(HB5.out.trans (hb6.mono hs5)).alloc (HB5.out.trans (hb6.mono hs5)).size (.cells (AA (ndAt M k) ka6 kc6) 33);have HB7:=zz hb7;have y0:=cell_of_row (w6.alloc (.cells (AA (ndAt M k) ka6 kc6) 33)) nb 0 _ _ (0,0) ((hb7.block nb hnl).trans HN3.out);simp only[AA] at y0 HB7;have hk5:(ndAt M k).kind=5∨(ndAt M k).kind≠5:=by omega
       clear TG ho6 hb6 hb7 kck;generalize ndAt M k=nk at HST HB7 y0 hk5⊢;obtain⟨kd2,nm2,nu2,ty2,rf2,ks2⟩:=nk;dsimp only at HST HB7 y0 hk5⊢;rcases hk5 with rfl|hk5
       ·simp at y0
        by_cases h3:kd=3
        ·first
          |omega
          | skip
            have hst:=HST.out;rw[if_neg (fun h=>h.2 h3)] at hst;have q3:(((kd:Nat):Int) !=3)=false:=by simp;omega
            have HS9:=zz hst;clear hst HST;go_wp2;go_roundw
            case rel=>exact⟨i+1,by rw[HS9.out];exact congrArg (Value.int .i64) (by omega),by go_num,by omega,HB7.out⟩
            case measure=>simp[intOf];omega
        ·have hst:=HST.out
         rw[if_pos ⟨rfl,h3⟩] at hst;have q3:(((kd:Nat):Int) !=3)=true:=by first|(simp;done)|(simp;omega)
         have HS9:=zz hst;clear hst HST;go_wp2;go_roundw
         case rel=>exact⟨i+1,by rw[HS9.out];exact congrArg (Value.int .i64) (by omega),by go_num,by omega,HB7.out⟩
         case measure=>simp[intOf];omega
       ·simp at y0
        have hst:=HST.out;rw[if_neg (fun h=>hk5 h.1)] at hst;have q5:((kd2:Int)==5)=false:=by simp;omega
        have HS9:=zz hst;clear hst HST;go_wp2;go_roundw
        case rel=>exact⟨i+1,by rw[HS9.out];exact congrArg (Value.int .i64) (by omega),by go_num,by omega,HB7.out⟩
        case measure=>simp[intOf];omega
      ·obtain rfl:i=kids.length:=by omega
       rw[List.take_length];have hml:=Hg.D5 M l kd kids;have hfin:=HFIN.out;generalize kids.foldl (BK M l kd) 0=mo at hfin hml⊢;have HR9:=zz hfin;clear hb hb4 hfin;go_wp2;go_ret;have e9:(r:Int)=0+(mo:Int):=by have:=HR9.out;omega
       rw[e9];exact⟨by first|rfl|(simp;done),HB4.out⟩
end Go.Proofs.YtljmibnfmilfbaaGreatDoor
namespace Go.Proofs.YtljmibnfmilfbaaGreatDoor
open Go.RowKit
open Hg (GT gl wk isK ndAt CS KB)
structure Ip (w:World) (ab b1 b2:Nat) (M:Nat→Option Hg.Node) (n:Hg.Node) (ka:Option Addr) (kc:Nat):Prop where
 ar:ArOk w ab M
 h1:w.cell? ⟨b1,0,none⟩=some (.pointer (some ⟨ab,0,none⟩))
 h0:w.cell? ⟨b2,0,none⟩=some (.int .u8 (n.kind:Int))
 h2:w.cell? ⟨b2,5,none⟩=some (.slice ka n.kids.length kc)
 lt:b1 < w.heap.size∧b2 < w.heap.size
 sl:Sl w w.heap.size (.slice ka n.kids.length kc) n.kids.length (n.kids.map idV)
 len:n.kids.length≤1000000
 top:∀k∈n.kids,k < Ae
theorem Ip.below{w w':World}{ab b1 b2:Nat}{M:Nat→Option Hg.Node}{n:Hg.Node}{ka:Option Addr}{kc:Nat}(h:Ip w ab b1 b2 M n ka kc)(hb:Below w.heap.size w w'):Ip w' ab b1 b2 M n ka kc:=
 ⟨h.ar.below hb,(hb.cell (p:=⟨b1,0,none⟩) h.lt.1).trans h.h1,(hb.cell (p:=⟨b2,0,none⟩) h.lt.2).trans h.h0,(hb.cell (p:=⟨b2,5,none⟩) h.lt.2).trans h.h2,⟨Nat.lt_of_lt_of_le h.lt.1 hb.size,Nat.lt_of_lt_of_le h.lt.2 hb.size⟩,(h.sl.below hb (Nat.le_refl _)).more hb.size,h.len,h.top⟩
theorem Co(ab b1 b2:Nat)(M:Nat→Option Hg.Node)(n:Hg.Node)(ka:Option Addr)(kc i:Nat)(w:World)(hK:Ip w ab b1 b2 M n ka kc)(hi:i < n.kids.length):
 Calls Tryz.prog 112 #[.int .i64 (i:Int),.pointer (some ⟨b1,0,none⟩),.pointer (some ⟨b2,0,none⟩)] w fun e w'=>e= .returned (.int .u8 ((ndAt M n.kids[i]).kind:Int))∧Below w.heap.size w w':=by
 have hlen:=hK.len;have c1:=hK.h1;have c2:=hK.h2;have hb1:=hK.lt.1;have hb2:=hK.lt.2;obtain⟨bk,ok,rfl,hbk,ck⟩:=(hK.sl).mapAt hi;have TG:=zz (fun W (h:Below w.heap.size w W)=>(hK.ar.below h).getN (hK.top _ (List.getElem_mem hi)));generalize n.kids[i]=k at ck TG⊢;have HBc:=zz (Below.refl w.heap.size w);clear hK;go_enter Tryz.func112,Tryz.ntmps112;go_wp2;have hHeld:(fun w'=>w'.cell? ⟨b1,0,none⟩=some (.pointer (some ⟨ab,0,none⟩))∧w'.cell? ⟨b2,5,none⟩=some (.slice (some ⟨bk,ok,none⟩) n.kids.length kc)∧w'.cell? ⟨bk,ok+i,none⟩=some (idV k)) w.drew:=⟨c1,c2,ck⟩;have hHeld0:=hHeld;clear c1 c2 ck;refine AR (fun w'=>w'.cell? ⟨b1,0,none⟩=some (.pointer (some ⟨ab,0,none⟩))∧w'.cell? ⟨b2,5,none⟩=some (.slice (some ⟨bk,ok,none⟩) n.kids.length kc)∧w'.cell? ⟨bk,ok+i,none⟩=some (idV k)) 12 (by kernel_rfl) ?_;refine tz 0 _ _ _ ?_;refine tz 1 _ _ _ ?_;refine tz 2 _ _ _ ?_;refine tz 3 _ _ _ ?_;refine tz 4 _ _ _ ?_;refine tz 5 _ _ _ ?_;refine Fh (i:=6) (j:=10) rfl rfl (by kernel_rfl) (fun K hK=> ?_) (fun K hK=> ?_)
 ·go_simp
  refine Calls.mono (TG.out _ (by first|exact HBc.out|exact HBc.out.drew|exact HBc.out.drew.drew)) ?_;rintro e w5 ⟨ka5,kc5,rfl,ho5,hb5⟩;have HBc:=zz (show Below w.heap.size w w5 from by first|exact HBc.out.trans (hb5.mono HBc.out.size)|exact HBc.out.drew.trans (hb5.mono HBc.out.drew.size));clear ho5 hb5;have hble:w.heap.size≤w5.heap.size:=by first|exact HBc.out.size|exact Nat.le_refl _
  refine hK.out _ _ (⟨(HBc.out.cell (p:=⟨b1,0,none⟩) hb1).trans hHeld0.1,(HBc.out.cell (p:=⟨b2,5,none⟩) hb2).trans hHeld0.2.1,(HBc.out.cell (p:=⟨bk,ok+i,none⟩) hbk).trans hHeld0.2.2⟩) (fun hHeld=> ?_);clear hK K
  try simp only[Act.put,sA,sB,sC,sD,sE,sF]
  refine tz 7 _ _ _ ?_;refine tz 8 _ _ _ ?_;refine tz 9 _ _ _ ?_;refine AB (i:=10) rfl (by kernel_rfl) (fun K hK=> ?_);go_simp;generalize hWa:World.alloc _ _=Wa;obtain⟨hBa,hha,hza⟩:=C8 hWa;have HBc:=zz (show Below w.heap.size w Wa from by first|exact HBc.out.trans (hBa.mono HBc.out.size)|exact HBc.out.drew.trans (hBa.mono HBc.out.drew.size));clear hWa hBa;refine hK.out _ _ (⟨(HBc.out.cell (p:=⟨b1,0,none⟩) hb1).trans hHeld0.1,(HBc.out.cell (p:=⟨b2,5,none⟩) hb2).trans hHeld0.2.1,(HBc.out.cell (p:=⟨bk,ok+i,none⟩) hbk).trans hHeld0.2.2⟩) (fun hHeld=> ?_);clear hK K
  try simp only[Act.put,sA,sB,sC,sD,sE,sF]
  refine AB (i:=11) rfl (by kernel_rfl) (fun K hK=> ?_);have z2:=fun i=>cell_of_row Wa w5.heap.size i _ _ (0,0) hha;have y0:=z2 0;have y1:=z2 1;have y2:=z2 2;have y3:=z2 3;have y4:=z2 4;have y5:=z2 5;simp at y0 y1 y2 y3 y4 y5;have f2:∀i,Wa.frozen? ⟨w5.heap.size,i,none⟩=false:=fun i=>by simp[World.frozen?,hha]
  clear z2;go_simp;have hk0:(World.setCell (World.setCell (World.setCell (World.setCell (World.setCell (World.setCell Wa ⟨w5.heap.size,0,none⟩ (.int .u8 ((ndAt M k).kind:Int))) ⟨w5.heap.size,1,none⟩ (strV (ndAt M k).name)) ⟨w5.heap.size,2,none⟩ (.int .i64 (ndAt M k).num)) ⟨w5.heap.size,3,none⟩ (.int .u8 ((ndAt M k).type:Int))) ⟨w5.heap.size,4,none⟩ (.int .u64 ((ndAt M k).ref:Int))) ⟨w5.heap.size,5,none⟩ (.slice ka5 (ndAt M k).kids.length kc5)).cell? ⟨w5.heap.size,0,none⟩=some (.int .u8 ((ndAt M k).kind:Int)):=by simp[go_sem,y0,y1,y2,y3,y4,y5]
  generalize hWb:World.setCell _ _ _=Wb at hk0⊢;have HBc:=zz (show Below w.heap.size w Wb from hWb ▸ Cb HBc.out hble _ _ _ _ _ _);clear hWb y0 y1 y2 y3 y4 y5 f2 hha;refine hK.out _ _ (⟨(HBc.out.cell (p:=⟨b1,0,none⟩) hb1).trans hHeld0.1,(HBc.out.cell (p:=⟨b2,5,none⟩) hb2).trans hHeld0.2.1,(HBc.out.cell (p:=⟨bk,ok+i,none⟩) hbk).trans hHeld0.2.2⟩) (fun hHeld=> ?_);clear hK K
  try simp only[Act.put,sA,sB,sC,sD,sE,sF]
  refine AL (by kernel_rfl) ?_;simp only[List.drop_succ_cons,List.drop_zero];clear hHeld0;go_wp2;go_ret;exact⟨rfl,HBc.out⟩
 ·go_simp
  generalize hWa:World.alloc _ _=Wa;obtain⟨hBa,hha,hza⟩:=C8 hWa;have HBc:=zz (show Below w.heap.size w Wa from by first|exact HBc.out.trans (hBa.mono HBc.out.size)|exact HBc.out.drew.trans (hBa.mono HBc.out.drew.size));clear hWa hBa;refine hK.out _ _ (⟨(HBc.out.cell (p:=⟨b1,0,none⟩) hb1).trans hHeld0.1,(HBc.out.cell (p:=⟨b2,5,none⟩) hb2).trans hHeld0.2.1,(HBc.out.cell (p:=⟨bk,ok+i,none⟩) hbk).trans hHeld0.2.2⟩) (fun hHeld=> ?_);clear hK K
  try simp only[Act.put,sA,sB,sC,sD,sE,sF]
  refine AB (i:=6) rfl (by kernel_rfl) (fun K hK=> ?_);go_simp;refine Calls.mono (TG.out _ (by first|exact HBc.out|exact HBc.out.drew|exact HBc.out.drew.drew)) ?_;rintro e w5 ⟨ka5,kc5,rfl,ho5,hb5⟩;have hha:=(hb5.block _ (Array.getElem?_eq_some_iff.1 hha).1).trans hha;have HBc:=zz (show Below w.heap.size w w5 from by first|exact HBc.out.trans (hb5.mono HBc.out.size)|exact HBc.out.drew.trans (hb5.mono HBc.out.drew.size));clear ho5 hb5;have hble:w.heap.size≤w.heap.size:=by first|exact HBc.out.size|exact Nat.le_refl _
  refine hK.out _ _ (⟨(HBc.out.cell (p:=⟨b1,0,none⟩) hb1).trans hHeld0.1,(HBc.out.cell (p:=⟨b2,5,none⟩) hb2).trans hHeld0.2.1,(HBc.out.cell (p:=⟨bk,ok+i,none⟩) hbk).trans hHeld0.2.2⟩) (fun hHeld=> ?_);clear hK K
  try simp only[Act.put,sA,sB,sC,sD,sE,sF]
  refine tz 7 _ _ _ ?_;refine tz 8 _ _ _ ?_;refine tz 9 _ _ _ ?_;refine AB (i:=11) rfl (by kernel_rfl) (fun K hK=> ?_);have z2:=fun i=>cell_of_row w5 w.heap.size i _ _ (0,0) hha;have y0:=z2 0;have y1:=z2 1;have y2:=z2 2;have y3:=z2 3;have y4:=z2 4;have y5:=z2 5;simp at y0 y1 y2 y3 y4 y5;have f2:∀i,w5.frozen? ⟨w.heap.size,i,none⟩=false:=fun i=>by simp[World.frozen?,hha]
  clear z2;go_simp;have hk0:(World.setCell (World.setCell (World.setCell (World.setCell (World.setCell (World.setCell w5 ⟨w.heap.size,0,none⟩ (.int .u8 ((ndAt M k).kind:Int))) ⟨w.heap.size,1,none⟩ (strV (ndAt M k).name)) ⟨w.heap.size,2,none⟩ (.int .i64 (ndAt M k).num)) ⟨w.heap.size,3,none⟩ (.int .u8 ((ndAt M k).type:Int))) ⟨w.heap.size,4,none⟩ (.int .u64 ((ndAt M k).ref:Int))) ⟨w.heap.size,5,none⟩ (.slice ka5 (ndAt M k).kids.length kc5)).cell? ⟨w.heap.size,0,none⟩=some (.int .u8 ((ndAt M k).kind:Int)):=by simp[go_sem,y0,y1,y2,y3,y4,y5]
  generalize hWb:World.setCell _ _ _=Wb at hk0⊢;have HBc:=zz (show Below w.heap.size w Wb from hWb ▸ Cb HBc.out hble _ _ _ _ _ _);clear hWb y0 y1 y2 y3 y4 y5 f2 hha;refine hK.out _ _ (⟨(HBc.out.cell (p:=⟨b1,0,none⟩) hb1).trans hHeld0.1,(HBc.out.cell (p:=⟨b2,5,none⟩) hb2).trans hHeld0.2.1,(HBc.out.cell (p:=⟨bk,ok+i,none⟩) hbk).trans hHeld0.2.2⟩) (fun hHeld=> ?_);clear hK K
  try simp only[Act.put,sA,sB,sC,sD,sE,sF]
  refine AL (by kernel_rfl) ?_;simp only[List.drop_succ_cons,List.drop_zero];clear hHeld0;go_wp2;go_ret;exact⟨rfl,HBc.out⟩
theorem NW(k:Nat)(w:World)(h:6≤k∧k≤12∧k≠10):Calls Tryz.prog 116 #[.int .u8 (k:Int)] w fun e w'=>e= .returned (.bool true)∧w=w':=by
 obtain⟨h1,h2,h3⟩:=h;have q1:decide ((6:Int)≤(k:Int))=true:=by simpa using(by omega:(6:Int)≤(k:Int))
 have q2:decide ((k:Int)≤(12:Int))=true:=by simpa using(by omega:(k:Int)≤(12:Int))
 have q4:decide (6≤k)=true:=by simpa using h1
 have q5:decide (k≤12)=true:=by simpa using h2
 have q3:((k:Int) !=10)=true:=by simp;omega
 clear h1 h2 h3;go_enter Tryz.func116,Tryz.ntmps116;go_wp2;go_ret;exact⟨rfl,rfl⟩
theorem FY(k:Nat)(w:World)(h:13≤k∧k≤20):Calls Tryz.prog 117 #[.int .u8 (k:Int)] w fun e w'=>e= .returned (.bool true)∧w=w':=by
 obtain⟨h1,h2⟩:=h;have q1:decide ((13:Int)≤(k:Int))=true:=by simpa using(by omega:(13:Int)≤(k:Int))
 have q2:decide ((k:Int)≤(20:Int))=true:=by simpa using(by omega:(k:Int)≤(20:Int))
 have q4:decide (13≤k)=true:=by simpa using h1
 have q5:decide (k≤20)=true:=by simpa using h2
 clear h1 h2;go_enter Tryz.func117,Tryz.ntmps117;go_wp2;go_ret;exact⟨rfl,rfl⟩
theorem Vx(k qb:Nat)(w:World)(h:w.cell? ⟨qb,0,none⟩=some (.int .u8 (k:Int))):Calls Tryz.prog 115 #[.int .u8 (k:Int),.pointer (some ⟨qb,0,none⟩)] w fun e w'=>e= .returned (.bool true)∧w=w':=by
 go_enter Tryz.func115,Tryz.ntmps115;go_wp2;go_ret;exact⟨by simp,rfl⟩
theorem XF(ab b1 b2 fb:Nat)(M:Nat→Option Hg.Node)(n:Hg.Node)(ka:Option Addr)(kc a0 b0:Nat)(w:World)(hK:Ip w ab b1 b2 M n ka kc)(hf:w.cell? ⟨fb,0,none⟩=some (.func (.func 112) #[] #[.pointer (some ⟨b1,0,none⟩),.pointer (some ⟨b2,0,none⟩)]))(hfl:fb < w.heap.size)(hle:b0≤n.kids.length)(hall:∀i (hi:i < n.kids.length),a0≤i→i < b0→6≤(ndAt M n.kids[i]).kind∧(ndAt M n.kids[i]).kind≤12∧(ndAt M n.kids[i]).kind≠10):
 Calls Tryz.prog 113 #[.int .i64 (a0:Int),.int .i64 (b0:Int),.func (.func 116) #[] #[],.pointer (some ⟨fb,0,none⟩)] w fun e w'=>e= .returned (.bool true)∧Below w.heap.size w w':=by
 have HK:=zz hK;have HF:=zz hf;have HALL:=zz hall;have hln:=hK.len;clear hK hf hall;go_enter Tryz.func113,Tryz.ntmps113;go_wp2
 go_loopw [8] (fun p wr=>∃i:Nat,p= .int .i64 (i:Int)∧a0≤i∧(i≤b0∨i=a0)∧Below w.heap.size w wr) (fun p wr=>b0-(intOf p).toNat)
 case atStart=>exact⟨a0,rfl,Nat.le_refl _,.inr rfl,Below.refl _ _⟩
 case round=>
  obtain⟨i,rfl,hi1,hi2,hb⟩:=hrel;have HB:=zz hb;have hzr:=hb.size;by_cases hlt:i < b0
  ·have hil:i < n.kids.length:=by omega
   have cf:wr.cell? ⟨fb,0,none⟩=some (.func (.func 112) #[] #[.pointer (some ⟨b1,0,none⟩),.pointer (some ⟨b2,0,none⟩)]):=(hb.cell hfl).trans HF.out;have TK:=zz (Co ab b1 b2 M n ka kc i wr (HK.out.below hb) hil);have hkk:=HALL.out i hil hi1 hlt;generalize(ndAt M n.kids[i]).kind=k at TK hkk;have HKK:=zz hkk;clear hb hkk;go_wp2_with fail;refine TK.out.mono ?_;rintro e w1 ⟨rfl,hb1⟩;have HB1:=zz (HB.out.trans (hb1.mono hzr));clear TK hb1;skip;go_wp2_with fail;refine(NW k _ HKK.out).mono ?_;rintro e w2 ⟨rfl,rfl⟩;go_wp2;go_roundw
   case rel=>exact⟨i+1,by go_num,by omega,by omega,HB1.out⟩
   case measure=>simp[intOf];omega
  ·go_wp2
   go_ret;exact⟨rfl,HB.out⟩
theorem Qp(ab b1 b2 fb:Nat)(M:Nat→Option Hg.Node)(n:Hg.Node)(ka:Option Addr)(kc a0 b0:Nat)(w:World)(hK:Ip w ab b1 b2 M n ka kc)(hf:w.cell? ⟨fb,0,none⟩=some (.func (.func 112) #[] #[.pointer (some ⟨b1,0,none⟩),.pointer (some ⟨b2,0,none⟩)]))(hfl:fb < w.heap.size)(hle:b0≤n.kids.length)(hall:∀i (hi:i < n.kids.length),a0≤i→i < b0→13≤(ndAt M n.kids[i]).kind∧(ndAt M n.kids[i]).kind≤20):
 Calls Tryz.prog 113 #[.int .i64 (a0:Int),.int .i64 (b0:Int),.func (.func 117) #[] #[],.pointer (some ⟨fb,0,none⟩)] w fun e w'=>e= .returned (.bool true)∧Below w.heap.size w w':=by
 have HK:=zz hK;have HF:=zz hf;have HALL:=zz hall;have hln:=hK.len;clear hK hf hall;go_enter Tryz.func113,Tryz.ntmps113;go_wp2
 go_loopw [8] (fun p wr=>∃i:Nat,p= .int .i64 (i:Int)∧a0≤i∧(i≤b0∨i=a0)∧Below w.heap.size w wr) (fun p wr=>b0-(intOf p).toNat)
 case atStart=>exact⟨a0,rfl,Nat.le_refl _,.inr rfl,Below.refl _ _⟩
 case round=>
  obtain⟨i,rfl,hi1,hi2,hb⟩:=hrel;have HB:=zz hb;have hzr:=hb.size;by_cases hlt:i < b0
  ·have hil:i < n.kids.length:=by omega
   have cf:wr.cell? ⟨fb,0,none⟩=some (.func (.func 112) #[] #[.pointer (some ⟨b1,0,none⟩),.pointer (some ⟨b2,0,none⟩)]):=(hb.cell hfl).trans HF.out;have TK:=zz (Co ab b1 b2 M n ka kc i wr (HK.out.below hb) hil);have hkk:=HALL.out i hil hi1 hlt;generalize(ndAt M n.kids[i]).kind=k at TK hkk;have HKK:=zz hkk;clear hb hkk;go_wp2_with fail;refine TK.out.mono ?_;rintro e w1 ⟨rfl,hb1⟩;have HB1:=zz (HB.out.trans (hb1.mono hzr));clear TK hb1;skip;go_wp2_with fail;refine(FY k _ HKK.out).mono ?_;rintro e w2 ⟨rfl,rfl⟩;go_wp2;go_roundw
   case rel=>exact⟨i+1,by go_num,by omega,by omega,HB1.out⟩
   case measure=>simp[intOf];omega
  ·go_wp2
   go_ret;exact⟨rfl,HB.out⟩
theorem KR(ab b1 b2 fb:Nat)(M:Nat→Option Hg.Node)(n:Hg.Node)(ka:Option Addr)(kc a0 b0:Nat)(qb k0:Nat)(w:World)(hK:Ip w ab b1 b2 M n ka kc)(hf:w.cell? ⟨fb,0,none⟩=some (.func (.func 112) #[] #[.pointer (some ⟨b1,0,none⟩),.pointer (some ⟨b2,0,none⟩)]))(hfl:fb < w.heap.size)(hq:w.cell? ⟨qb,0,none⟩=some (.int .u8 (k0:Int))∧qb < w.heap.size)(hle:b0≤n.kids.length)(hall:∀i (hi:i < n.kids.length),a0≤i→i < b0→(ndAt M n.kids[i]).kind=k0):
 Calls Tryz.prog 113 #[.int .i64 (a0:Int),.int .i64 (b0:Int),.func (.func 115) #[] #[.pointer (some ⟨qb,0,none⟩)],.pointer (some ⟨fb,0,none⟩)] w fun e w'=>e= .returned (.bool true)∧Below w.heap.size w w':=by
 have HK:=zz hK;have HF:=zz hf;have HALL:=zz hall;have hln:=hK.len;clear hK hf hall;go_enter Tryz.func113,Tryz.ntmps113;go_wp2
 go_loopw [8] (fun p wr=>∃i:Nat,p= .int .i64 (i:Int)∧a0≤i∧(i≤b0∨i=a0)∧Below w.heap.size w wr) (fun p wr=>b0-(intOf p).toNat)
 case atStart=>exact⟨a0,rfl,Nat.le_refl _,.inr rfl,Below.refl _ _⟩
 case round=>
  obtain⟨i,rfl,hi1,hi2,hb⟩:=hrel;have HB:=zz hb;have hzr:=hb.size;by_cases hlt:i < b0
  ·have hil:i < n.kids.length:=by omega
   have cf:wr.cell? ⟨fb,0,none⟩=some (.func (.func 112) #[] #[.pointer (some ⟨b1,0,none⟩),.pointer (some ⟨b2,0,none⟩)]):=(hb.cell hfl).trans HF.out;have TK:=zz (Co ab b1 b2 M n ka kc i wr (HK.out.below hb) hil);have hkk:=HALL.out i hil hi1 hlt;generalize(ndAt M n.kids[i]).kind=k at TK hkk;have HKK:=zz hkk;clear hb hkk;go_wp2_with fail;refine TK.out.mono ?_;rintro e w1 ⟨rfl,hb1⟩;have HB1:=zz (HB.out.trans (hb1.mono hzr));clear TK hb1
   (have hk0:=HKK.out;subst hk0;have TO:=Vx k qb w1 ((HB1.out.cell hq.2).trans hq.1))
   go_wp2_with fail;refine(TO).mono ?_;rintro e w2 ⟨rfl,rfl⟩;go_wp2;go_roundw
   case rel=>exact⟨i+1,by go_num,by omega,by omega,HB1.out⟩
   case measure=>simp[intOf];omega
  ·go_wp2
   go_ret;exact⟨rfl,HB.out⟩
end Go.Proofs.YtljmibnfmilfbaaGreatDoor
namespace Hg
def stP(k:Nat):Prop:=6≤k∧k≤12∧k≠10
def exP(k:Nat):Prop:=13≤k∧k≤20
instance (k:Nat):Decidable (stP k):=by unfold stP;infer_instance
instance (k:Nat):Decidable (exP k):=by unfold exP;infer_instance
def kk(M:Nat→Option Node)(n:Node)(i:Nat):Nat:=(ndAt M (n.kids.getD i 0)).kind
def H6(M:Nat→Option Node)(n:Node):Prop:=
 (n.kind=1∧∀i,i < n.kids.length→kk M n i=2)∨
 (n.kind=2∧∀i,i < n.kids.length→kk M n i=3)∨
 (n.kind=3∧0 < n.kids.length∧(∀i,i < n.kids.length-1→kk M n i=4)∧kk M n (n.kids.length-1)=5)∨
 (n.kind=5∧n.kids.length=0)∨
 (n.kind=5∧0 < n.kids.length∧(∀i,i < n.kids.length-1→stP (kk M n i))∧(kk M n (n.kids.length-1)=10∨stP (kk M n (n.kids.length-1))))∨
 (n.kind=8∧n.kids.length=3∧exP (kk M n 0)∧kk M n 1=5∧kk M n 2=5)∨
 (n.kind=9∧n.kids.length=2∧exP (kk M n 0)∧kk M n 1=5)∨
 (n.kind=12∧n.kids.length=1∧kk M n 0=19)∨
 ((n.kind=6∨n.kind=7∨n.kind=10)∧n.kids.length=1∧exP (kk M n 0))∨
 (n.kind=18∧n.kids.length=2∧exP (kk M n 0)∧exP (kk M n 1))∨
 (n.kind=19∧∀i,i < n.kids.length→exP (kk M n i))∨
 ((n.kind=4∨n.kind=13∨n.kind=14∨n.kind=15)∧n.kids.length=0)
theorem EO(M:Nat→Option Node)(n:Node)(i:Nat)(h:i < n.kids.length):(ndAt M n.kids[i]).kind=kk M n i:=by
 unfold kk
 simp[List.getD,List.getElem?_eq_getElem h]
end Hg
namespace Go.Proofs.YtljmibnfmilfbaaGreatDoor
open Go.RowKit
open Hg (GT gl wk isK ndAt CS KB kk EO stP exP H6)
theorem Ow(k:Nat)(w:World):Calls Tryz.prog 114 #[.int .u8 (k:Int)] w fun e w'=>e= .returned (.func (.func 115) #[] #[.pointer (some ⟨w.heap.size,0,none⟩)])∧w'=w.alloc (.cells #[.int .u8 (k:Int)] 5):=by
 go_enter Tryz.func114,Tryz.ntmps114;go_wp2;go_ret;exact⟨rfl,rfl⟩
theorem XG(x:Value)(fb:Nat)(w:World):Calls Tryz.prog 113 #[.int .i64 0,.int .i64 (-1),x,.pointer (some ⟨fb,0,none⟩)] w fun e w'=>e= .returned (.bool true)∧w=w':=by
 go_enter Tryz.func113,Tryz.ntmps113;go_wp2;refine wp_loop_once ?_;go_wp2;go_ret;exact⟨rfl,rfl⟩
@[reducible] def kfV(b1 b2:Nat):Value:= .func (.func 112) #[] #[.pointer (some ⟨b1,0,none⟩),.pointer (some ⟨b2,0,none⟩)]
structure Dp (w W0:World) (ab:Nat) (M:Nat→Option Hg.Node) (n:Hg.Node) (ka:Option Addr) (kc:Nat):Prop where
 kb:Ip W0 ab w.heap.size (w.heap.size+1) M n ka kc
 cf:W0.cell? ⟨w.heap.size+2,0,none⟩=some (kfV w.heap.size (w.heap.size+1))
 lf:w.heap.size+2 < W0.heap.size
 be:Below w.heap.size w W0
theorem Dp.below{w W0 W1:World}{ab:Nat}{M:Nat→Option Hg.Node}{n:Hg.Node}{ka:Option Addr}{kc:Nat}(h:Dp w W0 ab M n ka kc)(hb:Below W0.heap.size W0 W1):Dp w W1 ab M n ka kc:=
 ⟨h.kb.below hb,(hb.cell (p:=⟨w.heap.size+2,0,none⟩) h.lf).trans h.cf,Nat.lt_of_lt_of_le h.lf hb.size,h.be.trans (hb.mono h.be.size)⟩
theorem YW{w:World}{ab:Nat}{M:Nat→Option Hg.Node}{n:Hg.Node}{ka:Option Addr}{kc:Nat}(hA:ArOk w ab M)
 (hs:Sl w w.heap.size (.slice ka n.kids.length kc) n.kids.length (n.kids.map idV)) (hl:n.kids.length≤1000000) (hk:∀k∈n.kids,k < Ae):
 Dp w (((w.alloc (.cells #[.pointer (some ⟨ab,0,none⟩)] 27)).alloc (.cells (AA n ka kc) 33)).alloc (.cells #[kfV w.heap.size (w.heap.size+1)] 160)) ab M n ka kc:=by
 have h0:=heap_alloc_new w (.cells #[.pointer (some ⟨ab,0,none⟩)] 27);have b0:Below w.heap.size w (w.alloc (.cells #[.pointer (some ⟨ab,0,none⟩)] 27)):=(Below.refl _ _).alloc (Nat.le_refl _) _;have z0:(w.alloc (.cells #[.pointer (some ⟨ab,0,none⟩)] 27)).heap.size=w.heap.size+1:=by simp
 generalize w.alloc (.cells #[.pointer (some ⟨ab,0,none⟩)] 27)=A at*;have h1:=heap_alloc_new A (.cells (AA n ka kc) 33);have b1:Below A.heap.size A (A.alloc (.cells (AA n ka kc) 33)):=(Below.refl _ _).alloc (Nat.le_refl _) _;have z1:(A.alloc (.cells (AA n ka kc) 33)).heap.size=w.heap.size+2:=by simp[z0]
 generalize A.alloc (.cells (AA n ka kc) 33)=B at*;have h2:=heap_alloc_new B (.cells #[kfV w.heap.size (w.heap.size+1)] 160);have b2:Below B.heap.size B (B.alloc (.cells #[kfV w.heap.size (w.heap.size+1)] 160)):=(Below.refl _ _).alloc (Nat.le_refl _) _;have z2:(B.alloc (.cells #[kfV w.heap.size (w.heap.size+1)] 160)).heap.size=w.heap.size+3:=by simp[z1]
 generalize B.alloc (.cells #[kfV w.heap.size (w.heap.size+1)] 160)=C at*;have hb:Below w.heap.size w C:=b0.trans ((b1.mono (by omega)).trans (b2.mono (by omega)));have k0:C.heap[w.heap.size]? =_:=(b2.block _ (by omega)).trans ((b1.block _ (by omega)).trans h0);have k1:C.heap[w.heap.size+1]? =_:=(b2.block _ (by omega)).trans (z0 ▸ h1);have k2:C.heap[w.heap.size+2]? =_:=z1 ▸ h2;have c1:=cell_of_row C (w.heap.size+1) 0 _ _ (0,0) k1;have c5:=cell_of_row C (w.heap.size+1) 5 _ _ (0,0) k1;exact⟨⟨hA.below hb,cell_of_row C w.heap.size 0 _ _ (0,0) k0,c1,c5,by omega,(hs.below hb (Nat.le_refl _)).more hb.size,hl,hk⟩,cell_of_row C (w.heap.size+2) 0 _ _ (0,0) k2,by omega,hb⟩
@[local go_sem] theorem Xc{P:Program}{w:World}{a:Addr}{m:Mode}(fn:Fn)(first captured:Array Value):(store a (.func fn first captured) m).run P w=stored P w a (.func fn first captured) m:=run_store P w a _ m rfl
@[local go_sem] theorem VQ{P:Program}{w:World}{a:Addr}{m:Mode}:(store a .nilFunc m).run P w=stored P w a .nilFunc m:=run_store P w a _ m rfl
theorem UA(ab:Nat)(M:Nat→Option Hg.Node)(n:Hg.Node)(ka:Option Addr)(kc:Nat)(w:World)(hA:ArOk w ab M)
 (hs:Sl w w.heap.size (.slice ka n.kids.length kc) n.kids.length (n.kids.map idV)) (hl:n.kids.length≤1000000) (hk:∀k∈n.kids,k < Ae) (hP:H6 M n):
 Calls Tryz.prog 73 #[.pointer (some ⟨ab,0,none⟩),ndV n ka kc] w fun e w'=>e= .returned (.bool true)∧Below w.heap.size w w':=by
 obtain⟨kd,nm,nu,ty,rf,ks⟩:=n;have KS:=zz (YW hA hs hl hk);unfold H6 at hP;dsimp only at hP hl KS;clear hA hs hk;rcases hP with⟨rfl,hall⟩|⟨rfl,hall⟩|⟨rfl,hpos,hall,hlast⟩|⟨rfl,h0⟩|⟨rfl,hpos,hall,hlast⟩|⟨rfl,h3,e0,k1,k2⟩|⟨rfl,h2,e0,k1⟩|⟨rfl,h1,k0⟩|⟨hkd,h1,e0⟩|⟨rfl,h2,e0,e1⟩|⟨rfl,hall⟩|⟨hkd,h0⟩
 ·skip
  go_enter Tryz.func73,Tryz.ntmps73;go_wp2_with fail;have hks:=zz (KS.out);clear KS;generalize hW0:World.alloc (World.alloc (World.alloc w _) _) _=W0;have HKS:=zz (show Dp w W0 ab M ⟨1,nm,nu,ty,rf,ks⟩ ka kc from hW0 ▸ hks.out);clear hks hW0;have cf:=HKS.out.cf;replace cf:World.cell? _ ⟨w.heap.size+1+1,0,none⟩=some (.func (.func 112) #[] #[.pointer (some ⟨w.heap.size,0,none⟩),.pointer (some ⟨w.heap.size+1,0,none⟩)]):=cf;refine(Ow 2 _).mono ?_;rintro e w1 ⟨rfl,rfl⟩;have HKQ:=zz (HKS.out.below ((Below.refl _ _).alloc (Nat.le_refl _) (.cells #[.int .u8 ((2:Nat):Int)] 5)));have hcq:=cell_of_row _ _ 0 _ _ (0,0) (heap_alloc_new W0 (.cells #[.int .u8 ((2:Nat):Int)] 5));have hqz:(W0).heap.size < ((W0).alloc (.cells #[.int .u8 ((2:Nat):Int)] 5)).heap.size:=by simp
  clear cf;go_wp2_with fail;refine(KR ab w.heap.size (w.heap.size+1) (w.heap.size+2) M _ ka kc 0 ks.length (W0).heap.size 2 _ HKQ.out.kb HKQ.out.cf HKQ.out.lf ⟨hcq,hqz⟩ (show ks.length≤ks.length by omega) (fun i hi h1 h2=>by rw[EO];exact hall i (by simpa using hi))).mono ?_;rintro e w2 ⟨rfl,hb2⟩;have HKS:=zz (HKQ.out.below hb2);have cf:=HKS.out.cf;replace cf:World.cell? _ ⟨w.heap.size+1+1,0,none⟩=some (.func (.func 112) #[] #[.pointer (some ⟨w.heap.size,0,none⟩),.pointer (some ⟨w.heap.size+1,0,none⟩)]):=cf;clear HKQ hcq hb2 hqz;go_wp2;go_ret;exact⟨rfl,HKS.out.be⟩
 ·skip
  go_enter Tryz.func73,Tryz.ntmps73;go_wp2_with fail;have hks:=zz (KS.out);clear KS;generalize hW0:World.alloc (World.alloc (World.alloc w _) _) _=W0;have HKS:=zz (show Dp w W0 ab M ⟨2,nm,nu,ty,rf,ks⟩ ka kc from hW0 ▸ hks.out);clear hks hW0;have cf:=HKS.out.cf;replace cf:World.cell? _ ⟨w.heap.size+1+1,0,none⟩=some (.func (.func 112) #[] #[.pointer (some ⟨w.heap.size,0,none⟩),.pointer (some ⟨w.heap.size+1,0,none⟩)]):=cf;refine(Ow 3 _).mono ?_;rintro e w1 ⟨rfl,rfl⟩;have HKQ:=zz (HKS.out.below ((Below.refl _ _).alloc (Nat.le_refl _) (.cells #[.int .u8 ((3:Nat):Int)] 5)));have hcq:=cell_of_row _ _ 0 _ _ (0,0) (heap_alloc_new W0 (.cells #[.int .u8 ((3:Nat):Int)] 5));have hqz:(W0).heap.size < ((W0).alloc (.cells #[.int .u8 ((3:Nat):Int)] 5)).heap.size:=by simp
  clear cf;go_wp2_with fail;refine(KR ab w.heap.size (w.heap.size+1) (w.heap.size+2) M _ ka kc 0 ks.length (W0).heap.size 3 _ HKQ.out.kb HKQ.out.cf HKQ.out.lf ⟨hcq,hqz⟩ (show ks.length≤ks.length by omega) (fun i hi h1 h2=>by rw[EO];exact hall i (by simpa using hi))).mono ?_;rintro e w2 ⟨rfl,hb2⟩;have HKS:=zz (HKQ.out.below hb2);have cf:=HKS.out.cf;replace cf:World.cell? _ ⟨w.heap.size+1+1,0,none⟩=some (.func (.func 112) #[] #[.pointer (some ⟨w.heap.size,0,none⟩),.pointer (some ⟨w.heap.size+1,0,none⟩)]):=cf;clear HKQ hcq hb2 hqz;go_wp2;go_ret;exact⟨rfl,HKS.out.be⟩
 ·skip
  obtain⟨m,hm⟩:∃m,ks.length=m+1:=⟨ks.length-1,by omega⟩;have hm1:ks.length-1=m:=by omega
  rw[hm1] at hall hlast;have hsub:IntKind.i64.wrap ((ks.length:Int)-1)=(m:Int):=by rw[show((ks.length:Int)-1)=(m:Int) from by omega];exact IntWalk.i64_in _ (by omega)
  have HM:=zz hm;have hml:m < ks.length:=by omega
  have hp1:decide ((0:Int) < (ks.length:Int))=true:=by simpa using(by omega:(0:Int) < (ks.length:Int))
  have hp2:decide (0 < ks.length)=true:=by simpa using hpos
  have hp3:((ks.length:Int)==0)=false:=by rw[beq_eq_false_iff_ne];omega
  clear hm hm1;go_enter Tryz.func73,Tryz.ntmps73;go_wp2_with fail;have hks:=zz (KS.out);clear KS;generalize hW0:World.alloc (World.alloc (World.alloc w _) _) _=W0;have HKS:=zz (show Dp w W0 ab M ⟨3,nm,nu,ty,rf,ks⟩ ka kc from hW0 ▸ hks.out);clear hks hW0;have cf:=HKS.out.cf;replace cf:World.cell? _ ⟨w.heap.size+1+1,0,none⟩=some (.func (.func 112) #[] #[.pointer (some ⟨w.heap.size,0,none⟩),.pointer (some ⟨w.heap.size+1,0,none⟩)]):=cf;refine(Ow 4 _).mono ?_;rintro e w1 ⟨rfl,rfl⟩;have HKQ:=zz (HKS.out.below ((Below.refl _ _).alloc (Nat.le_refl _) (.cells #[.int .u8 ((4:Nat):Int)] 5)));have hcq:=cell_of_row _ _ 0 _ _ (0,0) (heap_alloc_new W0 (.cells #[.int .u8 ((4:Nat):Int)] 5));have hqz:(W0).heap.size < ((W0).alloc (.cells #[.int .u8 ((4:Nat):Int)] 5)).heap.size:=by simp
  clear cf;go_wp2_with fail;refine(KR ab w.heap.size (w.heap.size+1) (w.heap.size+2) M _ ka kc 0 m (W0).heap.size 4 _ HKQ.out.kb HKQ.out.cf HKQ.out.lf ⟨hcq,hqz⟩ (show m≤ks.length by omega) (fun i hi h1 h2=>by rw[EO];exact hall i (by omega))).mono ?_;rintro e w2 ⟨rfl,hb2⟩;have HKS:=zz (HKQ.out.below hb2);have cf:=HKS.out.cf;replace cf:World.cell? _ ⟨w.heap.size+1+1,0,none⟩=some (.func (.func 112) #[] #[.pointer (some ⟨w.heap.size,0,none⟩),.pointer (some ⟨w.heap.size+1,0,none⟩)]):=cf;clear HKQ hcq hb2 hqz;go_wp2_with fail;have TK:=Co ab w.heap.size (w.heap.size+1) M _ ka kc m _ HKS.out.kb (show m < ks.length by omega);rw[EO,hlast] at TK;refine TK.mono ?_;rintro e w5 ⟨rfl,hbk⟩;clear TK;have HKS:=zz (HKS.out.below hbk);have cf:=HKS.out.cf;replace cf:World.cell? _ ⟨w.heap.size+1+1,0,none⟩=some (.func (.func 112) #[] #[.pointer (some ⟨w.heap.size,0,none⟩),.pointer (some ⟨w.heap.size+1,0,none⟩)]):=cf;clear hbk;go_wp2;go_ret;exact⟨rfl,HKS.out.be⟩
 ·skip
  have hp3:((ks.length:Int)==0)=true:=by simp[h0]
  have hsub:IntKind.i64.wrap ((ks.length:Int)-1)= -1:=by rw[h0];decide
  have hl0:=zz h0;clear h0;go_enter Tryz.func73,Tryz.ntmps73;go_wp2_with fail;have hks:=zz (KS.out);clear KS;generalize hW0:World.alloc (World.alloc (World.alloc w _) _) _=W0;have HKS:=zz (show Dp w W0 ab M ⟨5,nm,nu,ty,rf,ks⟩ ka kc from hW0 ▸ hks.out);clear hks hW0;have cf:=HKS.out.cf;replace cf:World.cell? _ ⟨w.heap.size+1+1,0,none⟩=some (.func (.func 112) #[] #[.pointer (some ⟨w.heap.size,0,none⟩),.pointer (some ⟨w.heap.size+1,0,none⟩)]):=cf;refine(XG _ _ _).mono ?_;rintro e w1 ⟨rfl,rfl⟩;go_wp2;go_ret;exact⟨rfl,HKS.out.be⟩
 ·skip
  obtain⟨m,hm⟩:∃m,ks.length=m+1:=⟨ks.length-1,by omega⟩;have hm1:ks.length-1=m:=by omega
  rw[hm1] at hall hlast;have hsub:IntKind.i64.wrap ((ks.length:Int)-1)=(m:Int):=by rw[show((ks.length:Int)-1)=(m:Int) from by omega];exact IntWalk.i64_in _ (by omega)
  have HM:=zz hm;have hml:m < ks.length:=by omega
  have hp1:decide ((0:Int) < (ks.length:Int))=true:=by simpa using(by omega:(0:Int) < (ks.length:Int))
  have hp2:decide (0 < ks.length)=true:=by simpa using hpos
  have hp3:((ks.length:Int)==0)=false:=by rw[beq_eq_false_iff_ne];omega
  clear hm hm1;go_enter Tryz.func73,Tryz.ntmps73;go_wp2_with fail;have hks:=zz (KS.out);clear KS;generalize hW0:World.alloc (World.alloc (World.alloc w _) _) _=W0;have HKS:=zz (show Dp w W0 ab M ⟨5,nm,nu,ty,rf,ks⟩ ka kc from hW0 ▸ hks.out);clear hks hW0;have cf:=HKS.out.cf;replace cf:World.cell? _ ⟨w.heap.size+1+1,0,none⟩=some (.func (.func 112) #[] #[.pointer (some ⟨w.heap.size,0,none⟩),.pointer (some ⟨w.heap.size+1,0,none⟩)]):=cf;refine(XF ab w.heap.size (w.heap.size+1) (w.heap.size+2) M _ ka kc 0 m _ HKS.out.kb HKS.out.cf HKS.out.lf (show m≤ks.length by omega) (fun i hi h1 h2=>by rw[EO];exact hall i (by omega))).mono ?_;rintro e w2 ⟨rfl,hb2⟩;have HKS:=zz (HKS.out.below hb2);have cf:=HKS.out.cf;replace cf:World.cell? _ ⟨w.heap.size+1+1,0,none⟩=some (.func (.func 112) #[] #[.pointer (some ⟨w.heap.size,0,none⟩),.pointer (some ⟨w.heap.size+1,0,none⟩)]):=cf;clear hb2;rcases hlast with hlast|hlast
  ·go_wp2_with fail
   have TK:=Co ab w.heap.size (w.heap.size+1) M _ ka kc m _ HKS.out.kb (show m < ks.length by omega);rw[EO,hlast] at TK;refine TK.mono ?_;rintro e w5 ⟨rfl,hbk⟩;clear TK;have HKS:=zz (HKS.out.below hbk);have cf:=HKS.out.cf;replace cf:World.cell? _ ⟨w.heap.size+1+1,0,none⟩=some (.func (.func 112) #[] #[.pointer (some ⟨w.heap.size,0,none⟩),.pointer (some ⟨w.heap.size+1,0,none⟩)]):=cf;clear hbk;go_wp2;go_ret;exact⟨rfl,HKS.out.be⟩
  ·go_wp2_with fail
   obtain⟨q7,hq7⟩:∃q,kk M ⟨5,nm,nu,ty,rf,ks⟩ m=q:=⟨_,rfl⟩;rw[hq7] at hlast;have he7:=zz hlast;have hqq:=hq7;have HQ7:=zz hq7;clear hq7;have TK:=Co ab w.heap.size (w.heap.size+1) M _ ka kc m _ HKS.out.kb (show m < ks.length by omega);rw[EO,hqq] at TK;refine TK.mono ?_;rintro e w7 ⟨rfl,hbk⟩;clear TK;have HKS:=zz (HKS.out.below hbk);have cf:=HKS.out.cf;replace cf:World.cell? _ ⟨w.heap.size+1+1,0,none⟩=some (.func (.func 112) #[] #[.pointer (some ⟨w.heap.size,0,none⟩),.pointer (some ⟨w.heap.size+1,0,none⟩)]):=cf;clear hbk;clear hqq;by_cases h10:q7=10
   ·subst h10
    exact absurd rfl he7.out.2.2
   ·have hq10:((q7:Int)==10)=false:=by simp;omega
    clear h10;go_wp2_with fail;have TK:=Co ab w.heap.size (w.heap.size+1) M _ ka kc m _ HKS.out.kb (show m < ks.length by omega);rw[EO,HQ7.out] at TK;refine TK.mono ?_;rintro e w8 ⟨rfl,hbk⟩;clear TK;have HKS:=zz (HKS.out.below hbk);have cf:=HKS.out.cf;replace cf:World.cell? _ ⟨w.heap.size+1+1,0,none⟩=some (.func (.func 112) #[] #[.pointer (some ⟨w.heap.size,0,none⟩),.pointer (some ⟨w.heap.size+1,0,none⟩)]):=cf;clear hbk;go_wp2_with fail;refine(NW q7 _ he7.out).mono ?_;rintro e w9 ⟨rfl,rfl⟩;go_wp2;go_ret;exact⟨rfl,HKS.out.be⟩
 ·skip
  have hp:((ks.length:Int)==3)=true:=by simp[h3]
  have hl3:=zz h3;have hlen:3≤ks.length:=by omega
  clear h3;go_enter Tryz.func73,Tryz.ntmps73;go_wp2_with fail;have hks:=zz (KS.out);clear KS;generalize hW0:World.alloc (World.alloc (World.alloc w _) _) _=W0;have HKS:=zz (show Dp w W0 ab M ⟨8,nm,nu,ty,rf,ks⟩ ka kc from hW0 ▸ hks.out);clear hks hW0;have cf:=HKS.out.cf;replace cf:World.cell? _ ⟨w.heap.size+1+1,0,none⟩=some (.func (.func 112) #[] #[.pointer (some ⟨w.heap.size,0,none⟩),.pointer (some ⟨w.heap.size+1,0,none⟩)]):=cf;obtain⟨q7,hq7⟩:∃q,kk M ⟨8,nm,nu,ty,rf,ks⟩ 0=q:=⟨_,rfl⟩;rw[hq7] at e0;have he7:=zz e0;have hqq:=hq7;clear hq7;have TK:=Co ab w.heap.size (w.heap.size+1) M _ ka kc 0 _ HKS.out.kb (show 0 < ks.length by omega);rw[EO,hqq] at TK;refine TK.mono ?_;rintro e w7 ⟨rfl,hbk⟩;clear TK;have HKS:=zz (HKS.out.below hbk);have cf:=HKS.out.cf;replace cf:World.cell? _ ⟨w.heap.size+1+1,0,none⟩=some (.func (.func 112) #[] #[.pointer (some ⟨w.heap.size,0,none⟩),.pointer (some ⟨w.heap.size+1,0,none⟩)]):=cf;clear hbk;clear hqq;go_wp2_with fail;refine(FY q7 _ he7.out).mono ?_;rintro e w9 ⟨rfl,rfl⟩;go_wp2_with fail;refine(Ow 5 _).mono ?_;rintro e w1 ⟨rfl,rfl⟩;have HKQ:=zz (HKS.out.below ((Below.refl _ _).alloc (Nat.le_refl _) (.cells #[.int .u8 ((5:Nat):Int)] 5)));have hcq:=cell_of_row _ _ 0 _ _ (0,0) (heap_alloc_new w7 (.cells #[.int .u8 ((5:Nat):Int)] 5));have hqz:(w7).heap.size < ((w7).alloc (.cells #[.int .u8 ((5:Nat):Int)] 5)).heap.size:=by simp
  clear cf;go_wp2_with fail;refine(KR ab w.heap.size (w.heap.size+1) (w.heap.size+2) M _ ka kc 1 3 (w7).heap.size 5 _ HKQ.out.kb HKQ.out.cf HKQ.out.lf ⟨hcq,hqz⟩ (show 3≤ks.length by omega) (fun i hi h1 h2=>by rw[EO];exact(by rcases(show i=1∨i=2 by omega) with rfl|rfl <;>assumption))).mono ?_;rintro e w2 ⟨rfl,hb2⟩;have HKS:=zz (HKQ.out.below hb2);have cf:=HKS.out.cf;replace cf:World.cell? _ ⟨w.heap.size+1+1,0,none⟩=some (.func (.func 112) #[] #[.pointer (some ⟨w.heap.size,0,none⟩),.pointer (some ⟨w.heap.size+1,0,none⟩)]):=cf;clear HKQ hcq hb2 hqz;go_wp2;go_ret;exact⟨rfl,HKS.out.be⟩
 ·skip
  have hp:((ks.length:Int)==2)=true:=by simp[h2]
  have hlen:2≤ks.length:=by omega
  clear h2;go_enter Tryz.func73,Tryz.ntmps73;go_wp2_with fail;have hks:=zz (KS.out);clear KS;generalize hW0:World.alloc (World.alloc (World.alloc w _) _) _=W0;have HKS:=zz (show Dp w W0 ab M ⟨9,nm,nu,ty,rf,ks⟩ ka kc from hW0 ▸ hks.out);clear hks hW0;have cf:=HKS.out.cf;replace cf:World.cell? _ ⟨w.heap.size+1+1,0,none⟩=some (.func (.func 112) #[] #[.pointer (some ⟨w.heap.size,0,none⟩),.pointer (some ⟨w.heap.size+1,0,none⟩)]):=cf;obtain⟨q7,hq7⟩:∃q,kk M ⟨9,nm,nu,ty,rf,ks⟩ 0=q:=⟨_,rfl⟩;rw[hq7] at e0;have he7:=zz e0;have hqq:=hq7;clear hq7;have TK:=Co ab w.heap.size (w.heap.size+1) M _ ka kc 0 _ HKS.out.kb (show 0 < ks.length by omega);rw[EO,hqq] at TK;refine TK.mono ?_;rintro e w7 ⟨rfl,hbk⟩;clear TK;have HKS:=zz (HKS.out.below hbk);have cf:=HKS.out.cf;replace cf:World.cell? _ ⟨w.heap.size+1+1,0,none⟩=some (.func (.func 112) #[] #[.pointer (some ⟨w.heap.size,0,none⟩),.pointer (some ⟨w.heap.size+1,0,none⟩)]):=cf;clear hbk;clear hqq;go_wp2_with fail;refine(FY q7 _ he7.out).mono ?_;rintro e w9 ⟨rfl,rfl⟩;go_wp2_with fail;have TK:=Co ab w.heap.size (w.heap.size+1) M _ ka kc 1 _ HKS.out.kb (show 1 < ks.length by omega);rw[EO,k1] at TK;refine TK.mono ?_;rintro e w8 ⟨rfl,hbk⟩;clear TK;have HKS:=zz (HKS.out.below hbk);have cf:=HKS.out.cf;replace cf:World.cell? _ ⟨w.heap.size+1+1,0,none⟩=some (.func (.func 112) #[] #[.pointer (some ⟨w.heap.size,0,none⟩),.pointer (some ⟨w.heap.size+1,0,none⟩)]):=cf;clear hbk;go_wp2;go_ret;exact⟨rfl,HKS.out.be⟩
 ·skip
  have hp:((ks.length:Int)==1)=true:=by simp[h1]
  have hlen:1≤ks.length:=by omega
  clear h1;go_enter Tryz.func73,Tryz.ntmps73;go_wp2_with fail;have hks:=zz (KS.out);clear KS;generalize hW0:World.alloc (World.alloc (World.alloc w _) _) _=W0;have HKS:=zz (show Dp w W0 ab M ⟨12,nm,nu,ty,rf,ks⟩ ka kc from hW0 ▸ hks.out);clear hks hW0;have cf:=HKS.out.cf;replace cf:World.cell? _ ⟨w.heap.size+1+1,0,none⟩=some (.func (.func 112) #[] #[.pointer (some ⟨w.heap.size,0,none⟩),.pointer (some ⟨w.heap.size+1,0,none⟩)]):=cf;have TK:=Co ab w.heap.size (w.heap.size+1) M _ ka kc 0 _ HKS.out.kb (show 0 < ks.length by omega);rw[EO,k0] at TK;refine TK.mono ?_;rintro e w8 ⟨rfl,hbk⟩;clear TK;have HKS:=zz (HKS.out.below hbk);have cf:=HKS.out.cf;replace cf:World.cell? _ ⟨w.heap.size+1+1,0,none⟩=some (.func (.func 112) #[] #[.pointer (some ⟨w.heap.size,0,none⟩),.pointer (some ⟨w.heap.size+1,0,none⟩)]):=cf;clear hbk;go_wp2;go_ret;exact⟨rfl,HKS.out.be⟩
 ·skip
  have hp:((ks.length:Int)==1)=true:=by simp[h1]
  have hlen:1≤ks.length:=by omega
  clear h1;rcases hkd with rfl|rfl|rfl
  ·skip
   go_enter Tryz.func73,Tryz.ntmps73;go_wp2_with fail;have hks:=zz (KS.out);clear KS;generalize hW0:World.alloc (World.alloc (World.alloc w _) _) _=W0;have HKS:=zz (show Dp w W0 ab M ⟨6,nm,nu,ty,rf,ks⟩ ka kc from hW0 ▸ hks.out);clear hks hW0;have cf:=HKS.out.cf;replace cf:World.cell? _ ⟨w.heap.size+1+1,0,none⟩=some (.func (.func 112) #[] #[.pointer (some ⟨w.heap.size,0,none⟩),.pointer (some ⟨w.heap.size+1,0,none⟩)]):=cf;obtain⟨q7,hq7⟩:∃q,kk M ⟨6,nm,nu,ty,rf,ks⟩ 0=q:=⟨_,rfl⟩;rw[hq7] at e0;have he7:=zz e0;have hqq:=hq7;clear hq7;have TK:=Co ab w.heap.size (w.heap.size+1) M _ ka kc 0 _ HKS.out.kb (show 0 < ks.length by omega);rw[EO,hqq] at TK;refine TK.mono ?_;rintro e w7 ⟨rfl,hbk⟩;clear TK;have HKS:=zz (HKS.out.below hbk);have cf:=HKS.out.cf;replace cf:World.cell? _ ⟨w.heap.size+1+1,0,none⟩=some (.func (.func 112) #[] #[.pointer (some ⟨w.heap.size,0,none⟩),.pointer (some ⟨w.heap.size+1,0,none⟩)]):=cf;clear hbk;clear hqq;go_wp2_with fail;refine(FY q7 _ he7.out).mono ?_;rintro e w9 ⟨rfl,rfl⟩;go_wp2;go_ret;exact⟨rfl,HKS.out.be⟩
  ·skip
   go_enter Tryz.func73,Tryz.ntmps73;go_wp2_with fail;have hks:=zz (KS.out);clear KS;generalize hW0:World.alloc (World.alloc (World.alloc w _) _) _=W0;have HKS:=zz (show Dp w W0 ab M ⟨7,nm,nu,ty,rf,ks⟩ ka kc from hW0 ▸ hks.out);clear hks hW0;have cf:=HKS.out.cf;replace cf:World.cell? _ ⟨w.heap.size+1+1,0,none⟩=some (.func (.func 112) #[] #[.pointer (some ⟨w.heap.size,0,none⟩),.pointer (some ⟨w.heap.size+1,0,none⟩)]):=cf;obtain⟨q7,hq7⟩:∃q,kk M ⟨7,nm,nu,ty,rf,ks⟩ 0=q:=⟨_,rfl⟩;rw[hq7] at e0;have he7:=zz e0;have hqq:=hq7;clear hq7;have TK:=Co ab w.heap.size (w.heap.size+1) M _ ka kc 0 _ HKS.out.kb (show 0 < ks.length by omega);rw[EO,hqq] at TK;refine TK.mono ?_;rintro e w7 ⟨rfl,hbk⟩;clear TK;have HKS:=zz (HKS.out.below hbk);have cf:=HKS.out.cf;replace cf:World.cell? _ ⟨w.heap.size+1+1,0,none⟩=some (.func (.func 112) #[] #[.pointer (some ⟨w.heap.size,0,none⟩),.pointer (some ⟨w.heap.size+1,0,none⟩)]):=cf;clear hbk;clear hqq;go_wp2_with fail;refine(FY q7 _ he7.out).mono ?_;rintro e w9 ⟨rfl,rfl⟩;go_wp2;go_ret;exact⟨rfl,HKS.out.be⟩
  ·skip
   go_enter Tryz.func73,Tryz.ntmps73;go_wp2_with fail;have hks:=zz (KS.out);clear KS;generalize hW0:World.alloc (World.alloc (World.alloc w _) _) _=W0;have HKS:=zz (show Dp w W0 ab M ⟨10,nm,nu,ty,rf,ks⟩ ka kc from hW0 ▸ hks.out);clear hks hW0;have cf:=HKS.out.cf;replace cf:World.cell? _ ⟨w.heap.size+1+1,0,none⟩=some (.func (.func 112) #[] #[.pointer (some ⟨w.heap.size,0,none⟩),.pointer (some ⟨w.heap.size+1,0,none⟩)]):=cf;obtain⟨q7,hq7⟩:∃q,kk M ⟨10,nm,nu,ty,rf,ks⟩ 0=q:=⟨_,rfl⟩;rw[hq7] at e0;have he7:=zz e0;have hqq:=hq7;clear hq7;have TK:=Co ab w.heap.size (w.heap.size+1) M _ ka kc 0 _ HKS.out.kb (show 0 < ks.length by omega);rw[EO,hqq] at TK;refine TK.mono ?_;rintro e w7 ⟨rfl,hbk⟩;clear TK;have HKS:=zz (HKS.out.below hbk);have cf:=HKS.out.cf;replace cf:World.cell? _ ⟨w.heap.size+1+1,0,none⟩=some (.func (.func 112) #[] #[.pointer (some ⟨w.heap.size,0,none⟩),.pointer (some ⟨w.heap.size+1,0,none⟩)]):=cf;clear hbk;clear hqq;go_wp2_with fail;refine(FY q7 _ he7.out).mono ?_;rintro e w9 ⟨rfl,rfl⟩;go_wp2;go_ret;exact⟨rfl,HKS.out.be⟩
 ·skip
  have hp:((ks.length:Int)==2)=true:=by simp[h2]
  have hlen:2≤ks.length:=by omega
  clear h2;go_enter Tryz.func73,Tryz.ntmps73;go_wp2_with fail;have hks:=zz (KS.out);clear KS;generalize hW0:World.alloc (World.alloc (World.alloc w _) _) _=W0;have HKS:=zz (show Dp w W0 ab M ⟨18,nm,nu,ty,rf,ks⟩ ka kc from hW0 ▸ hks.out);clear hks hW0;have cf:=HKS.out.cf;replace cf:World.cell? _ ⟨w.heap.size+1+1,0,none⟩=some (.func (.func 112) #[] #[.pointer (some ⟨w.heap.size,0,none⟩),.pointer (some ⟨w.heap.size+1,0,none⟩)]):=cf;refine(Qp ab w.heap.size (w.heap.size+1) (w.heap.size+2) M _ ka kc 0 2 _ HKS.out.kb HKS.out.cf HKS.out.lf (show 2≤ks.length by omega) (fun i hi h1 h2=>by rw[EO];exact(by rcases(show i=0∨i=1 by omega) with rfl|rfl <;>assumption))).mono ?_;rintro e w2 ⟨rfl,hb2⟩;have HKS:=zz (HKS.out.below hb2);have cf:=HKS.out.cf;replace cf:World.cell? _ ⟨w.heap.size+1+1,0,none⟩=some (.func (.func 112) #[] #[.pointer (some ⟨w.heap.size,0,none⟩),.pointer (some ⟨w.heap.size+1,0,none⟩)]):=cf;clear hb2;go_wp2;go_ret;exact⟨rfl,HKS.out.be⟩
 ·skip
  go_enter Tryz.func73,Tryz.ntmps73;go_wp2_with fail;have hks:=zz (KS.out);clear KS;generalize hW0:World.alloc (World.alloc (World.alloc w _) _) _=W0;have HKS:=zz (show Dp w W0 ab M ⟨19,nm,nu,ty,rf,ks⟩ ka kc from hW0 ▸ hks.out);clear hks hW0;have cf:=HKS.out.cf;replace cf:World.cell? _ ⟨w.heap.size+1+1,0,none⟩=some (.func (.func 112) #[] #[.pointer (some ⟨w.heap.size,0,none⟩),.pointer (some ⟨w.heap.size+1,0,none⟩)]):=cf;refine(Qp ab w.heap.size (w.heap.size+1) (w.heap.size+2) M _ ka kc 0 ks.length _ HKS.out.kb HKS.out.cf HKS.out.lf (show ks.length≤ks.length by omega) (fun i hi h1 h2=>by rw[EO];exact hall i (by simpa using hi))).mono ?_;rintro e w2 ⟨rfl,hb2⟩;have HKS:=zz (HKS.out.below hb2);have cf:=HKS.out.cf;replace cf:World.cell? _ ⟨w.heap.size+1+1,0,none⟩=some (.func (.func 112) #[] #[.pointer (some ⟨w.heap.size,0,none⟩),.pointer (some ⟨w.heap.size+1,0,none⟩)]):=cf;clear hb2;go_wp2;go_ret;exact⟨rfl,HKS.out.be⟩
 ·skip
  have hp:((ks.length:Int)==0)=true:=by simp[h0]
  clear h0;rcases hkd with rfl|rfl|rfl|rfl
  ·have hks:=zz KS.out.be
   clear KS;go_enter Tryz.func73,Tryz.ntmps73;go_wp2;go_ret;exact⟨rfl,hks.out⟩
  ·have hks:=zz KS.out.be
   clear KS;go_enter Tryz.func73,Tryz.ntmps73;go_wp2;go_ret;exact⟨rfl,hks.out⟩
  ·have hks:=zz KS.out.be
   clear KS;go_enter Tryz.func73,Tryz.ntmps73;go_wp2;go_ret;exact⟨rfl,hks.out⟩
  ·have hks:=zz KS.out.be
   clear KS;go_enter Tryz.func73,Tryz.ntmps73;go_wp2;go_ret;exact⟨rfl,hks.out⟩
end Go.Proofs.YtljmibnfmilfbaaGreatDoor
