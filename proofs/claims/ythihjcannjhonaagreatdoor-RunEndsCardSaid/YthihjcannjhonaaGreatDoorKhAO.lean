/-
  A part of the proof.
-/
import Derived.Test.YthihjcannjhonaaGreatDoorKhAI
import Derived.Test.YthihjcannjhonaaGreatDoorKhAG
import Derived.Deep.CutRange
import Derived.RangeFuncBox
set_option linter.all false
set_option maxHeartbeats 32000000
set_option maxRecDepth 100000
namespace Go.Proofs.YthihjcannjhonaaGreatDoor
open Go.RowKit
theorem YU:(Tryz.prog.info? 51).map (fun i=>(i.zero,i.size,i.bytes))=some (some (.int .u64 0),1,8):=by kernel_rfl
def Za(l:List Hg.Row)(r:List Nat)(w:World)(K:Nat)(k:Nat)(out wait:Value)(wr:World):Prop:=
 ∃(wl ol:List Nat) (g o c:Nat),Hg.D8 l k wl ol=some r∧wr.ownsRow w.heap.size 51 1 out ol.length (ol.map idV)∧wait= .slice (some ⟨g,o,none⟩) wl.length c∧wl.length≤c∧
   g < wr.heap.size∧out.ownBlock≠some g∧(∀j,(h:j < wl.length)→wr.cell? ⟨g,o+j,none⟩=some (idV wl[j]))∧Hg.Dm l wl ol < k∧ol.length+k≤K∧Below w.heap.size w wr
theorem Kq(B:Nat)(v:Value)(l:List Hg.Row)(id:Nat)(w:World)(hB:B≤w.heap.size)(hx:Az w B v l)(hl:l.length≤1000000000)(hks:Hg.BO l≤100000000):
 Calls Tryz.prog 103 #[v,.int .u64 (id:Int)] w fun e w'=>(∃a c,e= .returned (.slice a (Hg.walk l id).length c)∧Sl w' w'.heap.size (.slice a (Hg.walk l id).length c) (Hg.walk l id).length ((Hg.walk l id).map idV))∧Below w.heap.size w w':=by
 obtain⟨j0,hj,hj0,hj1,hj2⟩:=info_parts YU;have hX:=zz hx;obtain⟨a,c,rfl⟩:=hx.form;clear hx;have hw:=Hg.PE l id;have hmu:Hg.Dm l [id] [] < Hg.BO l+2:=by
  unfold Hg.Dm;have:l.filter (fun r=> !Hg.isIn [] r.id)=l:=by rw[List.filter_eq_self];intro r _;rfl
  rw[this];simp;omega
 have HW:=zz hw;clear hw;generalize Hg.walk l id=r at HW;generalize hK:Hg.BO l+2=K at HW hmu;have hKb:K≤100000002:=by omega
 clear hK hks;go_enter Tryz.func103,Tryz.ntmps103;go_wp2
 go_loopg [5,6] K (fun k out wait wr=>Za l r w K k out wait wr)
 case atStart=>
  refine⟨[id],[],w.heap.size,0,1,HW.out,World.ownsRow_nil _ _ _ _,rfl,AA,by simp,by simp[Value.ownBlock],fun j hj=> ?_,hmu,by simp,(AP).alloc AA _⟩;simp at hj;subst hj
  simp[go_sem]
 case round=>
  obtain⟨wl,ol,g,o,c2,hgo,hown,rfl,hlc,hgl,hne,hcells,hmu2,hKK,hb⟩:=hrel;have HO:=zz hown;have HNE:=zz hne;clear hown hne HW hmu;cases gk with
  |zero=>omega
  |succ kf=>
    cases wl with
    |nil=>
      rw[Hg.D8] at hgo;injection hgo with hgo;clear hcells;subst hgo;go_wp2;go_ret;have hs:=Sl.Aj HO.out;obtain⟨a2,c3,hv⟩:=hs.form;subst hv;exact⟨⟨a2,c3,rfl,hs⟩,hb⟩
    |cons i tl=>
      have hc0:=hcells 0 (by simp);simp only[Nat.add_zero,List.getElem_cons_zero] at hc0;simp only[List.length_cons] at hlc;rw[Hg.D8] at hgo;by_cases hc1:c2=1
      ·have htl:tl=[]:=List.eq_nil_of_length_eq_zero (by omega)
       have hct:∀j,(h:j < tl.length)→wr.cell? ⟨g,o+j,none⟩=some (idV tl[j]):=fun j h=>by rw[htl] at h;simp at h
       clear htl hcells;subst hc1;have HLC:=zz hlc;clear hlc;have HCT:=zz hct;clear hct;have hbs:=hb.size;cases hk:Hg.atI l i with
       |none=>
         rw[hk] at hgo;have HGO:=zz hgo;have HA:=zz (De hk);clear hgo hk
         go_wp2_with (go_at_call 102;refine(DW B _ l i _ (by omega) (hX.out.below hb hB) hl).mono ?_;rintro e w1 ⟨rfl,hb1⟩;rw[HA.out])
         go_roundg kf
         case measure=>omega
         case rel=>
          exact⟨tl,ol,g,o,0,HGO.out,BK HO.out hb1 AA,rfl,by have:=HLC.out;omega,Ad hgl hb1.size,HNE.out,fun j h=>(hb1.cell (p:=⟨g,o+j,none⟩) hgl).trans (HCT.out j h),by unfold Hg.Dm at hmu2⊢;simp at hmu2;omega,by omega,hb.trans (hb1.mono hb.size)⟩
       |some k=>
         rw[hk] at hgo;dsimp only at hgo;have hkr:=D5 hk;have HA:=zz (Dc hk);have hkn:=hk;by_cases hin:Hg.isIn ol i=true
         ·rw[if_pos hin] at hgo
          have HGO:=zz hgo;have HIN:=zz hin;clear hgo hk hkr hin hkn
          go_wp2_with (first
           |(go_at_call 102;refine(DW B _ l i _ (by omega) (hX.out.below hb hB) hl).mono ?_;rintro e w1 ⟨rfl,hb1⟩;rw[HA.out])
           |(go_at_call 109;refine(KW w1.heap.size _ ol i _ (Sl.Aj (BK HO.out hb1 AA)) (by omega)).mono ?_;rintro e w' ⟨rfl,rfl⟩;rw[HIN.out]))
          go_roundg kf
          case measure=>omega
          case rel=>
           exact⟨tl,ol,g,o,0,HGO.out,BK HO.out hb1 AA,rfl,by have:=HLC.out;omega,Ad hgl hb1.size,HNE.out,fun j h=>(hb1.cell (p:=⟨g,o+j,none⟩) hgl).trans (HCT.out j h),by unfold Hg.Dm at hmu2⊢;simp at hmu2;omega,by omega,hb.trans (hb1.mono hb.size)⟩
         ·rw[if_neg hin] at hgo
          have hinf:Hg.isIn ol i=false:=by simpa using hin
          have hmu3:=Hg.DZ l ol i k hk hinf;have HGO:=zz hgo;have HIN:=zz hinf;have HKR:=zz hkr;have hkl:k < l.length:=(Ah.1 hkr).1;have hkk:(Hg.CX l k).length+tl.length+1≤kf+1:=by unfold Hg.Dm at hmu2;simp at hmu2;omega
          have hkk2:(Hg.rowAt l k).node.kids.length+tl.length+1≤kf+1:=hkk;clear hgo hk hkr hin hkn hinf
          go_wp2_with (first
           |(go_at_call 102;refine(DW B _ l i _ (by omega) (hX.out.below hb hB) hl).mono ?_;rintro e w1 ⟨rfl,hb1⟩;rw[HA.out];obtain⟨br,orr,ka,kc,rfl,hbrB,hkid,_,_,_,_,_,_,d6⟩:=(hX.out.below (hb.trans (hb1.mono hb.size)) hB).at_ HKR.out;have HK:=zz hkid;clear hkid)
           |(go_at_call 109;refine(KW w1.heap.size _ ol i _ (Sl.Aj (BK HO.out hb1 AA)) (by omega)).mono ?_;rintro e w' ⟨rfl,rfl⟩;rw[HIN.out])
           |(at_builtin;refine wpList_append_own_at _ rfl (.tmp 29) (.tmp 31) _ rfl w.heap.size 51 j0 _ 1 8 Tryz.underlying52 hj hj0 hj1 hj2 rfl (by decide) _ _ _ rfl ((BK HO.out hb1 AA).alloc _) ⟨_,0,none⟩ 1 1 [idV i] rfl rfl (Ap _ _ _) ?_ ?_ ?_ ?_ ?_))
          ·intro u hu;simp only[List.mem_singleton] at hu;subst hu;rfl
          ·unfold maxLen;omega
          ·omega
          ·have:=hb1.size;simp;omega
          intro v2 W2 own2 g2 _ at2;have hsz1:=hb1.size;have hsz2:=g2.size;simp only[World.size_alloc] at hsz2;have hne6:some br≠Value.ownBlock u5:=fun e=>by have:=(HO.out.lt br e.symm).1;omega
          have e7:W2.cell? ⟨br,orr+k*7+1+5,none⟩=some (.slice ka (Hg.rowAt l k).node.kids.length kc):=g2.cell (E5 d6 _) hne6;have hK2:Sl W2 B (.slice ka (Hg.rowAt l k).node.kids.length kc) (Hg.rowAt l k).node.kids.length ((Hg.rowAt l k).node.kids.map idV):=
           (HK.out.alloc (by omega) _).keep fun q hq=>World.cell?_of_block (g2.block q.block (by simp;omega) (fun e=>by have:=(HO.out.lt q.block e.symm).1;omega))
          have hT2:Sl W2 W2.heap.size (.slice (some ⟨g,o,none⟩) tl.length (0)) tl.length (tl.map idV):=by
           have h0:Sl wr wr.heap.size (.slice (some ⟨g,o,none⟩) tl.length (0)) tl.length (tl.map idV):=
            ⟨_,_,rfl,fun _=>⟨g,o,rfl,hgl,fun j h=>by have:=HCT.out j (by simpa using h);simpa using this⟩⟩
           have h1:=(h0.below hb1 AA).more hsz1;have h2:=h1.alloc AA (.cells #[idV i] 51);exact(h2.grown (by simp) g2 (fun q hq e=>HNE.out (by rw[hq];exact e.symm))).more (by omega)
          have hnew:∀q,v2.ownBlock=some q→q < W2.heap.size:=fun q hq=>(own2.lt q hq).2;have HNEW:=zz hnew;have HK2:=zz hK2;have HT2:=zz hT2;have hbW2:Below w.heap.size w W2:=by
           refine(hb.trans (hb1.mono hb.size)).trans ?_;refine((Below.refl w.heap.size w1).alloc (by omega) (.cells #[idV i] 51)).trans ?_;exact⟨g2.os,g2.tape,g2.output,g2.size,fun q hq=>g2.block q (by simp;omega) (fun e=>by have:=(HO.out.lt q e.symm).1;omega)⟩
          obtain⟨y2,z2,rfl⟩:=ownsRow_succ own2;have OW2:=zz own2;have HG2:=zz g2;have e8:(W2.alloc (.cells #[] 51)).cell? ⟨br,orr+k*7+1+5,none⟩=some (.slice ka (Hg.rowAt l k).node.kids.length kc):=E5 e7 _;have hbr2:br < W2.heap.size:=by omega
          clear own2 g2 at2 hnew hK2 hT2 d6
          go_wp2_with (at_builtin;refine Bf _ rfl (.tmp 33) (.tmp 39) _ rfl w.heap.size 51 j0 _ 8 Tryz.underlying52 hj hj0 hj1 hj2 rfl _ _ _ rfl (Dh _ _ _ ?_) B _ _ _ rfl (HK2.out.alloc ?_ _) ?_ (FM _) ?_ ?_ ?_ ?_)
          ·omega
          ·omega
          ·simp
          ·unfold maxLen;omega
          ·omega
          ·simp;omega
          intro v3 W3 own3 g3 at3
          try simp only[Nat.zero_add,List.nil_append] at own3
          have hsz3:=g3.size;simp only[World.size_alloc] at hsz3;have hat3:∀q,v3.ownBlock=some q→W2.heap.size≤q:=fun q hq=>by
           rcases at3 with e|e
           ·rw[e] at hq;simp only[Value.ownBlock,Option.some.injEq] at hq;omega
           ·rw[e] at hq;simp only[World.size_alloc,Option.some.injEq] at hq;omega
          have hsome3:v3.ownBlock≠none:=fun hn=>by
           rcases at3 with e|e <;>(rw[e] at hn;cases hn)
          have hT3:Sl W3 W2.heap.size (.slice (some ⟨g,o,none⟩) tl.length (0)) tl.length (tl.map idV):=
           (HT2.out.alloc AA _).grown (by simp) g3 (fun q hq e=>by
            simp only[Value.ownBlock,Option.some.injEq] at hq e;omega)
          have hO3:W3.ownsRow w.heap.size 51 1 (.slice (some ⟨y2,0,none⟩) (ol.length+1) z2) (ol.length+1) (ol.map idV++[idV i]):=
           (OW2.out.alloc _).kept g3 (.inr fun e=>by
            have:=HNEW.out y2 rfl;have e':some y2=some W2.heap.size:=e;injection e' with e';omega)
          have hbW3:Below w.heap.size w W3:=by
           refine hbW2.trans (((Below.refl w.heap.size W2).alloc (by omega) (.cells #[] 51)).trans ?_);exact⟨g3.os,g3.tape,g3.output,g3.size,fun q hq=>g3.block q (by simp;omega) (fun e=>by
            have e':some q=some W2.heap.size:=e;injection e' with e';omega)⟩
          have HT3:=zz hT3;have HO3:=zz hO3;have HAT3:=zz hat3;have HSO3:=zz hsome3;clear hT3 hO3 hat3 hsome3 at3 g3 e7 e8;have hyl:=HNEW.out y2 rfl;have OW3:=zz own3;clear own3
          go_wp2_with (at_builtin;refine Bf _ rfl (.tmp 40) (.tmp 41) _ rfl w.heap.size 51 j0 _ 8 Tryz.underlying52 hj hj0 hj1 hj2 rfl _ _ _ rfl OW3.out W2.heap.size _ _ _ rfl HT3.out ?_ (FM _) ?_ ?_ ?_ ?_)
          ·simp
          ·unfold maxLen;omega
          ·omega
          ·omega
          intro v4 W4 own4 g4 at4;have hs4:∃q,v4.ownBlock=some q∧W2.heap.size≤q:=by
           rcases at4 with e|e
           ·cases h3:v3.ownBlock with
            |none=>exact absurd h3 HSO3.out
            |some q=>exact⟨q,e.trans h3,HAT3.out q h3⟩
           ·exact⟨_,e,by omega⟩
          obtain⟨q4,hq4,hq4l⟩:=hs4;obtain⟨c4,rfl,hc4,_,hq4s⟩:=IR own4 hq4;have hO4:W4.ownsRow w.heap.size 51 1 (.slice (some ⟨y2,0,none⟩) (ol.length+1) z2) (ol.length+1) (ol.map idV++[idV i]):=
           HO3.out.kept g4 (.inr fun e=>by
            have:=HAT3.out y2 e.symm;omega)
          have hbW4:Below w.heap.size w W4:=
           hbW3.trans ⟨g4.os,g4.tape,g4.output,g4.size,fun q hq=>g4.block q (by have:=hbW3.size;omega) (fun e=>by have:=HAT3.out q e.symm;omega)⟩
          have hcl:∀j,(h:j < (Hg.CX l k++tl).length)→W4.cell? ⟨q4,0+j,none⟩=some (idV (Hg.CX l k++tl)[j]):=fun j h=>by
           have e1:=World.ownsRow.cellAt own4 j (by simp only[List.length_append] at h;show j < _;simp;exact h);rw[Nat.zero_add,e1,←List.map_append];show(List.map idV (Hg.CX l k++tl))[j]? =_;rw[List.getElem?_map,Aa h];rfl
          have HCL:=zz hcl;have HO4:=zz hO4;clear hcl hO4 own4 g4 at4 hq4;go_wp2
          go_roundg kf
          case measure=>omega
          case rel=>
           refine⟨Hg.CX l k++tl,ol++[i],q4,0,c4,HGO.out, ?_, ?_, ?_,hq4s, ?_,HCL.out, ?_, ?_,hbW4⟩
           ·simpa using HO4.out
           ·rw[List.length_append];rfl
           ·rw[List.length_append];exact hc4
           ·intro e
            have e':some y2=some q4:=e;injection e' with e';omega
           ·unfold Hg.Dm at hmu2⊢
            simp only[List.length_cons,List.length_append] at hmu2⊢;omega
           ·simp only[List.length_append,List.length_singleton];omega
      ·have hct:∀j,(h:j < tl.length)→wr.cell? ⟨g,o+1+j,none⟩=some (idV tl[j]):=fun j h=>by
        have:=hcells (j+1) (by simp;omega);rw[show o+1+j=o+(j+1) by omega,this];rfl
       clear hcells;have HCT:=zz hct;clear hct;have hbs:=hb.size;cases hk:Hg.atI l i with
       |none=>
         rw[hk] at hgo;have HGO:=zz hgo;have HA:=zz (De hk);clear hgo hk
         go_wp2_with (go_at_call 102;refine(DW B _ l i _ (by omega) (hX.out.below hb hB) hl).mono ?_;rintro e w1 ⟨rfl,hb1⟩;rw[HA.out])
         go_roundg kf
         case measure=>omega
         case rel=>
          exact⟨tl,ol,g,(o+1),c2-1,HGO.out,BK HO.out hb1 AA,rfl,by omega,Ad hgl hb1.size,HNE.out,fun j h=>(hb1.cell (p:=⟨g,(o+1)+j,none⟩) hgl).trans (HCT.out j h),by unfold Hg.Dm at hmu2⊢;simp at hmu2;omega,by omega,hb.trans (hb1.mono hb.size)⟩
       |some k=>
         rw[hk] at hgo;dsimp only at hgo;have hkr:=D5 hk;have HA:=zz (Dc hk);have hkn:=hk;by_cases hin:Hg.isIn ol i=true
         ·rw[if_pos hin] at hgo
          have HGO:=zz hgo;have HIN:=zz hin;clear hgo hk hkr hin hkn
          go_wp2_with (first
           |(go_at_call 102;refine(DW B _ l i _ (by omega) (hX.out.below hb hB) hl).mono ?_;rintro e w1 ⟨rfl,hb1⟩;rw[HA.out])
           |(go_at_call 109;refine(KW w1.heap.size _ ol i _ (Sl.Aj (BK HO.out hb1 AA)) (by omega)).mono ?_;rintro e w' ⟨rfl,rfl⟩;rw[HIN.out]))
          go_roundg kf
          case measure=>omega
          case rel=>
           exact⟨tl,ol,g,(o+1),c2-1,HGO.out,BK HO.out hb1 AA,rfl,by omega,Ad hgl hb1.size,HNE.out,fun j h=>(hb1.cell (p:=⟨g,(o+1)+j,none⟩) hgl).trans (HCT.out j h),by unfold Hg.Dm at hmu2⊢;simp at hmu2;omega,by omega,hb.trans (hb1.mono hb.size)⟩
         ·rw[if_neg hin] at hgo
          have hinf:Hg.isIn ol i=false:=by simpa using hin
          have hmu3:=Hg.DZ l ol i k hk hinf;have HGO:=zz hgo;have HIN:=zz hinf;have HKR:=zz hkr;have hkl:k < l.length:=(Ah.1 hkr).1;have hkk:(Hg.CX l k).length+tl.length+1≤kf+1:=by unfold Hg.Dm at hmu2;simp at hmu2;omega
          have hkk2:(Hg.rowAt l k).node.kids.length+tl.length+1≤kf+1:=hkk;clear hgo hk hkr hin hkn hinf
          go_wp2_with (first
           |(go_at_call 102;refine(DW B _ l i _ (by omega) (hX.out.below hb hB) hl).mono ?_;rintro e w1 ⟨rfl,hb1⟩;rw[HA.out];obtain⟨br,orr,ka,kc,rfl,hbrB,hkid,_,_,_,_,_,_,d6⟩:=(hX.out.below (hb.trans (hb1.mono hb.size)) hB).at_ HKR.out;have HK:=zz hkid;clear hkid)
           |(go_at_call 109;refine(KW w1.heap.size _ ol i _ (Sl.Aj (BK HO.out hb1 AA)) (by omega)).mono ?_;rintro e w' ⟨rfl,rfl⟩;rw[HIN.out])
           |(at_builtin;refine wpList_append_own_at _ rfl (.tmp 29) (.tmp 31) _ rfl w.heap.size 51 j0 _ 1 8 Tryz.underlying52 hj hj0 hj1 hj2 rfl (by decide) _ _ _ rfl ((BK HO.out hb1 AA).alloc _) ⟨_,0,none⟩ 1 1 [idV i] rfl rfl (Ap _ _ _) ?_ ?_ ?_ ?_ ?_))
          ·intro u hu;simp only[List.mem_singleton] at hu;subst hu;rfl
          ·unfold maxLen;omega
          ·omega
          ·have:=hb1.size;simp;omega
          intro v2 W2 own2 g2 _ at2;have hsz1:=hb1.size;have hsz2:=g2.size;simp only[World.size_alloc] at hsz2;have hne6:some br≠Value.ownBlock u5:=fun e=>by have:=(HO.out.lt br e.symm).1;omega
          have e7:W2.cell? ⟨br,orr+k*7+1+5,none⟩=some (.slice ka (Hg.rowAt l k).node.kids.length kc):=g2.cell (E5 d6 _) hne6;have hK2:Sl W2 B (.slice ka (Hg.rowAt l k).node.kids.length kc) (Hg.rowAt l k).node.kids.length ((Hg.rowAt l k).node.kids.map idV):=
           (HK.out.alloc (by omega) _).keep fun q hq=>World.cell?_of_block (g2.block q.block (by simp;omega) (fun e=>by have:=(HO.out.lt q.block e.symm).1;omega))
          have hT2:Sl W2 W2.heap.size (.slice (some ⟨g,(o+1),none⟩) tl.length (c2-1)) tl.length (tl.map idV):=by
           have h0:Sl wr wr.heap.size (.slice (some ⟨g,(o+1),none⟩) tl.length (c2-1)) tl.length (tl.map idV):=
            ⟨_,_,rfl,fun _=>⟨g,(o+1),rfl,hgl,fun j h=>by have:=HCT.out j (by simpa using h);simpa using this⟩⟩
           have h1:=(h0.below hb1 AA).more hsz1;have h2:=h1.alloc AA (.cells #[idV i] 51);exact(h2.grown (by simp) g2 (fun q hq e=>HNE.out (by rw[hq];exact e.symm))).more (by omega)
          have hnew:∀q,v2.ownBlock=some q→q < W2.heap.size:=fun q hq=>(own2.lt q hq).2;have HNEW:=zz hnew;have HK2:=zz hK2;have HT2:=zz hT2;have hbW2:Below w.heap.size w W2:=by
           refine(hb.trans (hb1.mono hb.size)).trans ?_;refine((Below.refl w.heap.size w1).alloc (by omega) (.cells #[idV i] 51)).trans ?_;exact⟨g2.os,g2.tape,g2.output,g2.size,fun q hq=>g2.block q (by simp;omega) (fun e=>by have:=(HO.out.lt q e.symm).1;omega)⟩
          obtain⟨y2,z2,rfl⟩:=ownsRow_succ own2;have OW2:=zz own2;have HG2:=zz g2;have e8:(W2.alloc (.cells #[] 51)).cell? ⟨br,orr+k*7+1+5,none⟩=some (.slice ka (Hg.rowAt l k).node.kids.length kc):=E5 e7 _;have hbr2:br < W2.heap.size:=by omega
          clear own2 g2 at2 hnew hK2 hT2 d6
          go_wp2_with (at_builtin;refine Bf _ rfl (.tmp 33) (.tmp 39) _ rfl w.heap.size 51 j0 _ 8 Tryz.underlying52 hj hj0 hj1 hj2 rfl _ _ _ rfl (Dh _ _ _ ?_) B _ _ _ rfl (HK2.out.alloc ?_ _) ?_ (FM _) ?_ ?_ ?_ ?_)
          ·omega
          ·omega
          ·simp
          ·unfold maxLen;omega
          ·omega
          ·simp;omega
          intro v3 W3 own3 g3 at3
          try simp only[Nat.zero_add,List.nil_append] at own3
          have hsz3:=g3.size;simp only[World.size_alloc] at hsz3;have hat3:∀q,v3.ownBlock=some q→W2.heap.size≤q:=fun q hq=>by
           rcases at3 with e|e
           ·rw[e] at hq;simp only[Value.ownBlock,Option.some.injEq] at hq;omega
           ·rw[e] at hq;simp only[World.size_alloc,Option.some.injEq] at hq;omega
          have hsome3:v3.ownBlock≠none:=fun hn=>by
           rcases at3 with e|e <;>(rw[e] at hn;cases hn)
          have hT3:Sl W3 W2.heap.size (.slice (some ⟨g,(o+1),none⟩) tl.length (c2-1)) tl.length (tl.map idV):=
           (HT2.out.alloc AA _).grown (by simp) g3 (fun q hq e=>by
            simp only[Value.ownBlock,Option.some.injEq] at hq e;omega)
          have hO3:W3.ownsRow w.heap.size 51 1 (.slice (some ⟨y2,0,none⟩) (ol.length+1) z2) (ol.length+1) (ol.map idV++[idV i]):=
           (OW2.out.alloc _).kept g3 (.inr fun e=>by
            have:=HNEW.out y2 rfl;have e':some y2=some W2.heap.size:=e;injection e' with e';omega)
          have hbW3:Below w.heap.size w W3:=by
           refine hbW2.trans (((Below.refl w.heap.size W2).alloc (by omega) (.cells #[] 51)).trans ?_);exact⟨g3.os,g3.tape,g3.output,g3.size,fun q hq=>g3.block q (by simp;omega) (fun e=>by
            have e':some q=some W2.heap.size:=e;injection e' with e';omega)⟩
          have HT3:=zz hT3;have HO3:=zz hO3;have HAT3:=zz hat3;have HSO3:=zz hsome3;clear hT3 hO3 hat3 hsome3 at3 g3 e7 e8;have hyl:=HNEW.out y2 rfl;have OW3:=zz own3;clear own3
          go_wp2_with (at_builtin;refine Bf _ rfl (.tmp 40) (.tmp 41) _ rfl w.heap.size 51 j0 _ 8 Tryz.underlying52 hj hj0 hj1 hj2 rfl _ _ _ rfl OW3.out W2.heap.size _ _ _ rfl HT3.out ?_ (FM _) ?_ ?_ ?_ ?_)
          ·simp
          ·unfold maxLen;omega
          ·omega
          ·omega
          intro v4 W4 own4 g4 at4;have hs4:∃q,v4.ownBlock=some q∧W2.heap.size≤q:=by
           rcases at4 with e|e
           ·cases h3:v3.ownBlock with
            |none=>exact absurd h3 HSO3.out
            |some q=>exact⟨q,e.trans h3,HAT3.out q h3⟩
           ·exact⟨_,e,by omega⟩
          obtain⟨q4,hq4,hq4l⟩:=hs4;obtain⟨c4,rfl,hc4,_,hq4s⟩:=IR own4 hq4;have hO4:W4.ownsRow w.heap.size 51 1 (.slice (some ⟨y2,0,none⟩) (ol.length+1) z2) (ol.length+1) (ol.map idV++[idV i]):=
           HO3.out.kept g4 (.inr fun e=>by
            have:=HAT3.out y2 e.symm;omega)
          have hbW4:Below w.heap.size w W4:=
           hbW3.trans ⟨g4.os,g4.tape,g4.output,g4.size,fun q hq=>g4.block q (by have:=hbW3.size;omega) (fun e=>by have:=HAT3.out q e.symm;omega)⟩
          have hcl:∀j,(h:j < (Hg.CX l k++tl).length)→W4.cell? ⟨q4,0+j,none⟩=some (idV (Hg.CX l k++tl)[j]):=fun j h=>by
           have e1:=World.ownsRow.cellAt own4 j (by simp only[List.length_append] at h;show j < _;simp;exact h);rw[Nat.zero_add,e1,←List.map_append];show(List.map idV (Hg.CX l k++tl))[j]? =_;rw[List.getElem?_map,Aa h];rfl
          have HCL:=zz hcl;have HO4:=zz hO4;clear hcl hO4 own4 g4 at4 hq4;go_wp2
          go_roundg kf
          case measure=>omega
          case rel=>
           refine⟨Hg.CX l k++tl,ol++[i],q4,0,c4,HGO.out, ?_, ?_, ?_,hq4s, ?_,HCL.out, ?_, ?_,hbW4⟩
           ·simpa using HO4.out
           ·rw[List.length_append];rfl
           ·rw[List.length_append];exact hc4
           ·intro e
            have e':some y2=some q4:=e;injection e' with e';omega
           ·unfold Hg.Dm at hmu2⊢
            simp only[List.length_cons,List.length_append] at hmu2⊢;omega
           ·simp only[List.length_append,List.length_singleton];omega
end Go.Proofs.YthihjcannjhonaaGreatDoor
