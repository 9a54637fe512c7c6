/-
  Part of the proof of CheckLists.
-/
import Derived.Test.YtljmibnfmilfbaaGreatDoorKeAO
import Derived.Test.YtljmibnfmilfbaaGreatDoorKeAL
import Derived.Test.YtljmibnfmilfbaaGreatDoorKeAK
import Derived.Maps.RangeWalk
import Derived.Deep.QuietTactic
import Derived.BigQuiet
import Derived.Deep.CutRange
set_option linter.all false
set_option maxHeartbeats 32000000
set_option maxRecDepth 100000
namespace Go.Proofs.YtljmibnfmilfbaaGreatDoor
open Go.RowKit
theorem box7{w w1:World}{v0 v1 v2 v3 v4 v5 v6:Value}{t:TypeId}(hb:Below (w.alloc (.cells #[v0,v1,v2,v3,v4,v5,v6] t)).heap.size (w.alloc (.cells #[v0,v1,v2,v3,v4,v5,v6] t)) w1):
 (w1.cell? ⟨w.heap.size,0,none⟩=some v0∧w1.cell? ⟨w.heap.size,1,none⟩=some v1∧w1.cell? ⟨w.heap.size,2,none⟩=some v2∧w1.cell? ⟨w.heap.size,3,none⟩=some v3∧w1.cell? ⟨w.heap.size,4,none⟩=some v4∧w1.cell? ⟨w.heap.size,5,none⟩=some v5∧w1.cell? ⟨w.heap.size,6,none⟩=some v6)∧
 w.heap.size < w1.heap.size∧Below w.heap.size w w1:=by
 have hh:w1.heap[w.heap.size]? =some (.cells #[v0,v1,v2,v3,v4,v5,v6] t (0,0)):=(hb.block w.heap.size (by simp)).trans (heap_alloc_new w _);have hc:=fun i=>cell_of_row w1 w.heap.size i _ _ (0,0) hh;refine⟨⟨hc 0,hc 1,hc 2,hc 3,hc 4,hc 5,hc 6⟩, ?_, ?_⟩
 ·have:=hb.size;simp at this;omega
 ·exact((Below.refl w.heap.size w).alloc (Nat.le_refl _) _).trans (hb.mono (by simp))
@[reducible] def Cy(r:Hg.Row)(ka:Option Addr)(kc:Nat):Obj:=
 .cells #[.int .u64 (r.id:Int),.int .u8 (r.node.kind:Int),strV r.node.name,.int .i64 r.node.num,.int .u8 (r.node.type:Int),.int .u64 (r.node.ref:Int),.slice ka r.node.kids.length kc] 55
theorem Tu{l:List Hg.Row}{k:Nat}(h:Hg.atI l 1=some k):Hg.tree l=if (Hg.rowAt l k).node.kind≠1∨(Hg.walk l 1).length≠l.length then false else(match Hg.Dy l l 0 with
 |none=>false
 |some n=>decide (n+1=l.length) && decide (0 < Hg.DW l 200 1)):=by unfold Hg.tree;rw[h];rfl
theorem Tv{l:List Hg.Row}(h:Hg.atI l 1=none):Hg.tree l=false:=by unfold Hg.tree;rw[h]
theorem Tx(B:Nat)(v:Value)(l:List Hg.Row)(w:World)(hB:B≤w.heap.size)(hx:Az w B v l)(hl:l.length≤1000000000)(hks:Hg.BA l≤100000000)
 (hkl:∀(j:Nat) (r:Hg.Row),l[j]? =some r→r.node.kids.length≤1000000000):
 Calls Tryz.prog 23 #[v] w fun e w'=>e= .returned (.bool (Hg.tree l))∧Below w.heap.size w w':=by
 have hX:=zz hx;have HKL:=zz hkl;obtain⟨a,c,rfl⟩:=hx.form;clear hx hkl;cases hk:Hg.atI l 1 with
 |none=>
   have HT:=zz (Tv hk);have HA:=zz (DT hk);clear hk;go_enter Tryz.func23,Tryz.ntmps23;go_wp2_with fail;refine(DD B _ l 1 _ hB hX.out hl).mono ?_;rintro e w1 ⟨rfl,hb1⟩;rw[HA.out];go_wp2;go_ret;exact⟨AU HT.out.symm,hb1⟩
 |some k=>
   have ht:=Tu hk;have HA:=zz (DR hk);have hkr:=En hk;have hkl1:k < l.length:=(List.getElem?_eq_some_iff.1 hkr).1;have HKR:=zz hkr;clear hk hkr;by_cases h1:(Hg.rowAt l k).node.kind=1
   ·have q1:(((Hg.rowAt l k).node.kind:Int) !=1)=false:=by simp[h1]
    by_cases h2:(Hg.walk l 1).length=l.length
    ·rw[if_neg (by simp[h1,h2])] at ht
     have HT:=zz ht;have H2:=zz h2;clear ht h1 h2;have TW:=fun W h1 h2=>zz (KX B (.slice a l.length c) l 1 W h1 h2 hl hks);go_enter Tryz.func23,Tryz.ntmps23;go_wp2_with fail;refine(DD B _ l 1 _ hB hX.out hl).mono ?_;rintro e w1 ⟨rfl,hb1⟩;rw[HA.out];go_wp2_with fail;have hB1:=Nat.le_trans hB hb1.size;refine(DD B _ l 1 _ hB1 (hX.out.below hb1 hB) hl).mono ?_;rintro e w2 ⟨rfl,hb2⟩;rw[HA.out];have hb12:=hb1.trans (hb2.mono hb1.size);have hX2:=hX.out.below hb12 hB;obtain⟨br,orr,ka,kc,rfl,hbrB,_,_,d1,_,_,_,_,_⟩:=hX2.at_ HKR.out;have HX2:=zz hX2;clear hX2;go_wp2_with fail;refine((TW _ (Nat.le_trans hB hb12.size) HX2.out).out).mono ?_;rintro e w3 ⟨⟨a3,c3,rfl,_⟩,hb3⟩;rw[H2.out];have hb13:=hb12.trans (hb3.mono hb12.size);clear d1 HX2 hb1 hb2 hb3 hb12 hB1;have hI:Below w.heap.size w w3:=hb13;go_wp2
     go_loopw [3,31] (fun p q wr=>∃(i n:Nat),q= .int .i64 i∧i≤l.length∧p= .int .i64 n∧n≤i*1000000000∧Hg.Dy l (l.drop i) n=Hg.Dy l l 0∧Below w.heap.size w wr) (fun _ q _=>l.length-(intOf q).toNat)
     case atStart=>exact⟨0,0,rfl,Nat.zero_le _,rfl,Nat.zero_le _,rfl,hI⟩
     case round=>
      obtain⟨i,n,rfl,hi,rfl,hn,hg,hbw⟩:=hrel;have HG:=zz hg;clear hg hI hb13;obtain⟨wo,rfl⟩:∃wo:World,wo=wr:=⟨_,rfl⟩;by_cases hlt:i < l.length
      ·have hri:l[i]? =some l[i]:=List.getElem?_eq_getElem hlt
       obtain⟨b',o',ki,kci,e0,_,hkid,d0,d1,d2,d3,d4,d5,d6⟩:=(hX.out.below hbw hB).at_ hri;injection e0 with e0;injection e0 with e1 e2 _;subst e1;subst e2;have HK:=zz hkid;have hkl2:=HKL.out i l[i] hri;have hstep:Hg.Dy l (l[i]::l.drop (i+1)) n=Hg.Dy l l 0:=by rw[←List.drop_eq_getElem_cons hlt];exact HG.out
       rw[Hg.Dy] at hstep;clear hkid hri;generalize l[i]=r at d0 d1 d2 d3 d4 d5 d6 HK hkl2 hstep;have hBw:B≤wo.heap.size:=Nat.le_trans hB hbw.size;have HBX:=zz (Below.refl (wo.alloc (Cy r ki kci)).heap.size (wo.alloc (Cy r ki kci)));have T:=fun x W h1 h2=>zz (DD B (.slice (some ⟨br,orr,none⟩) l.length c) l x W h1 h2 hl);by_cases hr0:r.node.ref=0
       ·rw[if_neg (by simp[hr0])] at hstep
        have q2:((r.node.ref:Int) !=0)=false:=by simp[hr0]
        clear hr0;have HS:=zz hstep;clear hstep HG;go_wp2_with fail
        go_loopw [3,51] (fun p q W=>∃(m nn:Nat),q= .int .i64 m∧m≤r.node.kids.length∧p= .int .i64 nn∧nn≤i*1000000000+m∧Hg.Cj l (r.node.kids.drop m) nn=Hg.Cj l r.node.kids n∧Below (wo.alloc (Cy r ki kci)).heap.size (wo.alloc (Cy r ki kci)) W) (fun _ q _=>r.node.kids.length-(intOf q).toNat)
        case atStart=>exact⟨0,n,rfl,Nat.zero_le _,rfl,Nat.le_trans hn (Nat.le_add_right _ _),rfl,HBX.out⟩
        case round=>
         obtain⟨m,nn,rfl,hm,rfl,hnn,hg,hbW⟩:=hrel;have HG2:=zz hg;clear hg;obtain⟨⟨k0,k1,k2,k3,k4,k5,k6⟩,hszW,hbbW⟩:=box7 hbW;have hbwW:Below w.heap.size w wr:=hbw.trans (hbbW.mono hbw.size);by_cases hlm:m < r.node.kids.length
         ·obtain⟨b3,o3,rfl,_,kc3⟩:=(HK.out.below hbbW hBw).idAt hlm
          have hstep:Hg.Cj l (r.node.kids[m]::r.node.kids.drop (m+1)) nn=Hg.Cj l r.node.kids n:=by rw[←List.drop_eq_getElem_cons hlm];exact HG2.out
          rw[Hg.Cj] at hstep;generalize r.node.kids[m]=x at kc3 hstep;have hBW:B≤wr.heap.size:=Nat.le_trans hB hbwW.size;cases hxa:Hg.atI l x with
          |none=>
            rw[if_pos (.inl hxa)] at hstep;have HFIN:=zz (show Hg.tree l=false by rw[HT.out,←HS.out,←hstep]);have HA2:=zz (DT hxa);clear hxa hstep HG2
            go_wp2_with (go_at_call 54;refine((T x _ hBW (hX.out.below hbwW hB)).out).mono ?_;rintro e w5 ⟨rfl,hb5⟩;rw[HA2.out])
            go_ret;exact⟨AU HFIN.out.symm,hbwW.trans (hb5.mono hbwW.size)⟩
          |some kx=>
            have HA2:=zz (DR hxa);by_cases hx1:x=1
            ·rw[if_pos (.inr hx1)] at hstep
             have HFIN:=zz (show Hg.tree l=false by rw[HT.out,←HS.out,←hstep]);have q3:((x:Int)==1)=true:=by simp[hx1]
             clear hxa hstep HG2 hx1
             go_wp2_with (go_at_call 54;refine((T x _ hBW (hX.out.below hbwW hB)).out).mono ?_;rintro e w5 ⟨rfl,hb5⟩;rw[HA2.out])
             go_ret;exact⟨AU HFIN.out.symm,hbwW.trans (hb5.mono hbwW.size)⟩
            ·rw[if_neg (by simp[hxa,hx1])] at hstep
             have HS2:=zz hstep;have q3:((x:Int)==1)=false:=by simp;omega
             clear hxa hstep HG2 hx1
             go_wp2_with (go_at_call 54;refine((T x _ hBW (hX.out.below hbwW hB)).out).mono ?_;rintro e w5 ⟨rfl,hb5⟩;rw[HA2.out])
             go_roundw
             case rel=>exact⟨m+1,nn+1,by go_num,by omega,by go_num,by omega,HS2.out,hbW.trans (hb5.mono hbW.size)⟩
             case measure=>simp[intOf];omega
         ·obtain rfl:m=r.node.kids.length:=by omega
          have he:=HG2.out;rw[List.drop_length,Hg.Cj] at he;have hs:=HS.out;rw[←he] at hs;dsimp only at hs;have HS3:=zz hs;clear he hs HG2;go_wp2;go_roundw
          case rel=>exact⟨i+1,nn,by go_num,by omega,rfl,by omega,HS3.out,hbwW⟩
          case measure=>simp[intOf];omega
       ·have q2:((r.node.ref:Int) !=0)=true:=by simp;omega
        cases hrf:Hg.atI l r.node.ref with
        |none=>
          rw[if_pos ⟨hr0,hrf⟩] at hstep;have HFIN:=zz (show Hg.tree l=false by rw[HT.out,←hstep]);have HA2:=zz (DT hrf);clear hr0 hrf hstep HG
          go_wp2_with (go_at_call 54;refine((T r.node.ref _ (by simp;omega) (hX.out.below (hbw.alloc hbw.size _) hB)).out).mono ?_;rintro e w4 ⟨rfl,hb4⟩;rw[HA2.out])
          go_ret;exact⟨AU HFIN.out.symm,(hbw.alloc hbw.size (Cy r ki kci)).trans (hb4.mono (by have:=hbw.size;simp;omega))⟩
        |some kr=>
          rw[if_neg (by simp[hrf])] at hstep;have HA2:=zz (DR hrf);clear hr0 hrf;have HS:=zz hstep;clear hstep HG
          go_wp2_with (go_at_call 54;refine((T r.node.ref _ (by simp;omega) (hX.out.below (hbw.alloc hbw.size _) hB)).out).mono ?_;rintro e w4 ⟨rfl,hb4⟩;rw[HA2.out];obtain⟨⟨x0,x1,x2,x3,x4,x5,x6⟩,_,_⟩:=box7 hb4;have HBX:=zz hb4)
          go_loopw [3,51] (fun p q W=>∃(m nn:Nat),q= .int .i64 m∧m≤r.node.kids.length∧p= .int .i64 nn∧nn≤i*1000000000+m∧Hg.Cj l (r.node.kids.drop m) nn=Hg.Cj l r.node.kids n∧Below (wo.alloc (Cy r ki kci)).heap.size (wo.alloc (Cy r ki kci)) W) (fun _ q _=>r.node.kids.length-(intOf q).toNat)
          case atStart=>exact⟨0,n,rfl,Nat.zero_le _,rfl,Nat.le_trans hn (Nat.le_add_right _ _),rfl,HBX.out⟩
          case round=>
           obtain⟨m,nn,rfl,hm,rfl,hnn,hg,hbW⟩:=hrel;have HG2:=zz hg;clear hg;obtain⟨⟨k0,k1,k2,k3,k4,k5,k6⟩,hszW,hbbW⟩:=box7 hbW;have hbwW:Below w.heap.size w wr:=hbw.trans (hbbW.mono hbw.size);by_cases hlm:m < r.node.kids.length
           ·obtain⟨b3,o3,rfl,_,kc3⟩:=(HK.out.below hbbW hBw).idAt hlm
            have hstep:Hg.Cj l (r.node.kids[m]::r.node.kids.drop (m+1)) nn=Hg.Cj l r.node.kids n:=by rw[←List.drop_eq_getElem_cons hlm];exact HG2.out
            rw[Hg.Cj] at hstep;generalize r.node.kids[m]=x at kc3 hstep;have hBW:B≤wr.heap.size:=Nat.le_trans hB hbwW.size;cases hxa:Hg.atI l x with
            |none=>
              rw[if_pos (.inl hxa)] at hstep;have HFIN:=zz (show Hg.tree l=false by rw[HT.out,←HS.out,←hstep]);have HA2:=zz (DT hxa);clear hxa hstep HG2
              go_wp2_with (go_at_call 54;refine((T x _ hBW (hX.out.below hbwW hB)).out).mono ?_;rintro e w5 ⟨rfl,hb5⟩;rw[HA2.out])
              go_ret;exact⟨AU HFIN.out.symm,hbwW.trans (hb5.mono hbwW.size)⟩
            |some kx=>
              have HA2:=zz (DR hxa);by_cases hx1:x=1
              ·rw[if_pos (.inr hx1)] at hstep
               have HFIN:=zz (show Hg.tree l=false by rw[HT.out,←HS.out,←hstep]);have q3:((x:Int)==1)=true:=by simp[hx1]
               clear hxa hstep HG2 hx1
               go_wp2_with (go_at_call 54;refine((T x _ hBW (hX.out.below hbwW hB)).out).mono ?_;rintro e w5 ⟨rfl,hb5⟩;rw[HA2.out])
               go_ret;exact⟨AU HFIN.out.symm,hbwW.trans (hb5.mono hbwW.size)⟩
              ·rw[if_neg (by simp[hxa,hx1])] at hstep
               have HS2:=zz hstep;have q3:((x:Int)==1)=false:=by simp;omega
               clear hxa hstep HG2 hx1
               go_wp2_with (go_at_call 54;refine((T x _ hBW (hX.out.below hbwW hB)).out).mono ?_;rintro e w5 ⟨rfl,hb5⟩;rw[HA2.out])
               go_roundw
               case rel=>exact⟨m+1,nn+1,by go_num,by omega,by go_num,by omega,HS2.out,hbW.trans (hb5.mono hbW.size)⟩
               case measure=>simp[intOf];omega
           ·obtain rfl:m=r.node.kids.length:=by omega
            have he:=HG2.out;rw[List.drop_length,Hg.Cj] at he;have hs:=HS.out;rw[←he] at hs;dsimp only at hs;have HS3:=zz hs;clear he hs HG2;go_wp2;go_roundw
            case rel=>exact⟨i+1,nn,by go_num,by omega,rfl,by omega,HS3.out,hbwW⟩
            case measure=>simp[intOf];omega
      ·obtain rfl:i=l.length:=by omega
       have he:=HG.out;rw[List.drop_length,Hg.Dy] at he;have hfin:=HT.out;rw[←he] at hfin;dsimp only at hfin;have hb:Below w.heap.size w wo:=hbw;by_cases hn1:n+1=l.length
       ·have q1:((n:Int)==(l.length:Int)-1)=true:=by simp;omega
        have hfin2:Hg.tree l=decide (0 < Hg.DW l 200 1):=by rw[hfin,decide_eq_true hn1];rfl
        have HF:=zz hfin2;have hl0:0 < l.length:=by omega
        have hle:=M8 l 200 1;clear he hfin hfin2 HG hn1
        go_wp2_with (go_at_call 55;refine(VB B _ l hl hl0 HKL.out 200 1 _ (by omega) (Nat.le_trans hB hbw.size) (hX.out.below hbw hB)).mono ?_;rintro e w4 ⟨rfl,hb4⟩)
        go_ret;refine⟨AU ?_,hb.trans (hb4.mono hb.size)⟩;rw[HF.out]
        try simp
       ·have q1:((n:Int)==(l.length:Int)-1)=false:=by simp;omega
        have HF:=zz (show Hg.tree l=false by rw[hfin,decide_eq_false hn1];rfl);clear he hfin HG hn1;go_wp2;go_ret;exact⟨AU HF.out.symm,hb⟩
    ·rw[if_pos (.inr h2)] at ht
     have HT:=zz ht;have q2:(((Hg.walk l 1).length:Int) !=(l.length:Int))=true:=by simp;omega
     clear ht h1 h2;have TW:=fun W h1 h2=>zz (KX B (.slice a l.length c) l 1 W h1 h2 hl hks);go_enter Tryz.func23,Tryz.ntmps23;go_wp2_with fail;refine(DD B _ l 1 _ hB hX.out hl).mono ?_;rintro e w1 ⟨rfl,hb1⟩;rw[HA.out];go_wp2_with fail;have hB1:=Nat.le_trans hB hb1.size;refine(DD B _ l 1 _ hB1 (hX.out.below hb1 hB) hl).mono ?_;rintro e w2 ⟨rfl,hb2⟩;rw[HA.out];have hb12:=hb1.trans (hb2.mono hb1.size);have hX2:=hX.out.below hb12 hB;obtain⟨br,orr,ka,kc,rfl,hbrB,_,_,d1,_,_,_,_,_⟩:=hX2.at_ HKR.out;have HX2:=zz hX2;clear hX2;go_wp2_with fail;refine((TW _ (Nat.le_trans hB hb12.size) HX2.out).out).mono ?_;rintro e w3 ⟨⟨a3,c3,rfl,_⟩,hb3⟩;go_wp2;go_ret;exact⟨AU HT.out.symm,hb12.trans (hb3.mono hb12.size)⟩
   ·rw[if_pos (.inl h1)] at ht
    have HT:=zz ht;have q1:(((Hg.rowAt l k).node.kind:Int) !=1)=true:=by simp;omega
    clear ht h1;go_enter Tryz.func23,Tryz.ntmps23;go_wp2_with fail;refine(DD B _ l 1 _ hB hX.out hl).mono ?_;rintro e w1 ⟨rfl,hb1⟩;rw[HA.out];go_wp2_with fail;have hB1:=Nat.le_trans hB hb1.size;refine(DD B _ l 1 _ hB1 (hX.out.below hb1 hB) hl).mono ?_;rintro e w2 ⟨rfl,hb2⟩;rw[HA.out];have hb12:=hb1.trans (hb2.mono hb1.size);obtain⟨br,orr,ka,kc,rfl,hbrB,_,_,d1,_,_,_,_,_⟩:=(hX.out.below hb12 hB).at_ HKR.out;go_wp2;go_ret;exact⟨AU HT.out.symm,hb12⟩
theorem below_grown{w w':World}(h:Below w.heap.size w w')(row:Option Nat):w.grownBy w' row:=⟨h.os,h.tape,h.output,h.size,fun k hk _=>h.block k hk⟩
@[reducible] def Ec(n:Hg.Node)(ka:Option Addr)(kc:Nat):Obj:=
 .cells #[.int .u8 (n.kind:Int),strV n.name,.int .i64 n.num,.int .u8 (n.type:Int),.int .u64 (n.ref:Int),.slice ka n.kids.length kc] 33
def idxI(ids:List Nat)(id:Nat):Int:=match ids.findIdx? (·==id) with|some k=>(k:Int)|none=> -1
theorem Xr(l:List Nat)(id k:Nat)(hk:k < l.length)(h:l[k]=id)(hno:∀(j:Nat) (x:Nat),j < k→l[j]? =some x→x≠id):idxI l id=(k:Int):=by
 have:l.findIdx? (·==id)=some k:=by
  rw[List.findIdx?_eq_some_iff_getElem];exact⟨hk,by simpa using h,fun j hj=>by simpa using hno j l[j] hj (List.getElem?_eq_getElem (by omega))⟩
 simp[idxI,this]
theorem WW(l:List Nat)(id:Nat)(hno:∀(j:Nat) (x:Nat),j < l.length→l[j]? =some x→x≠id):idxI l id= -1:=by
 have:l.findIdx? (·==id)=none:=by
  rw[List.findIdx?_eq_none_iff];intro x hx;obtain⟨j,hj,he⟩:=List.mem_iff_getElem.1 hx;simpa using hno j x hj (by rw[List.getElem?_eq_getElem hj,he])
 simp[idxI,this]
theorem Nz(B:Nat)(v:Value)(ids:List Nat)(id:Nat)(w:World)(hs:Sl w B v ids.length (ids.map idV))(hl:ids.length≤1000000):
 Calls Tryz.prog 122 #[v,.int .u64 (id:Int)] w fun e w'=>e= .returned (.int .i64 (idxI ids id))∧w=w':=by
 have HS:=zz hs;obtain⟨a,c,rfl⟩:=hs.form;clear hs;go_enter Tryz.func122,Tryz.ntmps122;go_wp2
 go_loopw [8] (fun i wr=>∃k:Nat,k≤ids.length∧i= .int .i64 k∧w=wr∧∀(j:Nat) (x:Nat),j < k→ids[j]? =some x→x≠id) (fun i wr=>ids.length-(intOf i).toNat)
 case atStart=>exact⟨0,by omega,rfl,by first|trivial|rfl,fun j r hj=>by omega⟩
 case round=>
  obtain⟨k,hk,rfl,rfl,hno⟩:=hrel;have HN:=zz hno;clear hno;by_cases hlt:k < ids.length
  ·obtain⟨b,o,rfl,_,kc⟩:=HS.out.idAt hlt
   by_cases hid:ids[k]=id
   ·have hq:((id:Int)==(ids[k]:Int))=true:=by simp[hid]
    have HI:=zz hid;clear hid;go_wp2;go_ret;exact⟨Cu (Xr ids id k hlt HI.out HN.out).symm,rfl⟩
   ·have hq:((id:Int)==(ids[k]:Int))=false:=by simp;omega
    have HI:=zz hid;clear hid;go_wp2;go_roundw
    case rel=>exact⟨k+1,by omega,by go_num,by first|trivial|rfl,fun j x hj hx=>by
     by_cases e:j=k
     ·subst e;rw[List.getElem?_eq_getElem hlt] at hx;injection hx with hx;rw[←hx];exact HI.out
     ·exact HN.out j x (by omega) hx⟩
    case measure=>simp[intOf];omega
  ·obtain rfl:k=ids.length:=by omega
   go_wp2;go_ret;exact⟨Cu (WW ids id HN.out).symm,rfl⟩
def rawR(v:Value):Option (DataW Value×List MemPlace):=some (.held v,[])
def Ae:Nat:=18446744073709551616
abbrev idL(n:Nat):Lit:= .int .u64 (n:Int)
theorem BS:Maps.Keyed Tryz.prog 30:=Maps.int_keyed Tryz.underlying30
theorem YY{n:Nat}(h:n < Ae):(idL n).wf=true:=by
 unfold Ae at h;have h1:IntKind.u64.min=0:=rfl;have h2:IntKind.u64.max=18446744073709551615:=rfl
 simp[Lit.wf,h1,h2]
 omega
theorem Bb{n:Nat}(h:n < Ae):keyOf Tryz.prog 30 (.int .u64 (n:Int))=some (idL n):=Maps.keyOf_int_mk Tryz.underlying30 (YY h)
def XO(Z:Nat→Prop)(w:World)(D:DataW Value)(id:Nat):Option Hg.Node→Prop
 |none=>Maps.has D (idL id)=false
 |some nd=>∃ka kc,(∀z,D.atKey (idL id) z= .held (ndV nd ka kc))∧Sl w w.heap.size (.slice ka nd.kids.length kc) nd.kids.length (nd.kids.map idV)∧
   ∀q,(Value.slice ka nd.kids.length kc).ownBlock=some q→Z q
abbrev Y2:=XO (fun _=>True)
structure CW (Z:Nat→Prop) (w:World) (mb c:Nat) (M:Nat→Option Hg.Node):Prop where
 own:∃D,w.ownsMap Tryz.prog 30 rawR mb c D∧Maps.size D=c∧∀id,id < Ae→XO Z w D id (M id)
 bd:∀id nd,M id=some nd→nd.kids.length≤1000000
theorem CW.lt{Z:Nat→Prop}{w:World}{mb c:Nat}{M:Nat→Option Hg.Node}(h:CW Z w mb c M):mb < w.heap.size:=by
 obtain⟨⟨D,ho,_⟩,_⟩:=h;exact ho.lt
theorem CW.below{Z:Nat→Prop}{w w':World}{mb c B:Nat}{M:Nat→Option Hg.Node}(h:CW Z w mb c M)(hb:Below B w w')(hB:w.heap.size≤B):CW Z w' mb c M:=by
 have hb':Below w.heap.size w w':=hb.mono hB;obtain⟨⟨D,ho,hc,hk⟩,hbd⟩:=h;refine⟨⟨D,ho.kept (below_grown hb' none) (by simp),hc,fun id hid=> ?_⟩,hbd⟩;have hx:=hk id hid;cases hM:M id with
 |none=>rw[hM] at hx;exact hx
 |some nd=>
   rw[hM] at hx;obtain⟨ka,kc,h1,h2,h3⟩:=hx;exact⟨ka,kc,h1,(h2.below hb' (Nat.le_refl _)).more hb'.size,h3⟩
theorem CW.look{Z:Nat→Prop}{w:World}{mb c:Nat}{M:Nat→Option Hg.Node}(h:CW Z w mb c M){id:Nat}(hid:id < Ae):
 (M id=none→(Instr.lookup 66 (.map (some mb)) (.int .u64 (id:Int)) true).run Tryz.prog w= .ok (.tuple #[ndV Hg.Node.zero none 0,.bool false]) w)∧
 (∀nd,M id=some nd→∃ka kc,(Instr.lookup 66 (.map (some mb)) (.int .u64 (id:Int)) true).run Tryz.prog w= .ok (.tuple #[ndV nd ka kc,.bool true]) w∧
  Sl w w.heap.size (.slice ka nd.kids.length kc) nd.kids.length (nd.kids.map idV)):=by
 have hz:(zeroValue 33).run Tryz.prog w= .ok (ndV Hg.Node.zero none 0) w:=by kernel_rfl
 obtain⟨⟨D,ho,hc,hk⟩,hbd⟩:=h;obtain⟨v,ps,hrun,hv⟩:=ho.look_ok BS Tryz.underlying66 hz (zd:= .held (ndV Hg.Node.zero none 0)) (zp:=[]) rfl (Bb hid);have hx:=hk id hid;simp only[rawR,Option.some.injEq,Prod.mk.injEq] at hv;refine⟨fun hM=> ?_,fun nd hM=> ?_⟩
 ·rw[hM] at hx
  have hx':Maps.has D (idL id)=false:=hx;rw[Maps.atKey_of_not_has hx'] at hv;have e:v=ndV Hg.Node.zero none 0:=by simpa using hv.1
  rw[hrun,hx',e]
 ·rw[hM] at hx
  obtain⟨ka,kc,h1,h2,h3⟩:=hx;rw[h1] at hv;have e:v=ndV nd ka kc:=by simpa using hv.1
  refine⟨ka,kc, ?_,h2⟩;rw[hrun,Maps.has_true_of_atKey h1,e]
structure CK (Z:Nat→Prop) (w:World) (ab mb c:Nat) (M:Nat→Option Hg.Node):Prop where
 cell:w.heap[ab]? =some (.cells #[.map (some mb)] 68 (0,0))
 map:CW Z w mb c M
abbrev ArAt:=CK (fun _=>True)
theorem CK.lt{Z:Nat→Prop}{w:World}{ab mb c:Nat}{M:Nat→Option Hg.Node}(h:CK Z w ab mb c M):ab < w.heap.size:=(Array.getElem?_eq_some_iff.1 h.cell).1
theorem CK.below{Z:Nat→Prop}{w w':World}{ab mb c B:Nat}{M:Nat→Option Hg.Node}(h:CK Z w ab mb c M)(hb:Below B w w')(hB:w.heap.size≤B):CK Z w' ab mb c M:=
 ⟨(hb.block ab (by have:=h.lt;omega)).trans h.cell,h.map.below hb hB⟩
theorem CW.imp{Z Z':Nat→Prop}{w:World}{mb c:Nat}{M:Nat→Option Hg.Node}(h:CW Z w mb c M)(hz:∀q,Z q→Z' q):CW Z' w mb c M:=by
 obtain⟨⟨D,ho,hc,hk⟩,hbd⟩:=h;refine⟨⟨D,ho,hc,fun id hid=> ?_⟩,hbd⟩;have hx:=hk id hid;cases hM:M id with
 |none=>rw[hM] at hx;exact hx
 |some nd=>
   rw[hM] at hx;obtain⟨ka,kc,h1,h2,h3⟩:=hx;exact⟨ka,kc,h1,h2,fun q hq=>hz q (h3 q hq)⟩
theorem CK.imp{Z Z':Nat→Prop}{w:World}{ab mb c:Nat}{M:Nat→Option Hg.Node}(h:CK Z w ab mb c M)(hz:∀q,Z q→Z' q):CK Z' w ab mb c M:=⟨h.cell,h.map.imp hz⟩
theorem CK.weak{Z:Nat→Prop}{w:World}{ab mb c:Nat}{M:Nat→Option Hg.Node}(h:CK Z w ab mb c M):ArAt w ab mb c M:=h.imp fun _ _=>trivial
theorem CK.read{Z:Nat→Prop}{w:World}{ab mb c:Nat}{M:Nat→Option Hg.Node}(h:CK Z w ab mb c M):w.cell? ⟨ab,0,none⟩=some (.map (some mb))∧w.frozen? ⟨ab,0,none⟩=false:=by
 refine⟨cell_of_row w ab 0 _ _ (0,0) h.cell,by simp[World.frozen?,h.cell]⟩
theorem CW.WE{Z:Nat→Prop}{w:World}{mb c:Nat}{M:Nat→Option Hg.Node}(h:CW Z w mb c M){id:Nat}(hid:id < Ae):
 ∃ka kc,(Instr.lookup 66 (.map (some mb)) (.int .u64 (id:Int)) true).run Tryz.prog w= .ok (.tuple #[ndV ((M id).getD Hg.Node.zero) ka kc,.bool (M id).isSome]) w∧
   Sl w w.heap.size (.slice ka ((M id).getD Hg.Node.zero).kids.length kc) ((M id).getD Hg.Node.zero).kids.length (((M id).getD Hg.Node.zero).kids.map idV):=by
 obtain⟨h1,h2⟩:=h.look hid;cases hM:M id with
 |none=>exact⟨none,0,h1 hM,Sl.nil _ _⟩
 |some nd=>exact h2 nd hM
theorem CW.len{Z:Nat→Prop}{w:World}{mb c:Nat}{M:Nat→Option Hg.Node}(h:CW Z w mb c M)(id:Nat):((M id).getD Hg.Node.zero).kids.length≤1000000:=by
 cases hM:M id with
 |none=>simp[Hg.Node.zero]
 |some nd=>exact h.bd id nd hM
theorem Xb{w1:World}{B g:Nat}{v:Value}{n:Nat}{xs:List Value}(h:Sl w1 B v n xs)(hne:v.ownBlock≠some g)(u0 u1 u2 u3 u4 u5:Value):
 Sl ((((((w1.setCell ⟨g,0,none⟩ u0).setCell ⟨g,1,none⟩ u1).setCell ⟨g,2,none⟩ u2).setCell ⟨g,3,none⟩ u3).setCell ⟨g,4,none⟩ u4).setCell ⟨g,5,none⟩ u5) B v n xs:=
 Bp (p:=⟨g,5,none⟩) (Bp (p:=⟨g,4,none⟩) (Bp (p:=⟨g,3,none⟩) (Bp (p:=⟨g,2,none⟩) (Bp (p:=⟨g,1,none⟩) (Bp (p:=⟨g,0,none⟩) h hne _) hne _) hne _) hne _) hne _) hne _
def Yh(w:World)(o:Option Hg.Node)(e:Ending)(w':World):Prop:=
 ∃ka kc,e= .returned (.tuple #[ndV (o.getD Hg.Node.zero) ka kc,.bool o.isSome])∧Sl w' w'.heap.size (.slice ka (o.getD Hg.Node.zero).kids.length kc) (o.getD Hg.Node.zero).kids.length ((o.getD Hg.Node.zero).kids.map idV)∧Below w.heap.size w w'
def YC(w:World)(nd:Hg.Node)(s:Bool)(e:Ending)(w':World):Prop:=
 ∃ka kc,e= .returned (.tuple #[ndV nd ka kc,.bool s])∧Sl w' w'.heap.size (.slice ka nd.kids.length kc) nd.kids.length (nd.kids.map idV)∧Below w.heap.size w w'
theorem Xw(ab mb c:Nat)(M:Nat→Option Hg.Node)(id:Nat)(w:World)(hA:ArAt w ab mb c M)(hid:id < Ae):
 Calls Tryz.prog 8 #[.pointer (some ⟨ab,0,none⟩),.int .u64 (id:Int)] w (Yh w (M id)):=by
 obtain⟨c0,f0⟩:=hA.read;have hlt:=hA.lt;have hb0:∀z,Below w.heap.size w (w.alloc (.cells z 33)):=fun z=>(Below.refl _ _).alloc (Nat.le_refl _) _;have hlen:=hA.map.len id;obtain⟨ka,kc,hlk,hks⟩:=(hA.below (hb0 #[.int .u8 0,.string ⟨#[]⟩,.int .i64 0,.int .u8 0,.int .u64 0,.slice none 0 0]) (Nat.le_refl _)).map.WE hid;refine Calls.mono (R:=YC w ((M id).getD Hg.Node.zero) (M id).isSome) ?_ (fun e w' h=>h);generalize(M id).getD Hg.Node.zero=nd at hlk hks hlen⊢;generalize(M id).isSome=s at hlk⊢;have HS:=zz hks;clear hA hid hb0 hks;go_enter Tryz.func8,Tryz.ntmps8;go_wp2_with fail;refine(KW _ nd ka kc _ (by simp) (HS.out.alloc (Nat.le_refl _) _) hlen).mono ?_;rintro e w1 ⟨ka1,kc1,rfl,hs1,hb1,hq1⟩;obtain⟨hh1,hh2,hsz,hbb⟩:=Gx hb1;have HS1:=zz hs1;have HQ1:=zz (show(Value.slice ka1 nd.kids.length kc1).ownBlock≠some w.heap.size from fun e=>by have:=hq1 _ e;simp at this;omega);have c2:=fun i=>cell_of_row w1 w.heap.size i _ _ (0,0) hh1;have z0:=c2 0;have z1:=c2 1;have z2:=c2 2;have z3:=c2 3;have z4:=c2 4;have z5:=c2 5;simp at z0 z1 z2 z3 z4 z5;have f2:∀i,w1.frozen? ⟨w.heap.size,i,none⟩=false:=fun i=>by simp[World.frozen?,hh1]
 clear hs1 hb1 hh1 hh2 c2 hq1 hlk;go_wp2;exact bodyPost_ret (v:= .tuple #[ndV nd ka1 kc1,.bool s]) (by simp[results,Tryz.results8,go_sem,z0,z1,z2,z3,z4,z5,f2]) rfl
  ⟨ka1,kc1,rfl,(Xb HS1.out HQ1.out _ _ _ _ _ _).more (by simp),Cb hbb (Nat.le_refl _) _ _ _ _ _ _⟩
theorem OG(p q:Value)(xs:List Nat)(w:World)(hl:xs.length≤1000000)(hp:Sl w w.heap.size p xs.length (xs.map idV))(hq:Sl w w.heap.size q xs.length (xs.map idV)):
 Calls Tryz.prog 9 #[p,q] w fun e w'=>e= .returned (.bool true)∧Below w.heap.size w w':=by
 obtain⟨a1,c1,rfl⟩:=hp.form;obtain⟨a2,c2,rfl⟩:=hq.form;have HP:=zz hp;have HQ:=zz hq;clear hp hq;go_enter Tryz.func9,Tryz.ntmps9;go_wp2
 go_loopw [5,13] (fun _ i wr=>∃k:Nat,k≤xs.length∧i= .int .i64 (k:Int)∧Below w.heap.size w wr) (fun _ i _=>xs.length-(intOf i).toNat)
 case atStart=>exact⟨0,by omega,rfl,Below.refl _ _⟩
 case round=>
  obtain⟨k,hk,rfl,hb⟩:=hrel;have HB:=zz hb;by_cases h0:k < xs.length
  ·obtain⟨b1,o1,rfl,hb1,e1'⟩:=HP.out.idAt h0
   obtain⟨b2,o2,rfl,hb2,e2'⟩:=HQ.out.idAt h0;generalize xs[k]=x at e1' e2';have e1:=(hb.cell hb1).trans e1';have e2:=(hb.cell hb2).trans e2';clear hb e1' e2';go_upto_region 6 with fail
   go_quiet (fail)
   go_wp2;go_roundw
   case rel=>exact⟨k+1,by omega,by go_num,below_drewN HB.out nq⟩
   case measure=>simp[intOf];omega
  ·obtain rfl:k=xs.length:=by omega
   clear hb;go_wp2;go_ret;exact⟨rfl,HB.out⟩
theorem Rt(p q:Value)(xs:List (List UInt8))(w:World)(hl:xs.length≤1000000)(hp:Sl w w.heap.size p xs.length (xs.map strV))(hq:Sl w w.heap.size q xs.length (xs.map strV)):
 Calls Tryz.prog 13 #[p,q] w fun e w'=>e= .returned (.bool true)∧Below w.heap.size w w':=by
 obtain⟨a1,c1,rfl⟩:=hp.form;obtain⟨a2,c2,rfl⟩:=hq.form;have HP:=zz hp;have HQ:=zz hq;clear hp hq;go_enter Tryz.func13,Tryz.ntmps13;go_wp2
 go_loopw [5,13] (fun _ i wr=>∃k:Nat,k≤xs.length∧i= .int .i64 (k:Int)∧Below w.heap.size w wr) (fun _ i _=>xs.length-(intOf i).toNat)
 case atStart=>exact⟨0,by omega,rfl,Below.refl _ _⟩
 case round=>
  obtain⟨k,hk,rfl,hb⟩:=hrel;have HB:=zz hb;by_cases h0:k < xs.length
  ·obtain⟨b1,o1,rfl,hb1,e1'⟩:=HP.out.strAt h0
   obtain⟨b2,o2,rfl,hb2,e2'⟩:=HQ.out.strAt h0;generalize xs[k]=x at e1' e2';have e1:=(hb.cell hb1).trans e1';have e2:=(hb.cell hb2).trans e2';clear hb e1' e2';go_upto_region 6 with fail
   go_quiet (fail)
   go_wp2;go_roundw
   case rel=>exact⟨k+1,by omega,by go_num,below_drewN HB.out nq⟩
   case measure=>simp[intOf];omega
  ·obtain rfl:k=xs.length:=by omega
   clear hb;go_wp2;go_ret;exact⟨rfl,HB.out⟩
theorem UE:(Tryz.prog.info? 9).map (fun i=>(i.zero,i.size,i.bytes))=some (some (.string ⟨#[]⟩),1,16):=by kernel_rfl
def J2(l:List Hg.Row):List Nat→List (List UInt8)→List (List UInt8)
 |[],out=>out
 |k::ks,out=>J2 l ks (if (Hg.AV l k).kind=4∨(Hg.AV l k).kind=6 then out++[(Hg.AV l k).name] else out)
theorem QJ(l:List Hg.Row):∀(ks:List Nat) (out:List (List UInt8)),J2 l ks out=out++((ks.filter (fun k=>Hg.kindOf l k==4||Hg.kindOf l k==6)).map (fun k=>(Hg.AV l k).name))
 |[],out=>by simp[J2]
 |k::ks,out=>by
   rw[J2,QJ l ks,List.filter_cons];unfold Hg.kindOf;by_cases h:(Hg.AV l k).kind=4∨(Hg.AV l k).kind=6
   ·rw[if_pos h]
    have:((Hg.AV l k).kind==4||(Hg.AV l k).kind==6)=true:=by simpa using h
    rw[if_pos this];simp
   ·rw[if_neg h]
    have:¬((Hg.AV l k).kind==4||(Hg.AV l k).kind==6)=true:=by simpa using h
    rw[if_neg this]
theorem QG(B:Nat)(v:Value)(l:List Hg.Row)(f:Nat)(w:World)(hB:B≤w.heap.size)(hx:Az w B v l)(hl:l.length≤1000000000)(hks:Hg.BA l≤100000000):
 Calls Tryz.prog 15 #[v,.int .u64 (f:Int)] w fun e w'=>(∃a c,e= .returned (.slice a (Hg.Em l f).length c)∧Sl w' w'.heap.size (.slice a (Hg.Em l f).length c) (Hg.Em l f).length ((Hg.Em l f).map strV))∧Below w.heap.size w w':=by
 obtain⟨j0,hj,hj0,hj1,hj2⟩:=info_parts UE;have hX:=zz hx;obtain⟨a,c,rfl⟩:=hx.form;clear hx;have TN:=fun x W h1 h2=>zz (MM B (.slice a l.length c) l x W h1 h2 hl);have TW:=zz (KX B (.slice a l.length c) l f w hB hX.out hl hks);have hwl:=Hg.VR l f;have hp:J2 l (Hg.walk l f) []=Hg.Em l f:=by rw[QJ];rfl
 have HP:=zz hp;clear hp;generalize Hg.Em l f=r at HP;generalize Hg.walk l f=ws at HP TW hwl;go_enter Tryz.func15,Tryz.ntmps15
 go_wp2_with (go_at_call 38;refine TW.out.mono ?_;rintro e w1 ⟨⟨ka,kc,rfl,hkid⟩,hb1⟩;have HK:=zz hkid;clear hkid)
 have hI:Below w1.heap.size w1 w1:=Below.refl _ _
 go_loopw [5,13] (fun p q wr=>∃(m:Nat) (out:List (List UInt8)),q= .int .i64 m∧m≤ws.length∧out.length≤m∧wr.ownsRow w1.heap.size 9 1 p out.length (out.map strV)∧J2 l (ws.drop m) out=r∧Below w.heap.size w wr∧Below w1.heap.size w1 wr) (fun _ q _=>ws.length-(intOf q).toNat)
 case atStart=>exact⟨0,[],rfl,Nat.zero_le _,Nat.le_refl _,World.ownsRow_nil _ _ _ _,HP.out,hb1,hI⟩
 case round=>
  obtain⟨m,out,rfl,hm,hom,hown,hg,hbw,hbr⟩:=hrel;have HO:=zz hown;have HG:=zz hg;clear hown hg HP hI;have hBW:B≤wr.heap.size:=Nat.le_trans hB hbw.size;by_cases hlt:m < ws.length
  ·obtain⟨b3,o3,rfl,_,kc3⟩:=(HK.out.below hbr (Nat.le_refl _)).idAt hlt
   have hstep:J2 l (ws[m]::ws.drop (m+1)) out=r:=by rw[←List.drop_eq_getElem_cons hlt];exact HG.out
   rw[J2] at hstep;generalize ws[m]=x at kc3 hstep;have T2:=TN x wr hBW (hX.out.below hbw hB);generalize Hg.AV l x=nx at hstep T2;have hsz:=hbr.size;have hcs:(nx.kind=4∧((nx.kind:Int)==4)=true)∨(nx.kind=6∧((nx.kind:Int)==4)=false∧((nx.kind:Int)==6)=true)∨(¬(nx.kind=4∨nx.kind=6)∧((nx.kind:Int)==4)=false∧((nx.kind:Int)==6)=false):=by
    by_cases h4:nx.kind=4
    ·exact .inl ⟨h4,by simp[h4]⟩
    ·by_cases h6:nx.kind=6
     ·exact .inr (.inl ⟨h6,by simp[h6],by simp[h6]⟩)
     ·exact .inr (.inr ⟨by omega,by simp;omega,by simp;omega⟩)
   rcases hcs with⟨h4,q4⟩|⟨h4,q4,q6⟩|⟨h4,q4,q6⟩
   rotate_right
   ·rw[if_neg h4] at hstep
    have HS:=zz hstep;clear hstep h4 HG
    go_wp2_with (go_at_call 39;refine T2.out.mono ?_;rintro e w2 ⟨kx,cx,rfl,_,hb2⟩)
    have hbw2:=(hbw.trans (hb2.mono hbw.size)).alloc (by have:=hbw.size;have:=hb2.size;omega) (Ec nx kx cx);have hbr2:=(hbr.trans (hb2.mono hbr.size)).alloc (by have:=hb2.size;omega) (Ec nx kx cx);go_roundw
    case rel=>exact⟨m+1,out,by go_num,by omega,by omega,(CL HO.out hb2 (Nat.le_refl _)).alloc _,HS.out,hbw2,hbr2⟩
    case measure=>simp[intOf];omega
   all_goals
    rw[if_pos (by omega)] at hstep;have HS:=zz hstep;clear hstep h4 HG;go_wp2_with fail;refine T2.out.mono ?_;rintro e w2 ⟨kx,cx,rfl,_,hb2⟩;have hbw2:=(hbw.trans (hb2.mono hbw.size)).alloc (by have:=hbw.size;have:=hb2.size;omega) (Ec nx kx cx);have hbr2:=(hbr.trans (hb2.mono hbr.size)).alloc (by have:=hb2.size;omega) (Ec nx kx cx);go_upto_region 7 with fail;have hsz3:=hbr2.size;have hO3:=(CL HO.out hb2 (Nat.le_refl _)).alloc (Ec nx kx cx);have k1:(w2.alloc (Ec nx kx cx)).cell? ⟨w2.heap.size,1,none⟩=some (strV nx.name):=cell_of_row (w2.alloc (Ec nx kx cx)) w2.heap.size 1 _ _ (0,0) (heap_alloc_new w2 _);generalize World.alloc w2 _=w3 at hbw2 hbr2 hsz3 hO3 k1⊢;have HO3:=zz hO3;clear hO3
    go_wp2_with (at_builtin;refine wpList_append_own_at _ rfl (.tmp 28) (.tmp 31) _ rfl w1.heap.size 9 j0 _ 1 16 Tryz.underlying41 hj hj0 hj1 hj2 rfl (by decide) _ _ _ rfl (HO3.out.alloc _) ⟨_,0,none⟩ 1 1 [strV nx.name] rfl rfl (Af _ _ _) ?_ ?_ ?_ ?_ ?_)
    ·intro u hu;simp only[List.mem_singleton] at hu;subst hu;rfl
    ·unfold maxLen;omega
    ·omega
    ·simp;omega
    intro v4 W4 own4 g4 _ at4;have hbr4:Below w1.heap.size w1 W4:=(hbr2.alloc hsz3 (.cells #[strV nx.name] 9)).trans ⟨g4.os,g4.tape,g4.output,g4.size,fun q hq=>g4.block q (by simp;omega) (fun e=>by have:=(HO3.out.lt q e.symm).1;omega)⟩;have hbw4:Below w.heap.size w W4:=hb1.trans (hbr4.mono hb1.size);have own5:W4.ownsRow w1.heap.size 9 1 v4 (out++[nx.name]).length ((out++[nx.name]).map strV):=by simpa using own4
    have OW:=zz own5;clear own4 own5 g4 at4;go_wp2;go_roundw
    case rel=>exact⟨m+1,out++[nx.name],by go_num,by omega,by simp;omega,OW.out,HS.out,hbw4,hbr4⟩
    case measure=>simp[intOf];omega
  ·obtain rfl:m=ws.length:=by omega
   have he:out=r:=by have h1:=HG.out;rw[List.drop_length,J2] at h1;exact h1
   have HE:=zz he;clear he HG;go_wp2;go_ret;have hs:=Sl.AX HO.out;obtain⟨a2,c2,hv⟩:=hs.form;subst hv;rw[←HE.out];exact⟨⟨a2,c2,rfl,hs⟩,hbw⟩
theorem Rl(B:Nat)(v:Value)(l:List Hg.Row)(mod name:List UInt8)(w:World)(hB:B≤w.heap.size)(hx:Az w B v l)(hl:l.length≤1000000000)(hkn:∀x,(Hg.AV l x).kids.length≤100000000):
 Calls Tryz.prog 16 #[v,strV mod,strV name] w fun e w'=>e= .returned (.int .u64 (Hg.funcOf l mod name (Hg.AV l 1).kids:Int))∧Below w.heap.size w w':=by
 have hX:=zz hx;obtain⟨a,c,rfl⟩:=hx.form;clear hx;have TN:=fun x W h1 h2=>zz (MM B (.slice a l.length c) l x W h1 h2 hl);have T1:=TN 1 w hB hX.out;have hk1:=hkn 1;obtain⟨r,hr⟩:∃r,Hg.funcOf l mod name (Hg.AV l 1).kids=r:=⟨_,rfl⟩;rw[hr];have HP:=zz hr;clear hr;generalize Hg.AV l 1=nd at HP T1 hk1;go_enter Tryz.func16,Tryz.ntmps16
 go_wp2_with (go_at_call 39;refine T1.out.mono ?_;rintro e w1 ⟨ka,kc,rfl,hkid,hb1⟩;have HK:=zz hkid;clear hkid)
 go_loopw [15] (fun q wr=>∃m:Nat,q= .int .i64 m∧m≤nd.kids.length∧Hg.funcOf l mod name (nd.kids.drop m)=r∧Below w.heap.size w wr∧Below w1.heap.size w1 wr) (fun q _=>nd.kids.length-(intOf q).toNat)
 case atStart=>exact⟨0,rfl,Nat.zero_le _,HP.out,hb1,Below.refl _ _⟩
 case round=>
  obtain⟨m,rfl,hm,hg,hbw,hbr⟩:=hrel;have HG:=zz hg;clear hg HP;have hBW:B≤wr.heap.size:=Nat.le_trans hB hbw.size;by_cases hlt:m < nd.kids.length
  ·obtain⟨b3,o3,rfl,_,kc3⟩:=(HK.out.below hbr (Nat.le_trans hB hb1.size)).idAt hlt
   have hstep:Hg.funcOf l mod name (nd.kids[m]::nd.kids.drop (m+1))=r:=by rw[←List.drop_eq_getElem_cons hlt];exact HG.out
   rw[Hg.funcOf] at hstep;generalize nd.kids[m]=x at kc3 hstep;have T2:=TN x wr hBW (hX.out.below hbw hB);have T3:=fun W h1 h2=>TN x W h1 h2;have hkx:=hkn x;have hin:∀ks,Hg.Ee l x mod name ks=Hg.Ee l x mod name ks:=fun _=>rfl;generalize hnx:Hg.AV l x=nx at hstep T2 T3 hkx;have HS:=zz hstep;have HNX:=zz hnx;clear hstep hnx hin HG
   go_wp2_with (go_at_call 39;refine T2.out.mono ?_;rintro e w2 ⟨kx,cx,rfl,hkx2,hb2⟩;have HK2:=zz hkx2;clear hkx2)
   obtain⟨wo,rfl⟩:∃wo:World,wo=wr:=⟨_,rfl⟩;have hbw2:=hbw.trans (hb2.mono hbw.size);have hbr2:=hbr.trans (hb2.mono hbr.size)
   go_loopw [24] (fun q wr=>∃j:Nat,q= .int .i64 j∧j≤nx.kids.length∧(match Hg.Ee l x mod name (nx.kids.drop j) with|some f=>f|none=>Hg.funcOf l mod name (nd.kids.drop (m+1)))=r∧Below w2.heap.size w2 wr) (fun q _=>nx.kids.length-(intOf q).toNat)
   case atStart=>exact⟨0,rfl,Nat.zero_le _,HS.out,Below.refl _ _⟩
   case round=>
    obtain⟨j,rfl,hj,hg,hbq⟩:=hrel;have HG:=zz hg;clear hg HS;have hbw3:=hbw2.trans (hbq.mono hbw2.size);have hbr3:=hbr2.trans (hbq.mono hbr2.size);have hBQ:B≤wr.heap.size:=Nat.le_trans hB hbw3.size;by_cases hlt2:j < nx.kids.length
    ·obtain⟨b4,o4,rfl,_,kc4⟩:=(HK2.out.below hbq (Nat.le_trans hBW hb2.size)).idAt hlt2
     have hstep:(match Hg.Ee l x mod name (nx.kids[j]::nx.kids.drop (j+1)) with|some f=>f|none=>Hg.funcOf l mod name (nd.kids.drop (m+1)))=r:=by rw[←List.drop_eq_getElem_cons hlt2];exact HG.out
     rw[Hg.Ee,HNX.out] at hstep;generalize nx.kids[j]=y at kc4 hstep;have T4:=T3 wr hBQ (hX.out.below hbw3 hB);have T5:=fun W h1 h2=>TN y W h1 h2;generalize Hg.AV l y=ny at hstep T5;by_cases h1:nx.name=mod
     ·have q1:(nx.name==mod)=true:=by simp[h1]
      have hq:∀W:World,Below wr.heap.size wr W→B≤W.heap.size∧Az W B (.slice a l.length c) l:=fun W h=>⟨Nat.le_trans hBQ h.size,(hX.out.below hbw3 hB).below h hBQ⟩;by_cases h2:ny.name=name
      ·have q2:(ny.name==name)=true:=by simp[h2]
       rw[if_pos ⟨h1,h2⟩] at hstep;have HS:=zz (show y=r from hstep);clear hstep HG;go_wp2_with fail;refine T4.out.mono ?_;rintro e w4 ⟨kx4,cx4,rfl,_,hb4⟩;go_wp2_with fail;refine(T5 w4 (hq w4 hb4).1 (hq w4 hb4).2).out.mono ?_;rintro e w5 ⟨kx5,cx5,rfl,_,hb5⟩;go_wp2;go_ret;exact⟨by rw[HS.out];rfl,(hbw3.trans (hb4.mono hbw3.size)).trans (hb5.mono (hbw3.trans (hb4.mono hbw3.size)).size)⟩
      ·have q2:(ny.name==name)=false:=by simp[h2]
       rw[if_neg (by simp[h2])] at hstep;have HS:=zz hstep;clear hstep HG;go_wp2_with fail;refine T4.out.mono ?_;rintro e w4 ⟨kx4,cx4,rfl,_,hb4⟩;go_wp2_with fail;refine(T5 w4 (hq w4 hb4).1 (hq w4 hb4).2).out.mono ?_;rintro e w5 ⟨kx5,cx5,rfl,_,hb5⟩;go_wp2;go_roundw
       case rel=>exact⟨j+1,by go_num,by omega,HS.out,(hbq.trans (hb4.mono hbq.size)).trans (hb5.mono (hbq.trans (hb4.mono hbq.size)).size)⟩
       case measure=>simp[intOf];omega
     ·have q1:(nx.name==mod)=false:=by simp[h1]
      rw[if_neg (by simp[h1])] at hstep;have HS:=zz hstep;clear hstep HG
      go_wp2_with (go_at_call 39;refine T4.out.mono ?_;rintro e w4 ⟨kx4,cx4,rfl,_,hb4⟩)
      go_roundw
      case rel=>exact⟨j+1,by go_num,by omega,HS.out,hbq.trans (hb4.mono hbq.size)⟩
      case measure=>simp[intOf];omega
    ·obtain rfl:j=nx.kids.length:=by omega
     have he:Hg.funcOf l mod name (nd.kids.drop (m+1))=r:=by have h1:=HG.out;rw[List.drop_length,Hg.Ee] at h1;exact h1
     have HE:=zz he;clear he HG;go_wp2;go_roundw
     case rel=>exact⟨m+1,by go_num,by omega,HE.out,hbw3,hbr3⟩
     case measure=>simp[intOf];omega
  ·obtain rfl:m=nd.kids.length:=by omega
   have he:r=0:=by have h1:=HG.out;rw[List.drop_length,Hg.funcOf] at h1;exact h1.symm
   have HE:=zz he;clear he HG;go_wp2;go_ret;exact⟨by rw[HE.out];rfl,hbw⟩
end Go.Proofs.YtljmibnfmilfbaaGreatDoor
