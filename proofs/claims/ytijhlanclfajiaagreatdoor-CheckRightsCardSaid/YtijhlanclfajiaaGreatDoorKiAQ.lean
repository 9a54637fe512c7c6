/-
  A part of the proof.
-/
import Derived.Test.YtijhlanclfajiaaGreatDoorKiAO
import Derived.Test.YtijhlanclfajiaaGreatDoorKiAL
import Derived.Test.YtijhlanclfajiaaGreatDoorKiAK
set_option linter.all false
set_option maxHeartbeats 32000000
set_option maxRecDepth 100000
namespace Go.Proofs.YtijhlanclfajiaaGreatDoor
open Go.RowKit
theorem box7{w w1:World}{v0 v1 v2 v3 v4 v5 v6:Value}{t:TypeId}(hb:Below (w.alloc (.cells #[v0,v1,v2,v3,v4,v5,v6] t)).heap.size (w.alloc (.cells #[v0,v1,v2,v3,v4,v5,v6] t)) w1):
 (w1.cell? ⟨w.heap.size,0,none⟩=some v0∧w1.cell? ⟨w.heap.size,1,none⟩=some v1∧w1.cell? ⟨w.heap.size,2,none⟩=some v2∧w1.cell? ⟨w.heap.size,3,none⟩=some v3∧w1.cell? ⟨w.heap.size,4,none⟩=some v4∧w1.cell? ⟨w.heap.size,5,none⟩=some v5∧w1.cell? ⟨w.heap.size,6,none⟩=some v6)∧
 w.heap.size < w1.heap.size∧Below w.heap.size w w1:=by
 have hh:w1.heap[w.heap.size]? =some (.cells #[v0,v1,v2,v3,v4,v5,v6] t (0,0)):=(hb.block w.heap.size (by simp)).trans (AZ w _);have hc:=fun i=>AJ w1 w.heap.size i _ _ (0,0) hh;refine⟨⟨hc 0,hc 1,hc 2,hc 3,hc 4,hc 5,hc 6⟩, ?_, ?_⟩
 ·have:=hb.size;simp at this;omega
 ·exact((Below.refl w.heap.size w).alloc AA _).trans (hb.mono (by simp))
@[reducible] def DN(r:Hg.Row)(ka:Option Addr)(kc:Nat):Obj:=
 .cells #[.int .u64 (r.id:Int),.int .u8 (r.node.kind:Int),strV r.node.name,.int .i64 r.node.num,.int .u8 (r.node.type:Int),.int .u64 (r.node.ref:Int),.slice ka r.node.kids.length kc] 46
theorem UT{l:List Hg.Row}{k:Nat}(h:Hg.atI l 1=some k):Hg.tree l=if (Hg.rowAt l k).node.kind≠1∨(Hg.walk l 1).length≠l.length then false else(match Hg.CG l l 0 with
 |none=>false
 |some n=>decide (n+1=l.length) && decide (0 < Hg.CQ l 200 1)):=by unfold Hg.tree;rw[h];rfl
theorem UU{l:List Hg.Row}(h:Hg.atI l 1=none):Hg.tree l=false:=by unfold Hg.tree;rw[h]
theorem UV(B:Nat)(v:Value)(l:List Hg.Row)(w:World)(hB:B≤w.heap.size)(hx:Aw w B v l)(hl:l.length≤1000000000)(hks:Hg.BF l≤100000000)
 (hkl:∀(j:Nat) (r:Hg.Row),l[j]? =some r→r.node.kids.length≤1000000000):
 Calls Tryz.prog 59 #[v] w fun e w'=>e= .returned (.bool (Hg.tree l))∧Below w.heap.size w w':=by
 have hX:=zz hx;have HKL:=zz hkl;obtain⟨a,c,rfl⟩:=hx.form;clear hx hkl;cases hk:Hg.atI l 1 with
 |none=>
   have HT:=zz (UU hk);have HA:=zz (De hk);clear hk;go_enter Tryz.func59,Tryz.ntmps59;go_wp2_with fail;refine(DV B _ l 1 _ hB hX.out hl).mono ?_;rintro e w1 ⟨rfl,hb1⟩;rw[HA.out];go_wp2;go_ret;exact⟨AQ HT.out.symm,hb1⟩
 |some k=>
   have ht:=UT hk;have HA:=zz (Dc hk);have hkr:=D6 hk;have hkl1:k < l.length:=(Af.1 hkr).1;have HKR:=zz hkr;clear hk hkr;by_cases h1:(Hg.rowAt l k).node.kind=1
   ·have q1:(((Hg.rowAt l k).node.kind:Int) !=1)=false:=by simp[h1]
    by_cases h2:(Hg.walk l 1).length=l.length
    ·rw[if_neg (by simp[h1,h2])] at ht
     have HT:=zz ht;have H2:=zz h2;clear ht h1 h2;have TW:=fun W h1 h2=>zz (Kn B (.slice a l.length c) l 1 W h1 h2 hl hks);go_enter Tryz.func59,Tryz.ntmps59;go_wp2_with fail;refine(DV B _ l 1 _ hB hX.out hl).mono ?_;rintro e w1 ⟨rfl,hb1⟩;rw[HA.out];go_wp2_with fail;have hB1:=AO hB hb1.size;refine(DV B _ l 1 _ hB1 (hX.out.below hb1 hB) hl).mono ?_;rintro e w2 ⟨rfl,hb2⟩;rw[HA.out];have hb12:=hb1.trans (hb2.mono hb1.size);have hX2:=hX.out.below hb12 hB;obtain⟨br,orr,ka,kc,rfl,hbrB,_,_,d1,_,_,_,_,_⟩:=hX2.at_ HKR.out;have HX2:=zz hX2;clear hX2;go_wp2_with fail;refine((TW _ (AO hB hb12.size) HX2.out).out).mono ?_;rintro e w3 ⟨⟨a3,c3,rfl,_⟩,hb3⟩;rw[H2.out];have hb13:=hb12.trans (hb3.mono hb12.size);clear d1 HX2 hb1 hb2 hb3 hb12 hB1;have hI:Below w.heap.size w w3:=hb13;go_wp2
     go_loopw [3,31] (fun p q wr=>∃(i n:Nat),q= .int .i64 i∧i≤l.length∧p= .int .i64 n∧n≤i*1000000000∧Hg.CG l (l.drop i) n=Hg.CG l l 0∧Below w.heap.size w wr) (fun _ q _=>l.length-(intOf q).toNat)
     case atStart=>exact⟨0,0,rfl,Nat.zero_le _,rfl,Nat.zero_le _,rfl,hI⟩
     case round=>
      obtain⟨i,n,rfl,hi,rfl,hn,hg,hbw⟩:=hrel;have HG:=zz hg;clear hg hI hb13;obtain⟨wo,rfl⟩:∃wo:World,wo=wr:=⟨_,rfl⟩;by_cases hlt:i < l.length
      ·have hri:l[i]? =some l[i]:=AX hlt
       obtain⟨b',o',ki,kci,e0,_,hkid,d0,d1,d2,d3,d4,d5,d6⟩:=(hX.out.below hbw hB).at_ hri;injection e0 with e0;injection e0 with e1 e2 _;subst e1;subst e2;have HK:=zz hkid;have hkl2:=HKL.out i l[i] hri;have hstep:Hg.CG l (l[i]::l.drop (i+1)) n=Hg.CG l l 0:=by rw[←Au hlt];exact HG.out
       rw[Hg.CG] at hstep;clear hkid hri;generalize l[i]=r at d0 d1 d2 d3 d4 d5 d6 HK hkl2 hstep;have hBw:B≤wo.heap.size:=AO hB hbw.size;have HBX:=zz (Below.refl (wo.alloc (DN r ki kci)).heap.size (wo.alloc (DN r ki kci)));have T:=fun x W h1 h2=>zz (DV B (.slice (some ⟨br,orr,none⟩) l.length c) l x W h1 h2 hl);by_cases hr0:r.node.ref=0
       ·rw[if_neg (by simp[hr0])] at hstep
        have q2:((r.node.ref:Int) !=0)=false:=by simp[hr0]
        clear hr0;have HS:=zz hstep;clear hstep HG;go_wp2_with fail
        go_loopw [3,51] (fun p q W=>∃(m nn:Nat),q= .int .i64 m∧m≤r.node.kids.length∧p= .int .i64 nn∧nn≤i*1000000000+m∧Hg.CJ l (r.node.kids.drop m) nn=Hg.CJ l r.node.kids n∧Below (wo.alloc (DN r ki kci)).heap.size (wo.alloc (DN r ki kci)) W) (fun _ q _=>r.node.kids.length-(intOf q).toNat)
        case atStart=>exact⟨0,n,rfl,Nat.zero_le _,rfl,AO hn (Nat.le_add_right _ _),rfl,HBX.out⟩
        case round=>
         obtain⟨m,nn,rfl,hm,rfl,hnn,hg,hbW⟩:=hrel;have HG2:=zz hg;clear hg;obtain⟨⟨k0,k1,k2,k3,k4,k5,k6⟩,hszW,hbbW⟩:=box7 hbW;have hbwW:Below w.heap.size w wr:=hbw.trans (hbbW.mono hbw.size);by_cases hlm:m < r.node.kids.length
         ·obtain⟨b3,o3,rfl,_,kc3⟩:=(HK.out.below hbbW hBw).idAt hlm
          have hstep:Hg.CJ l (r.node.kids[m]::r.node.kids.drop (m+1)) nn=Hg.CJ l r.node.kids n:=by rw[←Au hlm];exact HG2.out
          rw[Hg.CJ] at hstep;generalize r.node.kids[m]=x at kc3 hstep;have hBW:B≤wr.heap.size:=AO hB hbwW.size;cases hxa:Hg.atI l x with
          |none=>
            rw[if_pos (.inl hxa)] at hstep;have HFIN:=zz (show Hg.tree l=false by rw[HT.out,←HS.out,←hstep]);have HA2:=zz (De hxa);clear hxa hstep HG2
            go_wp2_with (go_at_call 111;refine((T x _ hBW (hX.out.below hbwW hB)).out).mono ?_;rintro e w5 ⟨rfl,hb5⟩;rw[HA2.out])
            go_ret;exact⟨AQ HFIN.out.symm,hbwW.trans (hb5.mono hbwW.size)⟩
          |some kx=>
            have HA2:=zz (Dc hxa);by_cases hx1:x=1
            ·rw[if_pos (.inr hx1)] at hstep
             have HFIN:=zz (show Hg.tree l=false by rw[HT.out,←HS.out,←hstep]);have q3:((x:Int)==1)=true:=by simp[hx1]
             clear hxa hstep HG2 hx1
             go_wp2_with (go_at_call 111;refine((T x _ hBW (hX.out.below hbwW hB)).out).mono ?_;rintro e w5 ⟨rfl,hb5⟩;rw[HA2.out])
             go_ret;exact⟨AQ HFIN.out.symm,hbwW.trans (hb5.mono hbwW.size)⟩
            ·rw[if_neg (by simp[hxa,hx1])] at hstep
             have HS2:=zz hstep;have q3:((x:Int)==1)=false:=by simp;omega
             clear hxa hstep HG2 hx1
             go_wp2_with (go_at_call 111;refine((T x _ hBW (hX.out.below hbwW hB)).out).mono ?_;rintro e w5 ⟨rfl,hb5⟩;rw[HA2.out])
             go_roundw
             case rel=>exact⟨m+1,nn+1,by go_num,by omega,by go_num,by omega,HS2.out,hbW.trans (hb5.mono hbW.size)⟩
             case measure=>simp[intOf];omega
         ·obtain rfl:m=r.node.kids.length:=by omega
          have he:=HG2.out;rw[List.drop_length,Hg.CJ] at he;have hs:=HS.out;rw[←he] at hs;dsimp only at hs;have HS3:=zz hs;clear he hs HG2;go_wp2;go_roundw
          case rel=>exact⟨i+1,nn,by go_num,by omega,rfl,by omega,HS3.out,hbwW⟩
          case measure=>simp[intOf];omega
       ·have q2:((r.node.ref:Int) !=0)=true:=by simp;omega
        cases hrf:Hg.atI l r.node.ref with
        |none=>
          rw[if_pos ⟨hr0,hrf⟩] at hstep;have HFIN:=zz (show Hg.tree l=false by rw[HT.out,←hstep]);have HA2:=zz (De hrf);clear hr0 hrf hstep HG
          go_wp2_with (go_at_call 111;refine((T r.node.ref _ (by simp;omega) (hX.out.below (hbw.alloc hbw.size _) hB)).out).mono ?_;rintro e w4 ⟨rfl,hb4⟩;rw[HA2.out])
          go_ret;exact⟨AQ HFIN.out.symm,(hbw.alloc hbw.size (DN r ki kci)).trans (hb4.mono (by have:=hbw.size;simp;omega))⟩
        |some kr=>
          rw[if_neg (by simp[hrf])] at hstep;have HA2:=zz (Dc hrf);clear hr0 hrf;have HS:=zz hstep;clear hstep HG
          go_wp2_with (go_at_call 111;refine((T r.node.ref _ (by simp;omega) (hX.out.below (hbw.alloc hbw.size _) hB)).out).mono ?_;rintro e w4 ⟨rfl,hb4⟩;rw[HA2.out];obtain⟨⟨x0,x1,x2,x3,x4,x5,x6⟩,_,_⟩:=box7 hb4;have HBX:=zz hb4)
          go_loopw [3,51] (fun p q W=>∃(m nn:Nat),q= .int .i64 m∧m≤r.node.kids.length∧p= .int .i64 nn∧nn≤i*1000000000+m∧Hg.CJ l (r.node.kids.drop m) nn=Hg.CJ l r.node.kids n∧Below (wo.alloc (DN r ki kci)).heap.size (wo.alloc (DN r ki kci)) W) (fun _ q _=>r.node.kids.length-(intOf q).toNat)
          case atStart=>exact⟨0,n,rfl,Nat.zero_le _,rfl,AO hn (Nat.le_add_right _ _),rfl,HBX.out⟩
          case round=>
           obtain⟨m,nn,rfl,hm,rfl,hnn,hg,hbW⟩:=hrel;have HG2:=zz hg;clear hg;obtain⟨⟨k0,k1,k2,k3,k4,k5,k6⟩,hszW,hbbW⟩:=box7 hbW;have hbwW:Below w.heap.size w wr:=hbw.trans (hbbW.mono hbw.size);by_cases hlm:m < r.node.kids.length
           ·obtain⟨b3,o3,rfl,_,kc3⟩:=(HK.out.below hbbW hBw).idAt hlm
            have hstep:Hg.CJ l (r.node.kids[m]::r.node.kids.drop (m+1)) nn=Hg.CJ l r.node.kids n:=by rw[←Au hlm];exact HG2.out
            rw[Hg.CJ] at hstep;generalize r.node.kids[m]=x at kc3 hstep;have hBW:B≤wr.heap.size:=AO hB hbwW.size;cases hxa:Hg.atI l x with
            |none=>
              rw[if_pos (.inl hxa)] at hstep;have HFIN:=zz (show Hg.tree l=false by rw[HT.out,←HS.out,←hstep]);have HA2:=zz (De hxa);clear hxa hstep HG2
              go_wp2_with (go_at_call 111;refine((T x _ hBW (hX.out.below hbwW hB)).out).mono ?_;rintro e w5 ⟨rfl,hb5⟩;rw[HA2.out])
              go_ret;exact⟨AQ HFIN.out.symm,hbwW.trans (hb5.mono hbwW.size)⟩
            |some kx=>
              have HA2:=zz (Dc hxa);by_cases hx1:x=1
              ·rw[if_pos (.inr hx1)] at hstep
               have HFIN:=zz (show Hg.tree l=false by rw[HT.out,←HS.out,←hstep]);have q3:((x:Int)==1)=true:=by simp[hx1]
               clear hxa hstep HG2 hx1
               go_wp2_with (go_at_call 111;refine((T x _ hBW (hX.out.below hbwW hB)).out).mono ?_;rintro e w5 ⟨rfl,hb5⟩;rw[HA2.out])
               go_ret;exact⟨AQ HFIN.out.symm,hbwW.trans (hb5.mono hbwW.size)⟩
              ·rw[if_neg (by simp[hxa,hx1])] at hstep
               have HS2:=zz hstep;have q3:((x:Int)==1)=false:=by simp;omega
               clear hxa hstep HG2 hx1
               go_wp2_with (go_at_call 111;refine((T x _ hBW (hX.out.below hbwW hB)).out).mono ?_;rintro e w5 ⟨rfl,hb5⟩;rw[HA2.out])
               go_roundw
               case rel=>exact⟨m+1,nn+1,by go_num,by omega,by go_num,by omega,HS2.out,hbW.trans (hb5.mono hbW.size)⟩
               case measure=>simp[intOf];omega
           ·obtain rfl:m=r.node.kids.length:=by omega
            have he:=HG2.out;rw[List.drop_length,Hg.CJ] at he;have hs:=HS.out;rw[←he] at hs;dsimp only at hs;have HS3:=zz hs;clear he hs HG2;go_wp2;go_roundw
            case rel=>exact⟨i+1,nn,by go_num,by omega,rfl,by omega,HS3.out,hbwW⟩
            case measure=>simp[intOf];omega
      ·obtain rfl:i=l.length:=by omega
       have he:=HG.out;rw[List.drop_length,Hg.CG] at he;have hfin:=HT.out;rw[←he] at hfin;dsimp only at hfin;have hb:Below w.heap.size w wo:=hbw;by_cases hn1:n+1=l.length
       ·have q1:((n:Int)==(l.length:Int)-1)=true:=by simp;omega
        have hfin2:Hg.tree l=decide (0 < Hg.CQ l 200 1):=by rw[hfin,decide_eq_true hn1];rfl
        have HF:=zz hfin2;have hl0:0 < l.length:=by omega
        have hle:=Nf l 200 1;clear he hfin hfin2 HG hn1
        go_wp2_with (go_at_call 113;refine(VS B _ l hl hl0 HKL.out 200 1 _ (by omega) (AO hB hbw.size) (hX.out.below hbw hB)).mono ?_;rintro e w4 ⟨rfl,hb4⟩)
        go_ret;refine⟨AQ ?_,hb.trans (hb4.mono hb.size)⟩;rw[HF.out]
        try simp
       ·have q1:((n:Int)==(l.length:Int)-1)=false:=by simp;omega
        have HF:=zz (show Hg.tree l=false by rw[hfin,decide_eq_false hn1];rfl);clear he hfin HG hn1;go_wp2;go_ret;exact⟨AQ HF.out.symm,hb⟩
    ·rw[if_pos (.inr h2)] at ht
     have HT:=zz ht;have q2:(((Hg.walk l 1).length:Int) !=(l.length:Int))=true:=by simp;omega
     clear ht h1 h2;have TW:=fun W h1 h2=>zz (Kn B (.slice a l.length c) l 1 W h1 h2 hl hks);go_enter Tryz.func59,Tryz.ntmps59;go_wp2_with fail;refine(DV B _ l 1 _ hB hX.out hl).mono ?_;rintro e w1 ⟨rfl,hb1⟩;rw[HA.out];go_wp2_with fail;have hB1:=AO hB hb1.size;refine(DV B _ l 1 _ hB1 (hX.out.below hb1 hB) hl).mono ?_;rintro e w2 ⟨rfl,hb2⟩;rw[HA.out];have hb12:=hb1.trans (hb2.mono hb1.size);have hX2:=hX.out.below hb12 hB;obtain⟨br,orr,ka,kc,rfl,hbrB,_,_,d1,_,_,_,_,_⟩:=hX2.at_ HKR.out;have HX2:=zz hX2;clear hX2;go_wp2_with fail;refine((TW _ (AO hB hb12.size) HX2.out).out).mono ?_;rintro e w3 ⟨⟨a3,c3,rfl,_⟩,hb3⟩;go_wp2;go_ret;exact⟨AQ HT.out.symm,hb12.trans (hb3.mono hb12.size)⟩
   ·rw[if_pos (.inl h1)] at ht
    have HT:=zz ht;have q1:(((Hg.rowAt l k).node.kind:Int) !=1)=true:=by simp;omega
    clear ht h1;go_enter Tryz.func59,Tryz.ntmps59;go_wp2_with fail;refine(DV B _ l 1 _ hB hX.out hl).mono ?_;rintro e w1 ⟨rfl,hb1⟩;rw[HA.out];go_wp2_with fail;have hB1:=AO hB hb1.size;refine(DV B _ l 1 _ hB1 (hX.out.below hb1 hB) hl).mono ?_;rintro e w2 ⟨rfl,hb2⟩;rw[HA.out];have hb12:=hb1.trans (hb2.mono hb1.size);obtain⟨br,orr,ka,kc,rfl,hbrB,_,_,d1,_,_,_,_,_⟩:=(hX.out.below hb12 hB).at_ HKR.out;go_wp2;go_ret;exact⟨AQ HT.out.symm,hb12⟩
theorem below_grown{w w':World}(h:Below w.heap.size w w')(row:Option Nat):w.grownBy w' row:=⟨h.os,h.tape,h.output,h.size,fun k hk _=>h.block k hk⟩
@[reducible] def Bg(n:Hg.Node)(ka:Option Addr)(kc:Nat):Obj:=
 .cells #[.int .u8 (n.kind:Int),strV n.name,.int .i64 n.num,.int .u8 (n.type:Int),.int .u64 (n.ref:Int),.slice ka n.kids.length kc] 44
theorem Me(B:Nat)(v:Value)(l:List Hg.Row)(id:Nat)(w:World)(hB:B≤w.heap.size)(hx:Aw w B v l)(hl:l.length≤1000000000):
 Calls Tryz.prog 117 #[v,.int .u64 (id:Int)] w fun e w'=>e= .returned (.int .u8 (Hg.typeOf l id:Int))∧Below w.heap.size w w':=by
 have hX:=zz hx;obtain⟨a,c,rfl⟩:=hx.form;clear hx;have ht:Hg.typeOf l id=(if (Hg.AL l id).kind=13∨(Hg.AL l id).kind=17∨(Hg.AL l id).kind=20 then 1
  else if (Hg.AL l id).kind=14∨(Hg.AL l id).kind=16 then 2
  else if (Hg.AL l id).kind=18 then(if 5 < (Hg.AL l id).num then 2 else 1)
  else if (Hg.AL l id).kind=15∨(Hg.AL l id).kind=19 then(Hg.AL l (Hg.AL l id).ref).type else 0):=rfl
 have HT:=zz ht;clear ht;have TN:=fun x W h1 h2=>zz (EH B (.slice a l.length c) l x W h1 h2 hl);have T1:=TN id w hB hX.out;generalize Hg.AL l id=nd at HT T1;have hcs:nd.kind=13∨nd.kind=17∨nd.kind=20∨nd.kind=14∨nd.kind=16∨nd.kind=18∨nd.kind=15∨nd.kind=19∨(nd.kind≠13∧nd.kind≠17∧nd.kind≠20∧nd.kind≠14∧nd.kind≠16∧nd.kind≠18∧nd.kind≠15∧nd.kind≠19):=by omega
 rcases hcs with h|h|h|h|h|h|h|h|h
 ·have q13:((nd.kind:Int)==13)=true:=by simp[h]
  have q17:((nd.kind:Int)==17)=false:=by simp;omega
  have q20:((nd.kind:Int)==20)=false:=by simp;omega
  have q14:((nd.kind:Int)==14)=false:=by simp;omega
  have q16:((nd.kind:Int)==16)=false:=by simp;omega
  have q18:((nd.kind:Int)==18)=false:=by simp;omega
  have q15:((nd.kind:Int)==15)=false:=by simp;omega
  have q19:((nd.kind:Int)==19)=false:=by simp;omega
  have HV:=zz (show Hg.typeOf l id=1 by rw[HT.out,if_pos (by omega)]);clear h;go_enter Tryz.func117,Tryz.ntmps117
  go_wp2_with (go_at_call 67;refine T1.out.mono ?_;rintro e w1 ⟨ka,kc,rfl,_,hb1⟩)
  go_ret;exact⟨by rw[HV.out];rfl,hb1.alloc hb1.size _⟩
 ·have q13:((nd.kind:Int)==13)=false:=by simp;omega
  have q17:((nd.kind:Int)==17)=true:=by simp[h]
  have q20:((nd.kind:Int)==20)=false:=by simp;omega
  have q14:((nd.kind:Int)==14)=false:=by simp;omega
  have q16:((nd.kind:Int)==16)=false:=by simp;omega
  have q18:((nd.kind:Int)==18)=false:=by simp;omega
  have q15:((nd.kind:Int)==15)=false:=by simp;omega
  have q19:((nd.kind:Int)==19)=false:=by simp;omega
  have HV:=zz (show Hg.typeOf l id=1 by rw[HT.out,if_pos (by omega)]);clear h;go_enter Tryz.func117,Tryz.ntmps117
  go_wp2_with (go_at_call 67;refine T1.out.mono ?_;rintro e w1 ⟨ka,kc,rfl,_,hb1⟩)
  go_ret;exact⟨by rw[HV.out];rfl,hb1.alloc hb1.size _⟩
 ·have q13:((nd.kind:Int)==13)=false:=by simp;omega
  have q17:((nd.kind:Int)==17)=false:=by simp;omega
  have q20:((nd.kind:Int)==20)=true:=by simp[h]
  have q14:((nd.kind:Int)==14)=false:=by simp;omega
  have q16:((nd.kind:Int)==16)=false:=by simp;omega
  have q18:((nd.kind:Int)==18)=false:=by simp;omega
  have q15:((nd.kind:Int)==15)=false:=by simp;omega
  have q19:((nd.kind:Int)==19)=false:=by simp;omega
  have HV:=zz (show Hg.typeOf l id=1 by rw[HT.out,if_pos (by omega)]);clear h;go_enter Tryz.func117,Tryz.ntmps117
  go_wp2_with (go_at_call 67;refine T1.out.mono ?_;rintro e w1 ⟨ka,kc,rfl,_,hb1⟩)
  go_ret;exact⟨by rw[HV.out];rfl,hb1.alloc hb1.size _⟩
 ·have q13:((nd.kind:Int)==13)=false:=by simp;omega
  have q17:((nd.kind:Int)==17)=false:=by simp;omega
  have q20:((nd.kind:Int)==20)=false:=by simp;omega
  have q14:((nd.kind:Int)==14)=true:=by simp[h]
  have q16:((nd.kind:Int)==16)=false:=by simp;omega
  have q18:((nd.kind:Int)==18)=false:=by simp;omega
  have q15:((nd.kind:Int)==15)=false:=by simp;omega
  have q19:((nd.kind:Int)==19)=false:=by simp;omega
  have HV:=zz (show Hg.typeOf l id=2 by rw[HT.out,if_neg (by omega),if_pos (by omega)]);clear h;go_enter Tryz.func117,Tryz.ntmps117
  go_wp2_with (go_at_call 67;refine T1.out.mono ?_;rintro e w1 ⟨ka,kc,rfl,_,hb1⟩)
  go_ret;exact⟨by rw[HV.out];rfl,hb1.alloc hb1.size _⟩
 ·have q13:((nd.kind:Int)==13)=false:=by simp;omega
  have q17:((nd.kind:Int)==17)=false:=by simp;omega
  have q20:((nd.kind:Int)==20)=false:=by simp;omega
  have q14:((nd.kind:Int)==14)=false:=by simp;omega
  have q16:((nd.kind:Int)==16)=true:=by simp[h]
  have q18:((nd.kind:Int)==18)=false:=by simp;omega
  have q15:((nd.kind:Int)==15)=false:=by simp;omega
  have q19:((nd.kind:Int)==19)=false:=by simp;omega
  have HV:=zz (show Hg.typeOf l id=2 by rw[HT.out,if_neg (by omega),if_pos (by omega)]);clear h;go_enter Tryz.func117,Tryz.ntmps117
  go_wp2_with (go_at_call 67;refine T1.out.mono ?_;rintro e w1 ⟨ka,kc,rfl,_,hb1⟩)
  go_ret;exact⟨by rw[HV.out];rfl,hb1.alloc hb1.size _⟩
 ·have q13:((nd.kind:Int)==13)=false:=by simp;omega
  have q17:((nd.kind:Int)==17)=false:=by simp;omega
  have q20:((nd.kind:Int)==20)=false:=by simp;omega
  have q14:((nd.kind:Int)==14)=false:=by simp;omega
  have q16:((nd.kind:Int)==16)=false:=by simp;omega
  have q18:((nd.kind:Int)==18)=true:=by simp[h]
  have q15:((nd.kind:Int)==15)=false:=by simp;omega
  have q19:((nd.kind:Int)==19)=false:=by simp;omega
  by_cases h5:5 < nd.num
  ·have HV:=zz (show Hg.typeOf l id=2 by rw[HT.out,if_neg (by omega),if_neg (by omega),if_pos h,if_pos h5])
   have q5:decide (5 < nd.num)=true:=decide_eq_true h5;clear h h5;go_enter Tryz.func117,Tryz.ntmps117
   go_wp2_with (go_at_call 67;refine T1.out.mono ?_;rintro e w1 ⟨ka,kc,rfl,_,hb1⟩)
   go_ret;exact⟨by rw[HV.out];rfl,hb1.alloc hb1.size _⟩
  ·have HV:=zz (show Hg.typeOf l id=1 by rw[HT.out,if_neg (by omega),if_neg (by omega),if_pos h,if_neg h5])
   have q5:decide (5 < nd.num)=false:=decide_eq_false h5;clear h h5;go_enter Tryz.func117,Tryz.ntmps117
   go_wp2_with (go_at_call 67;refine T1.out.mono ?_;rintro e w1 ⟨ka,kc,rfl,_,hb1⟩)
   go_ret;exact⟨by rw[HV.out];rfl,hb1.alloc hb1.size _⟩
 ·have q13:((nd.kind:Int)==13)=false:=by simp;omega
  have q17:((nd.kind:Int)==17)=false:=by simp;omega
  have q20:((nd.kind:Int)==20)=false:=by simp;omega
  have q14:((nd.kind:Int)==14)=false:=by simp;omega
  have q16:((nd.kind:Int)==16)=false:=by simp;omega
  have q18:((nd.kind:Int)==18)=false:=by simp;omega
  have q15:((nd.kind:Int)==15)=true:=by simp[h]
  have q19:((nd.kind:Int)==19)=false:=by simp;omega
  have HV:=zz (show Hg.typeOf l id=(Hg.AL l nd.ref).type by rw[HT.out,if_neg (by omega),if_neg (by omega),if_neg (by omega),if_pos (by omega)]);clear h;go_enter Tryz.func117,Tryz.ntmps117;go_wp2_with fail;refine T1.out.mono ?_;rintro e w1 ⟨ka,kc,rfl,_,hb1⟩;have hbx:Below w.heap.size w (w1.alloc (Bg nd ka kc)):=hb1.alloc hb1.size _;have T2:=TN nd.ref (w1.alloc (Bg nd ka kc)) (AO hB hbx.size) (hX.out.below hbx hB)
  go_wp2_with (go_at_call 67;refine T2.out.mono ?_;rintro e w2 ⟨ka2,kc2,rfl,_,hb2⟩)
  go_ret;exact⟨by rw[HV.out];rfl,hbx.trans (hb2.mono hbx.size)⟩
 ·have q13:((nd.kind:Int)==13)=false:=by simp;omega
  have q17:((nd.kind:Int)==17)=false:=by simp;omega
  have q20:((nd.kind:Int)==20)=false:=by simp;omega
  have q14:((nd.kind:Int)==14)=false:=by simp;omega
  have q16:((nd.kind:Int)==16)=false:=by simp;omega
  have q18:((nd.kind:Int)==18)=false:=by simp;omega
  have q15:((nd.kind:Int)==15)=false:=by simp;omega
  have q19:((nd.kind:Int)==19)=true:=by simp[h]
  have HV:=zz (show Hg.typeOf l id=(Hg.AL l nd.ref).type by rw[HT.out,if_neg (by omega),if_neg (by omega),if_neg (by omega),if_pos (by omega)]);clear h;go_enter Tryz.func117,Tryz.ntmps117;go_wp2_with fail;refine T1.out.mono ?_;rintro e w1 ⟨ka,kc,rfl,_,hb1⟩;have hbx:Below w.heap.size w (w1.alloc (Bg nd ka kc)):=hb1.alloc hb1.size _;have T2:=TN nd.ref (w1.alloc (Bg nd ka kc)) (AO hB hbx.size) (hX.out.below hbx hB)
  go_wp2_with (go_at_call 67;refine T2.out.mono ?_;rintro e w2 ⟨ka2,kc2,rfl,_,hb2⟩)
  go_ret;exact⟨by rw[HV.out];rfl,hbx.trans (hb2.mono hbx.size)⟩
 ·have q13:((nd.kind:Int)==13)=false:=by simp;omega
  have q17:((nd.kind:Int)==17)=false:=by simp;omega
  have q20:((nd.kind:Int)==20)=false:=by simp;omega
  have q14:((nd.kind:Int)==14)=false:=by simp;omega
  have q16:((nd.kind:Int)==16)=false:=by simp;omega
  have q18:((nd.kind:Int)==18)=false:=by simp;omega
  have q15:((nd.kind:Int)==15)=false:=by simp;omega
  have q19:((nd.kind:Int)==19)=false:=by simp;omega
  have HV:=zz (show Hg.typeOf l id=0 by rw[HT.out,if_neg (by omega),if_neg (by omega),if_neg (by omega),if_neg (by omega)]);clear h;go_enter Tryz.func117,Tryz.ntmps117
  go_wp2_with (go_at_call 67;refine T1.out.mono ?_;rintro e w1 ⟨ka,kc,rfl,_,hb1⟩)
  go_ret;exact⟨by rw[HV.out];rfl,hb1.alloc hb1.size _⟩
def WkAt(w:World)(wb:Nat)(a:Hg.Alls):Prop:=w.heap[wb]? =some (.cells #[.bool a.clash,.bool a.vis.hidden,.bool a.vis.wrong,.int .u64 0,.slice none 0 0,.bool false] 56 (0,0))
theorem WkAt.cell{w:World}{wb:Nat}{a:Hg.Alls}(h:WkAt w wb a):w.cell? ⟨wb,0,none⟩=some (.bool a.clash)∧w.cell? ⟨wb,1,none⟩=some (.bool a.vis.hidden)∧w.cell? ⟨wb,2,none⟩=some (.bool a.vis.wrong)∧w.cell? ⟨wb,3,none⟩=some (.int .u64 0)∧
 w.cell? ⟨wb,4,none⟩=some (.slice none 0 0)∧w.cell? ⟨wb,5,none⟩=some (.bool false)∧∀i,w.frozen? ⟨wb,i,none⟩=false:=by
 have hc:=fun i=>AJ w wb i _ _ (0,0) h;exact⟨hc 0,hc 1,hc 2,hc 3,hc 4,hc 5,fun i=>by unfold WkAt at h;simp[World.frozen?,h]⟩
theorem WkAt.lt{w:World}{wb:Nat}{a:Hg.Alls}(h:WkAt w wb a):wb < w.heap.size:=(Ab.1 h).1
theorem WkAt.below{w w':World}{wb B:Nat}{a:Hg.Alls}(h:WkAt w wb a)(hb:Below B w w')(hB:w.heap.size≤B):WkAt w' wb a:=(hb.block wb (by have:=h.lt;omega)).trans h
theorem Rf{w:World}{b i:Nat}{cs:Array Value}{t:TypeId}(h:w.heap[b]? =some (.cells cs t (0,0)))(u:Value):
 (w.setCell ⟨b,i,none⟩ u).heap[b]? =some (.cells (cs.setIfInBounds i u) t (0,0)):=by
 simp[World.setCell,Array.getElem?_modify,h]
theorem WkAt.wrong{w:World}{wb:Nat}{a:Hg.Alls}(h:WkAt w wb a):WkAt (w.setCell ⟨wb,2,none⟩ (.bool true)) wb {a with vis:={a.vis with wrong:=true}}:=Rf h _
theorem WkAt.hide{w:World}{wb:Nat}{a:Hg.Alls}(h:WkAt w wb a):WkAt (w.setCell ⟨wb,1,none⟩ (.bool true)) wb {a with vis:={a.vis with hidden:=true}}:=Rf h _
theorem WkAt.setClash{w:World}{wb:Nat}{a:Hg.Alls}(h:WkAt w wb a)(x:Bool):WkAt (w.setCell ⟨wb,0,none⟩ (.bool x)) wb {a with clash:=x}:=Rf h _
theorem Ch{w w':World}{wb:Nat}(h:w.grownBy w' (some wb))(i:Nat)(u:Value):w.grownBy (w'.setCell ⟨wb,i,none⟩ u) (some wb):=
 ⟨h.os,h.tape,h.output,by simpa using h.size,fun k hk hne=>(Below.heap_setCell w' ⟨wb,i,none⟩ u k (fun e=>hne (by rw[e]))).trans (h.block k hk hne)⟩
theorem Ry(B wb:Nat)(v:Value)(l:List Hg.Row)(n:Hg.Node)(ka:Option Addr)(kc i want:Nat)(al:Hg.Alls)(w:World)(hB:B≤w.heap.size)(hx:Aw w B v l)(hl:l.length≤1000000000)
 (hk:Sl w B (.slice ka n.kids.length kc) n.kids.length (n.kids.map idV)) (hi:i < n.kids.length) (hn:n.kids.length≤1000000000) (hW:WkAt w wb al):
 Calls Tryz.prog 116 #[.pointer (some ⟨wb,0,none⟩),v,ndV n ka kc,.int .i64 (i:Int),.int .u8 (want:Int)] w fun e w'=>
  e= .returned (.tuple #[])∧WkAt w' wb {al with vis:={al.vis with wrong:=al.vis.wrong||Hg.Be l n i want}}∧w.grownBy w' (some wb):=by
 have hX:=zz hx;obtain⟨a,c,rfl⟩:=hx.form;have HW:=zz hW;clear hx hW;obtain⟨b,o,rfl,hbB,hc⟩:=Sl.idAt hk hi;have hpb:Hg.Be l n i want=decide (Hg.typeOf l n.kids[i]≠want):=by unfold Hg.Be;rw[show n.kids.getD i 0=n.kids[i] by simp[hi]]
 rw[hpb];clear hpb hk;have hbx:Below w.heap.size w (w.alloc (Bg n (some ⟨b,o,none⟩) kc)):=(AP).alloc AA _;have TT:=zz (Me B _ l n.kids[i] (w.alloc (Bg n (some ⟨b,o,none⟩) kc)) (AO hB hbx.size) (hX.out.below hbx hB) hl);have hc2:=Dw hc (Bg n (some ⟨b,o,none⟩) kc);have hbl:b < w.heap.size:=by omega
 generalize n.kids[i]=x at hc hc2 TT;generalize Hg.typeOf l x=t at TT;by_cases ht:t=want
 ·have q1:((t:Int) !=(want:Int))=false:=by simp[ht]
  have hd:decide (t≠want)=false:=by simp[ht]
  rw[hd,Bool.or_false];clear ht hd;go_enter Tryz.func116,Tryz.ntmps116
  go_wp2_with (go_at_call 117;refine TT.out.mono ?_;rintro e w1 ⟨rfl,hb1⟩)
  go_end0;have h2:=hbx.trans (hb1.mono hbx.size);exact⟨rfl,HW.out.below h2 AA,below_grown h2 _⟩
 ·have q1:((t:Int) !=(want:Int))=true:=by simp;omega
  have hd:decide (t≠want)=true:=by simp[ht]
  rw[hd,Bool.or_true];clear ht hd;go_enter Tryz.func116,Tryz.ntmps116
  go_wp2_with (go_at_call 117;refine TT.out.mono ?_;rintro e w1 ⟨rfl,hb1⟩;have hW1:=HW.out.below (hbx.trans (hb1.mono hbx.size)) AA;obtain⟨_,_,c2,_,_,_,hf⟩:=hW1.cell;have f2:=hf 2;have HW1:=zz hW1;clear hf hW1)
  go_end0;exact⟨rfl,HW1.out.wrong,Ch (below_grown (hbx.trans (hb1.mono hbx.size)) _) 2 _⟩
def idxI(ids:List Nat)(id:Nat):Int:=match ids.findIdx? (· ==id) with|some k=>(k:Int)|none=> -1
theorem YU(l:List Nat)(id k:Nat)(hk:k < l.length)(h:l[k]=id)(hno:∀(j:Nat) (x:Nat),j < k→l[j]? =some x→x≠id):idxI l id=(k:Int):=by
 have:l.findIdx? (· ==id)=some k:=by
  rw[List.findIdx?_eq_some_iff_getElem];exact⟨hk,by simpa using h,fun j hj=>by simpa using hno j l[j] hj (AX (by omega))⟩
 simp[idxI,this]
theorem Wv(l:List Nat)(id:Nat)(hno:∀(j:Nat) (x:Nat),j < l.length→l[j]? =some x→x≠id):idxI l id= -1:=by
 have:l.findIdx? (· ==id)=none:=by
  rw[List.findIdx?_eq_none_iff];intro x hx;obtain⟨j,hj,he⟩:=List.mem_iff_getElem.1 hx;simpa using hno j x hj (by rw[AX hj,he])
 simp[idxI,this]
theorem Oe(B:Nat)(v:Value)(ids:List Nat)(id:Nat)(w:World)(hs:Sl w B v ids.length (ids.map idV))(hl:ids.length≤1000000):
 Calls Tryz.prog 108 #[v,.int .u64 (id:Int)] w fun e w'=>e= .returned (.int .i64 (idxI ids id))∧w=w':=by
 have HS:=zz hs;obtain⟨a,c,rfl⟩:=hs.form;clear hs;go_enter Tryz.func108,Tryz.ntmps108;go_wp2
 go_loopw [8] (fun i wr=>∃k:Nat,k≤ids.length∧i= .int .i64 k∧w=wr∧∀(j:Nat) (x:Nat),j < k→ids[j]? =some x→x≠id) (fun i wr=>ids.length-(intOf i).toNat)
 case atStart=>exact⟨0,by omega,rfl,by first|trivial|rfl,fun j r hj=>by omega⟩
 case round=>
  obtain⟨k,hk,rfl,rfl,hno⟩:=hrel;have HN:=zz hno;clear hno;by_cases hlt:k < ids.length
  ·obtain⟨b,o,rfl,_,kc⟩:=HS.out.idAt hlt
   by_cases hid:ids[k]=id
   ·have hq:((id:Int)==(ids[k]:Int))=true:=by simp[hid]
    have HI:=zz hid;clear hid;go_wp2;go_ret;exact⟨DJ (YU ids id k hlt HI.out HN.out).symm,rfl⟩
   ·have hq:((id:Int)==(ids[k]:Int))=false:=by simp;omega
    have HI:=zz hid;clear hid;go_wp2;go_roundw
    case rel=>exact⟨k+1,by omega,by go_num,by first|trivial|rfl,fun j x hj hx=>by
     by_cases e:j=k
     ·subst e;rw[AX hlt] at hx;injection hx with hx;rw[←hx];exact HI.out
     ·exact HN.out j x (by omega) hx⟩
    case measure=>simp[intOf];omega
  ·obtain rfl:k=ids.length:=by omega
   go_wp2;go_ret;exact⟨DJ (Wv ids id HN.out).symm,rfl⟩
def rawR(v:Value):Option (DataW Value×List MemPlace):=some (.held v,[])
def Aj:Nat:=18446744073709551616
abbrev idL(n:Nat):Lit:= .int .u64 (n:Int)
theorem BM:Maps.Keyed Tryz.prog 37:=Maps.int_keyed Tryz.underlying37
theorem ZA{n:Nat}(h:n < Aj):(idL n).wf=true:=by
 unfold Aj at h;have h1:IntKind.u64.min=0:=rfl;have h2:IntKind.u64.max=18446744073709551615:=rfl
 simp[Lit.wf,h1,h2]
 omega
theorem BZ{n:Nat}(h:n < Aj):keyOf Tryz.prog 37 (.int .u64 (n:Int))=some (idL n):=Maps.keyOf_int_mk Tryz.underlying37 (ZA h)
def Px(Z:Nat→Prop)(w:World)(D:DataW Value)(id:Nat):Option Hg.Node→Prop
 |none=>Maps.has D (idL id)=false
 |some nd=>∃ka kc,(∀z,D.atKey (idL id) z= .held (ndV nd ka kc))∧Sl w w.heap.size (.slice ka nd.kids.length kc) nd.kids.length (nd.kids.map idV)∧
   ∀q,(Value.slice ka nd.kids.length kc).ownBlock=some q→Z q
abbrev Xn:=Px (fun _=>True)
structure Cc (Z:Nat→Prop) (w:World) (mb c:Nat) (M:Nat→Option Hg.Node):Prop where
 own:∃D,w.ownsMap Tryz.prog 37 rawR mb c D∧Maps.size D=c∧∀id,id < Aj→Px Z w D id (M id)
 bd:∀id nd,M id=some nd→nd.kids.length≤1000000
theorem Cc.lt{Z:Nat→Prop}{w:World}{mb c:Nat}{M:Nat→Option Hg.Node}(h:Cc Z w mb c M):mb < w.heap.size:=by
 obtain⟨⟨D,ho,_⟩,_⟩:=h;exact ho.lt
theorem Cc.below{Z:Nat→Prop}{w w':World}{mb c B:Nat}{M:Nat→Option Hg.Node}(h:Cc Z w mb c M)(hb:Below B w w')(hB:w.heap.size≤B):Cc Z w' mb c M:=by
 have hb':Below w.heap.size w w':=hb.mono hB;obtain⟨⟨D,ho,hc,hk⟩,hbd⟩:=h;refine⟨⟨D,ho.kept (below_grown hb' none) (by simp),hc,fun id hid=> ?_⟩,hbd⟩;have hx:=hk id hid;cases hM:M id with
 |none=>rw[hM] at hx;exact hx
 |some nd=>
   rw[hM] at hx;obtain⟨ka,kc,h1,h2,h3⟩:=hx;exact⟨ka,kc,h1,(h2.below hb' AA).more hb'.size,h3⟩
theorem Cc.look{Z:Nat→Prop}{w:World}{mb c:Nat}{M:Nat→Option Hg.Node}(h:Cc Z w mb c M){id:Nat}(hid:id < Aj):
 (M id=none→(Instr.lookup 49 (.map (some mb)) (.int .u64 (id:Int)) true).run Tryz.prog w= .ok (.tuple #[ndV Hg.Node.zero none 0,.bool false]) w)∧
 (∀ nd, M id = some nd → ∃ ka kc, (Instr.lookup 49 (.map (some mb)) (.int .u64 (id : Int)) true).run Tryz.prog w = .ok (.tuple #[ndV nd ka kc, .bool true]) w ∧
  Sl w w.heap.size (.slice ka nd.kids.length kc) nd.kids.length (nd.kids.map idV)):=by
 have hz:(zeroValue 44).run Tryz.prog w= .ok (ndV Hg.Node.zero none 0) w:=by kernel_rfl
 obtain⟨⟨D,ho,hc,hk⟩,hbd⟩:=h;obtain⟨v,ps,hrun,hv⟩:=ho.look_ok BM Tryz.underlying49 hz (zd:= .held (ndV Hg.Node.zero none 0)) (zp:=[]) rfl (BZ hid);have hx:=hk id hid;simp only[rawR,Option.some.injEq,Prod.mk.injEq] at hv;refine⟨fun hM=> ?_,fun nd hM=> ?_⟩
 ·rw[hM] at hx
  have hx':Maps.has D (idL id)=false:=hx;rw[Maps.atKey_of_not_has hx'] at hv;have e:v=ndV Hg.Node.zero none 0:=by simpa using hv.1
  rw[hrun,hx',e]
 ·rw[hM] at hx
  obtain⟨ka,kc,h1,h2,h3⟩:=hx;rw[h1] at hv;have e:v=ndV nd ka kc:=by simpa using hv.1
  refine⟨ka,kc, ?_,h2⟩;rw[hrun,Maps.has_true_of_atKey h1,e]
structure EY (Z:Nat→Prop) (w:World) (ab mb c:Nat) (M:Nat→Option Hg.Node):Prop where
 cell:w.heap[ab]? =some (.cells #[.map (some mb)] 52 (0,0))
 map:Cc Z w mb c M
abbrev ArAt:=EY (fun _=>True)
theorem EY.lt{Z:Nat→Prop}{w:World}{ab mb c:Nat}{M:Nat→Option Hg.Node}(h:EY Z w ab mb c M):ab < w.heap.size:=(Ab.1 h.cell).1
theorem EY.below{Z:Nat→Prop}{w w':World}{ab mb c B:Nat}{M:Nat→Option Hg.Node}(h:EY Z w ab mb c M)(hb:Below B w w')(hB:w.heap.size≤B):EY Z w' ab mb c M:=
 ⟨(hb.block ab (by have:=h.lt;omega)).trans h.cell,h.map.below hb hB⟩
theorem Cc.imp{Z Z':Nat→Prop}{w:World}{mb c:Nat}{M:Nat→Option Hg.Node}(h:Cc Z w mb c M)(hz:∀q,Z q→Z' q):Cc Z' w mb c M:=by
 obtain⟨⟨D,ho,hc,hk⟩,hbd⟩:=h;refine⟨⟨D,ho,hc,fun id hid=> ?_⟩,hbd⟩;have hx:=hk id hid;cases hM:M id with
 |none=>rw[hM] at hx;exact hx
 |some nd=>
   rw[hM] at hx;obtain⟨ka,kc,h1,h2,h3⟩:=hx;exact⟨ka,kc,h1,h2,fun q hq=>hz q (h3 q hq)⟩
theorem EY.imp{Z Z':Nat→Prop}{w:World}{ab mb c:Nat}{M:Nat→Option Hg.Node}(h:EY Z w ab mb c M)(hz:∀q,Z q→Z' q):EY Z' w ab mb c M:=⟨h.cell,h.map.imp hz⟩
theorem EY.read{Z:Nat→Prop}{w:World}{ab mb c:Nat}{M:Nat→Option Hg.Node}(h:EY Z w ab mb c M):w.cell? ⟨ab,0,none⟩=some (.map (some mb))∧w.frozen? ⟨ab,0,none⟩=false:=by
 refine⟨AJ w ab 0 _ _ (0,0) h.cell,by simp[World.frozen?,h.cell]⟩
theorem Cc.Wh{Z:Nat→Prop}{w:World}{mb c:Nat}{M:Nat→Option Hg.Node}(h:Cc Z w mb c M){id:Nat}(hid:id < Aj):
 ∃ka kc,(Instr.lookup 49 (.map (some mb)) (.int .u64 (id:Int)) true).run Tryz.prog w= .ok (.tuple #[ndV ((M id).getD Hg.Node.zero) ka kc,.bool (M id).isSome]) w∧
   Sl w w.heap.size (.slice ka ((M id).getD Hg.Node.zero).kids.length kc) ((M id).getD Hg.Node.zero).kids.length (((M id).getD Hg.Node.zero).kids.map idV):=by
 obtain⟨h1,h2⟩:=h.look hid;cases hM:M id with
 |none=>exact⟨none,0,h1 hM,Sl.nil _ _⟩
 |some nd=>exact h2 nd hM
theorem Cc.len{Z:Nat→Prop}{w:World}{mb c:Nat}{M:Nat→Option Hg.Node}(h:Cc Z w mb c M)(id:Nat):((M id).getD Hg.Node.zero).kids.length≤1000000:=by
 cases hM:M id with
 |none=>simp[Hg.Node.zero]
 |some nd=>exact h.bd id nd hM
theorem X6{w1:World}{B g:Nat}{v:Value}{n:Nat}{xs:List Value}(h:Sl w1 B v n xs)(hne:v.ownBlock≠some g)(u0 u1 u2 u3 u4 u5:Value):
 Sl ((((((w1.setCell ⟨g,0,none⟩ u0).setCell ⟨g,1,none⟩ u1).setCell ⟨g,2,none⟩ u2).setCell ⟨g,3,none⟩ u3).setCell ⟨g,4,none⟩ u4).setCell ⟨g,5,none⟩ u5) B v n xs:=
 Cf (p:=⟨g,5,none⟩) (Cf (p:=⟨g,4,none⟩) (Cf (p:=⟨g,3,none⟩) (Cf (p:=⟨g,2,none⟩) (Cf (p:=⟨g,1,none⟩) (Cf (p:=⟨g,0,none⟩) h hne _) hne _) hne _) hne _) hne _) hne _
def ZL(w:World)(o:Option Hg.Node)(e:Ending)(w':World):Prop:=
 ∃ka kc,e= .returned (.tuple #[ndV (o.getD Hg.Node.zero) ka kc,.bool o.isSome])∧Sl w' w'.heap.size (.slice ka (o.getD Hg.Node.zero).kids.length kc) (o.getD Hg.Node.zero).kids.length ((o.getD Hg.Node.zero).kids.map idV)∧Below w.heap.size w w'
def Yj(w:World)(nd:Hg.Node)(s:Bool)(e:Ending)(w':World):Prop:=
 ∃ka kc,e= .returned (.tuple #[ndV nd ka kc,.bool s])∧Sl w' w'.heap.size (.slice ka nd.kids.length kc) nd.kids.length (nd.kids.map idV)∧Below w.heap.size w w'
theorem YX(ab mb c:Nat)(M:Nat→Option Hg.Node)(id:Nat)(w:World)(hA:ArAt w ab mb c M)(hid:id < Aj):
 Calls Tryz.prog 34 #[.pointer (some ⟨ab,0,none⟩),.int .u64 (id:Int)] w (ZL w (M id)):=by
 obtain⟨c0,f0⟩:=hA.read;have hlt:=hA.lt;have hb0:∀z,Below w.heap.size w (w.alloc (.cells z 44)):=fun z=>(AP).alloc AA _;have hlen:=hA.map.len id;obtain⟨ka,kc,hlk,hks⟩:=(hA.below (hb0 #[.int .u8 0,.string ⟨#[]⟩,.int .i64 0,.int .u8 0,.int .u64 0,.slice none 0 0]) AA).map.Wh hid;refine Calls.mono (R:=Yj w ((M id).getD Hg.Node.zero) (M id).isSome) ?_ (fun e w' h=>h);generalize(M id).getD Hg.Node.zero=nd at hlk hks hlen⊢;generalize(M id).isSome=s at hlk⊢;have HS:=zz hks;clear hA hid hb0 hks;go_enter Tryz.func34,Tryz.ntmps34;go_wp2_with fail;refine(N8 _ nd ka kc _ (by simp) (HS.out.alloc AA _) hlen).mono ?_;rintro e w1 ⟨ka1,kc1,rfl,hs1,hb1,hq1⟩;obtain⟨hh1,hh2,hsz,hbb⟩:=Gr hb1;have HS1:=zz hs1;have HQ1:=zz (show(Value.slice ka1 nd.kids.length kc1).ownBlock≠some w.heap.size from fun e=>by have:=hq1 _ e;simp at this;omega);have c2:=fun i=>AJ w1 w.heap.size i _ _ (0,0) hh1;have z0:=c2 0;have z1:=c2 1;have z2:=c2 2;have z3:=c2 3;have z4:=c2 4;have z5:=c2 5;simp at z0 z1 z2 z3 z4 z5;have f2:∀i,w1.frozen? ⟨w.heap.size,i,none⟩=false:=fun i=>by simp[World.frozen?,hh1]
 clear hs1 hb1 hh1 hh2 c2 hq1 hlk;go_wp2;exact bodyPost_ret (v:= .tuple #[ndV nd ka1 kc1,.bool s]) (by simp[results,Tryz.results34,go_sem,z0,z1,z2,z3,z4,z5,f2]) rfl
  ⟨ka1,kc1,rfl,(X6 HS1.out HQ1.out _ _ _ _ _ _).more (by simp),CO hbb AA _ _ _ _ _ _⟩
theorem UQ(xs:List (List UInt8))(i m:Nat)(hi:i < xs.length)(hm:m < i)(h:xs[i]=xs[m]'(by omega)):Hg.twice xs=true:=by
 unfold Hg.twice;rw[List.any_eq_true];refine⟨i,List.mem_range.2 hi, ?_⟩;unfold Hg.inL;rw[List.any_eq_true];refine⟨xs[m]'(by omega), ?_, ?_⟩
 ·rw[List.mem_iff_getElem]
  exact⟨m,by simp;omega,by simp⟩
 ·simp[hi,h]
theorem Rk(xs:List (List UInt8))(h:∀i m,(hi:i < xs.length)→(hm:m < i)→xs[i]≠xs[m]'(by omega)):Hg.twice xs=false:=by
 unfold Hg.twice;rw[List.any_eq_false];intro i hi hc;have hi:=List.mem_range.1 hi;unfold Hg.inL at hc;rw[List.any_eq_true] at hc;obtain⟨x,hx,he⟩:=hc;obtain⟨m,hm,rfl⟩:=List.mem_iff_getElem.1 hx;have hm2:m < i:=by simp at hm;omega
 refine h i m hi hm2 ?_;have:=beq_iff_eq.1 he
 simp[hi] at this
 exact this.symm
theorem IG(B:Nat)(v:Value)(xs:List (List UInt8))(w:World)(hB:B≤w.heap.size)(hx:Sl w B v xs.length (xs.map strV))(hl:xs.length≤1000000000):
 Calls Tryz.prog 68 #[v] w fun e w'=>e= .returned (.bool (Hg.twice xs))∧Below w.heap.size w w':=by
 obtain⟨a,c,rfl⟩:=hx.form;have HX:=zz hx;clear hx;go_enter Tryz.func68,Tryz.ntmps68;go_wp2
 go_loopw [7] (fun p wr=>∃k:Nat,k≤xs.length∧p= .int .i64 k∧(∀i m,i < k→(hi:i < xs.length)→(hm:m < i)→xs[i]≠xs[m]'(by omega))∧Below w.heap.size w wr) (fun p _=>xs.length-(intOf p).toNat)
 case atStart=>exact⟨0,by omega,rfl,fun i m h=>by omega,AP⟩
 case round=>
  obtain⟨k,hk,rfl,hno,hb⟩:=hrel;have HN:=zz hno;clear hno;by_cases hlt:k < xs.length
  ·obtain⟨wo,rfl⟩:∃wo:World,wo=wr:=⟨_,rfl⟩
   obtain⟨b,o,rfl,hbB,hck⟩:=HX.out.strAt hlt;go_wp2
   go_loopw [4] (fun p wr=>∃m:Nat,m≤k∧p= .int .i64 m∧(∀j,(hj:j < m)→(hjk:j < k)→xs[k]≠xs[j]'(by omega))∧Below w.heap.size w wr) (fun p _=>k-(intOf p).toNat)
   case atStart=>exact⟨0,by omega,rfl,fun j hj=>by omega,hb⟩
   case round=>
    obtain⟨m,hm,rfl,hnm,hb2⟩:=hrel;have HM:=zz hnm;clear hnm;by_cases hmk:m < k
    ·have hml:m < xs.length:=by omega
     obtain⟨b',o',e0,_,hcm⟩:=(HX.out.below hb2 hB).strAt hml;obtain⟨b'',o'',e1,_,hck2⟩:=(HX.out.below hb2 hB).strAt hlt;injection e0 with e0;injection e0 with e2 e3 _;subst e2;subst e3;injection e1 with e1;injection e1 with e2 e3 _;subst e2;subst e3;have q1:(0:Int)≤(k:Int):=by omega
     have q2:(k:Int) < (xs.length:Int):=by omega
     have q3:(0:Int)≤(m:Int):=by omega
     have q4:(m:Int) < (xs.length:Int):=by omega
     by_cases he:xs[k]=xs[m]
     ·have hfin:=zz (UQ xs k m hlt hmk he)
      have hq:(xs[k]==xs[m])=true:=by simp[he]
      clear he hck;go_upto_region 7 with fail
      go_quiet (fail)
      go_wp2;go_ret;exact⟨AQ hfin.out.symm,below_drewN hb2 _⟩
     ·have hq:(xs[k]==xs[m])=false:=by simp[he]
      have HE:=zz he;clear he hck;go_upto_region 7 with fail
      go_quiet (fail)
      go_wp2;go_roundw
      case rel=>exact⟨m+1,by omega,by go_num,fun j hj hjk=>by
       by_cases e:j=m
       ·subst e;exact HE.out
       ·exact HM.out j (by omega) hjk,below_drewN hb2 _⟩
      case measure=>simp[intOf];omega
    ·obtain rfl:m=k:=by omega
     go_wp2;go_roundw
     case rel=>exact⟨m+1,by omega,by go_num,fun i j hi hil hj=>by
      by_cases e:i=m
      ·subst e;exact HM.out j hj hj
      ·exact HN.out i j (by omega) hil hj,hb2⟩
     case measure=>simp[intOf];omega
  ·obtain rfl:k=xs.length:=by omega
   have hfin:=zz (Rk xs fun i m hi hm=>HN.out i m hi hi hm);go_wp2;go_ret;exact⟨AQ hfin.out.symm,hb⟩
@[reducible] def u8V(n:Nat):Value:= .int .u8 (n:Int)
theorem Yo:(Tryz.prog.info? 5).map (fun i=>(i.zero,i.size,i.bytes))=some (some (.int .u8 0),1,1):=by kernel_rfl
def KE(l:List Hg.Row):List Nat→List Nat→List Nat
 |[],out=>out
 |k::ks,out=>KE l ks (if (Hg.AL l k).kind=4 then out++[(Hg.AL l k).type] else out)
theorem QZ(l:List Hg.Row):∀(ks out:List Nat),KE l ks out=out++((ks.filter (fun k=>Hg.kindOf l k==4)).map (fun k=>(Hg.AL l k).type))
 |[],out=>by simp[KE]
 |k::ks,out=>by
   rw[KE,QZ l ks,List.filter_cons];unfold Hg.kindOf;by_cases h:(Hg.AL l k).kind=4
   ·simp[h]
   ·simp[h]
theorem KD(B:Nat)(v:Value)(l:List Hg.Row)(f:Nat)(w:World)(hB:B≤w.heap.size)(hx:Aw w B v l)(hl:l.length≤1000000000)(hkn:(Hg.AL l f).kids.length≤100000000):
 Calls Tryz.prog 72 #[v,.int .u64 (f:Int)] w fun e w'=>(∃a c,e= .returned (.slice a (Hg.BV l f).length c)∧Sl w' w'.heap.size (.slice a (Hg.BV l f).length c) (Hg.BV l f).length ((Hg.BV l f).map u8V))∧Below w.heap.size w w':=by
 obtain⟨j0,hj,hj0,hj1,hj2⟩:=info_parts Yo;have hX:=zz hx;obtain⟨a,c,rfl⟩:=hx.form;clear hx;have TN:=fun x W h1 h2=>zz (EH B (.slice a l.length c) l x W h1 h2 hl);have T1:=TN f w hB hX.out;have hp:KE l (Hg.AL l f).kids []=Hg.BV l f:=by rw[QZ];rfl
 have HP:=zz hp;clear hp;generalize Hg.BV l f=r at HP;generalize Hg.AL l f=nd at HP T1 hkn;go_enter Tryz.func72,Tryz.ntmps72
 go_wp2_with (go_at_call 67;refine T1.out.mono ?_;rintro e w1 ⟨ka,kc,rfl,hkid,hb1⟩;have HK:=zz hkid;clear hkid)
 have hI:Below w1.heap.size w1 w1:=AP
 go_loopw [5,13] (fun p q wr=>∃(m:Nat) (out:List Nat),q= .int .i64 m∧m≤nd.kids.length∧out.length≤m∧wr.ownsRow w1.heap.size 5 1 p out.length (out.map u8V)∧KE l (nd.kids.drop m) out=r∧Below w.heap.size w wr∧Below w1.heap.size w1 wr) (fun _ q _=>nd.kids.length-(intOf q).toNat)
 case atStart=>exact⟨0,[],rfl,Nat.zero_le _,AA,World.ownsRow_nil _ _ _ _,HP.out,hb1,hI⟩
 case round=>
  obtain⟨m,out,rfl,hm,hom,hown,hg,hbw,hbr⟩:=hrel;have HO:=zz hown;have HG:=zz hg;clear hown hg HP hI;have hBW:B≤wr.heap.size:=AO hB hbw.size;by_cases hlt:m < nd.kids.length
  ·obtain⟨b3,o3,rfl,_,kc3⟩:=(HK.out.below hbr (AO hB hb1.size)).idAt hlt
   have hstep:KE l (nd.kids[m]::nd.kids.drop (m+1)) out=r:=by rw[←Au hlt];exact HG.out
   rw[KE] at hstep;generalize nd.kids[m]=x at kc3 hstep;have T2:=TN x wr hBW (hX.out.below hbw hB);have T3:=fun W h1 h2=>TN x W h1 h2;generalize Hg.AL l x=nx at hstep T2 T3;by_cases h4:nx.kind=4
   ·rw[if_pos h4] at hstep
    have HS:=zz hstep;have q4:((nx.kind:Int)==4)=true:=by simp[h4]
    clear hstep h4 HG;have hsz:=hbr.size;go_wp2_with fail;refine T2.out.mono ?_;rintro e w2 ⟨kx,cx,rfl,_,hb2⟩;have hbw2:=hbw.trans (hb2.mono hbw.size);have hbr2:=hbr.trans (hb2.mono hbr.size);go_wp2_with fail;refine(T3 w2 (AO hB hbw2.size) (hX.out.below hbw2 hB)).out.mono ?_;rintro e w3 ⟨kx3,cx3,rfl,_,hb3⟩;have hbw3:=hbw2.trans (hb3.mono hbw2.size);have hbr3:=hbr2.trans (hb3.mono hbr2.size);have hsz3:=hbr3.size;have HO3:=zz (BX (BX HO.out hb2 AA) hb3 AA)
    go_wp2_with (at_builtin;refine wpList_append_own_at _ rfl (.tmp 22) (.tmp 27) _ rfl w1.heap.size 5 j0 _ 1 1 Tryz.underlying110 hj hj0 hj1 hj2 rfl (by decide) _ _ _ rfl (HO3.out.alloc _) ⟨_,0,none⟩ 1 1 [u8V nx.type] rfl rfl (Ao _ _ _) ?_ ?_ ?_ ?_ ?_)
    ·intro u hu;simp only[List.mem_singleton] at hu;subst hu;rfl
    ·unfold maxLen;omega
    ·omega
    ·simp;omega
    intro v4 W4 own4 g4 _ at4;have hbr4:Below w1.heap.size w1 W4:=(hbr3.alloc hsz3 (.cells #[u8V nx.type] 5)).trans ⟨g4.os,g4.tape,g4.output,g4.size,fun q hq=>g4.block q (by simp;omega) (fun e=>by have:=(HO3.out.lt q e.symm).1;omega)⟩;have hbw4:Below w.heap.size w W4:=hb1.trans (hbr4.mono hb1.size);have own5:W4.ownsRow w1.heap.size 5 1 v4 (out++[nx.type]).length ((out++[nx.type]).map u8V):=by simpa using own4
    have OW:=zz own5;clear own4 own5 g4 at4;go_wp2;go_roundw
    case rel=>exact⟨m+1,out++[nx.type],by go_num,by omega,by simp;omega,OW.out,HS.out,hbw4,hbr4⟩
    case measure=>simp[intOf];omega
   ·rw[if_neg h4] at hstep
    have HS:=zz hstep;have q4:((nx.kind:Int)==4)=false:=by simp;omega
    clear hstep h4 HG
    go_wp2_with (go_at_call 67;refine T2.out.mono ?_;rintro e w2 ⟨kx,cx,rfl,_,hb2⟩)
    go_roundw
    case rel=>exact⟨m+1,out,by go_num,by omega,by omega,BX HO.out hb2 AA,HS.out,hbw.trans (hb2.mono hbw.size),hbr.trans (hb2.mono hbr.size)⟩
    case measure=>simp[intOf];omega
  ·obtain rfl:m=nd.kids.length:=by omega
   have he:out=r:=by have h1:=HG.out;rw[List.drop_length,KE] at h1;exact h1
   have HE:=zz he;clear he HG;go_wp2;go_ret;have hs:=Sl.Ai HO.out;obtain⟨a2,c2,hv⟩:=hs.form;subst hv;rw[←HE.out];exact⟨⟨a2,c2,rfl,hs⟩,hbw⟩
theorem SX(B:Nat)(v:Value)(l:List Hg.Row)(mod name:List UInt8)(w:World)(hB:B≤w.heap.size)(hx:Aw w B v l)(hl:l.length≤1000000000)(hkn:∀x,(Hg.AL l x).kids.length≤100000000):
 Calls Tryz.prog 71 #[v,strV mod,strV name] w fun e w'=>e= .returned (.int .u64 (Hg.funcOf l mod name (Hg.AL l 1).kids:Int))∧Below w.heap.size w w':=by
 have hX:=zz hx;obtain⟨a,c,rfl⟩:=hx.form;clear hx;have TN:=fun x W h1 h2=>zz (EH B (.slice a l.length c) l x W h1 h2 hl);have T1:=TN 1 w hB hX.out;have hk1:=hkn 1;obtain⟨r,hr⟩:∃r,Hg.funcOf l mod name (Hg.AL l 1).kids=r:=⟨_,rfl⟩;rw[hr];have HP:=zz hr;clear hr;generalize Hg.AL l 1=nd at HP T1 hk1;go_enter Tryz.func71,Tryz.ntmps71
 go_wp2_with (go_at_call 67;refine T1.out.mono ?_;rintro e w1 ⟨ka,kc,rfl,hkid,hb1⟩;have HK:=zz hkid;clear hkid)
 go_loopw [15] (fun q wr=>∃m:Nat,q= .int .i64 m∧m≤nd.kids.length∧Hg.funcOf l mod name (nd.kids.drop m)=r∧Below w.heap.size w wr∧Below w1.heap.size w1 wr) (fun q _=>nd.kids.length-(intOf q).toNat)
 case atStart=>exact⟨0,rfl,Nat.zero_le _,HP.out,hb1,AP⟩
 case round=>
  obtain⟨m,rfl,hm,hg,hbw,hbr⟩:=hrel;have HG:=zz hg;clear hg HP;have hBW:B≤wr.heap.size:=AO hB hbw.size;by_cases hlt:m < nd.kids.length
  ·obtain⟨b3,o3,rfl,_,kc3⟩:=(HK.out.below hbr (AO hB hb1.size)).idAt hlt
   have hstep:Hg.funcOf l mod name (nd.kids[m]::nd.kids.drop (m+1))=r:=by rw[←Au hlt];exact HG.out
   rw[Hg.funcOf] at hstep;generalize nd.kids[m]=x at kc3 hstep;have T2:=TN x wr hBW (hX.out.below hbw hB);have T3:=fun W h1 h2=>TN x W h1 h2;have hkx:=hkn x;have hin:∀ks,Hg.GI l x mod name ks=Hg.GI l x mod name ks:=fun _=>rfl;generalize hnx:Hg.AL l x=nx at hstep T2 T3 hkx;have HS:=zz hstep;have HNX:=zz hnx;clear hstep hnx hin HG
   go_wp2_with (go_at_call 67;refine T2.out.mono ?_;rintro e w2 ⟨kx,cx,rfl,hkx2,hb2⟩;have HK2:=zz hkx2;clear hkx2)
   obtain⟨wo,rfl⟩:∃wo:World,wo=wr:=⟨_,rfl⟩;have hbw2:=hbw.trans (hb2.mono hbw.size);have hbr2:=hbr.trans (hb2.mono hbr.size)
   go_loopw [24] (fun q wr=>∃j:Nat,q= .int .i64 j∧j≤nx.kids.length∧(match Hg.GI l x mod name (nx.kids.drop j) with|some f=>f|none=>Hg.funcOf l mod name (nd.kids.drop (m+1)))=r∧Below w2.heap.size w2 wr) (fun q _=>nx.kids.length-(intOf q).toNat)
   case atStart=>exact⟨0,rfl,Nat.zero_le _,HS.out,AP⟩
   case round=>
    obtain⟨j,rfl,hj,hg,hbq⟩:=hrel;have HG:=zz hg;clear hg HS;have hbw3:=hbw2.trans (hbq.mono hbw2.size);have hbr3:=hbr2.trans (hbq.mono hbr2.size);have hBQ:B≤wr.heap.size:=AO hB hbw3.size;by_cases hlt2:j < nx.kids.length
    ·obtain⟨b4,o4,rfl,_,kc4⟩:=(HK2.out.below hbq (AO hBW hb2.size)).idAt hlt2
     have hstep:(match Hg.GI l x mod name (nx.kids[j]::nx.kids.drop (j+1)) with|some f=>f|none=>Hg.funcOf l mod name (nd.kids.drop (m+1)))=r:=by rw[←Au hlt2];exact HG.out
     rw[Hg.GI,HNX.out] at hstep;generalize nx.kids[j]=y at kc4 hstep;have T4:=T3 wr hBQ (hX.out.below hbw3 hB);have T5:=fun W h1 h2=>TN y W h1 h2;generalize Hg.AL l y=ny at hstep T5;by_cases h1:nx.name=mod
     ·have q1:(nx.name==mod)=true:=by simp[h1]
      have hq:∀W:World,Below wr.heap.size wr W→B≤W.heap.size∧Aw W B (.slice a l.length c) l:=fun W h=>⟨AO hBQ h.size,(hX.out.below hbw3 hB).below h hBQ⟩;by_cases h2:ny.name=name
      ·have q2:(ny.name==name)=true:=by simp[h2]
       rw[if_pos ⟨h1,h2⟩] at hstep;have HS:=zz (show y=r from hstep);clear hstep HG;go_wp2_with fail;refine T4.out.mono ?_;rintro e w4 ⟨kx4,cx4,rfl,_,hb4⟩;go_wp2_with fail;refine(T5 w4 (hq w4 hb4).1 (hq w4 hb4).2).out.mono ?_;rintro e w5 ⟨kx5,cx5,rfl,_,hb5⟩;go_wp2;go_ret;exact⟨by rw[HS.out];rfl,(hbw3.trans (hb4.mono hbw3.size)).trans (hb5.mono (hbw3.trans (hb4.mono hbw3.size)).size)⟩
      ·have q2:(ny.name==name)=false:=by simp[h2]
       rw[if_neg (by simp[h2])] at hstep;have HS:=zz hstep;clear hstep HG;go_wp2_with fail;refine T4.out.mono ?_;rintro e w4 ⟨kx4,cx4,rfl,_,hb4⟩;go_wp2_with fail;refine(T5 w4 (hq w4 hb4).1 (hq w4 hb4).2).out.mono ?_;rintro e w5 ⟨kx5,cx5,rfl,_,hb5⟩;go_wp2;go_roundw
       case rel=>exact⟨j+1,by go_num,by omega,HS.out,(hbq.trans (hb4.mono hbq.size)).trans (hb5.mono (hbq.trans (hb4.mono hbq.size)).size)⟩
       case measure=>simp[intOf];omega
     ·have q1:(nx.name==mod)=false:=by simp[h1]
      rw[if_neg (by simp[h1])] at hstep;have HS:=zz hstep;clear hstep HG
      go_wp2_with (go_at_call 67;refine T4.out.mono ?_;rintro e w4 ⟨kx4,cx4,rfl,_,hb4⟩)
      go_roundw
      case rel=>exact⟨j+1,by go_num,by omega,HS.out,hbq.trans (hb4.mono hbq.size)⟩
      case measure=>simp[intOf];omega
    ·obtain rfl:j=nx.kids.length:=by omega
     have he:Hg.funcOf l mod name (nd.kids.drop (m+1))=r:=by have h1:=HG.out;rw[List.drop_length,Hg.GI] at h1;exact h1
     have HE:=zz he;clear he HG;go_wp2;go_roundw
     case rel=>exact⟨m+1,by go_num,by omega,HE.out,hbw3,hbr3⟩
     case measure=>simp[intOf];omega
  ·obtain rfl:m=nd.kids.length:=by omega
   have he:r=0:=by have h1:=HG.out;rw[List.drop_length,Hg.funcOf] at h1;exact h1.symm
   have HE:=zz he;clear he HG;go_wp2;go_ret;exact⟨by rw[HE.out];rfl,hbw⟩
theorem U9(l:List Hg.Row):Hg.IX l=(if Hg.funcOf l Hg.Ci Hg.Ci (Hg.AL l 1).kids=0∨(Hg.AL l (Hg.funcOf l Hg.Ci Hg.Ci (Hg.AL l 1).kids)).type≠1∨0 < (Hg.BV l (Hg.funcOf l Hg.Ci Hg.Ci (Hg.AL l 1).kids)).length then 0 else Hg.funcOf l Hg.Ci Hg.Ci (Hg.AL l 1).kids):=rfl
theorem SF(B:Nat)(v:Value)(l:List Hg.Row)(w:World)(hB:B≤w.heap.size)(hx:Aw w B v l)(hl:l.length≤1000000000)(hkn:∀x,(Hg.AL l x).kids.length≤100000000):
 Calls Tryz.prog 25 #[v] w fun e w'=>e= .returned (.int .u64 (Hg.IX l:Int))∧Below w.heap.size w w':=by
 have hX:=zz hx;have TF:=zz (SX B v l Hg.Ci Hg.Ci w hB hx hl hkn);obtain⟨a,c,rfl⟩:=hx.form;clear hx;have TN:=fun x W h1 h2=>zz (EH B (.slice a l.length c) l x W h1 h2 hl);have TP:=fun x W h1 h2=>zz (KD B (.slice a l.length c) l x W h1 h2 hl (hkn x));rw[U9];generalize Hg.funcOf l Hg.Ci Hg.Ci (Hg.AL l 1).kids=f at TF⊢;go_enter Tryz.func25,Tryz.ntmps25;by_cases h0:f=0
 ·have q0:((f:Int)==0)=true:=by simp[h0]
  rw[if_pos (.inl h0)];clear h0
  go_wp2_with (go_at_call 71;refine TF.out.mono ?_;rintro e w1 ⟨rfl,hb1⟩)
  go_ret;exact⟨rfl,hb1⟩
 have q0:((f:Int)==0)=false:=by simp;omega
 by_cases h1:(Hg.AL l f).type=1;rotate_left
 ·have q1:(((Hg.AL l f).type:Int) !=1)=true:=by simp;omega
  rw[if_pos (.inr (.inl h1))];clear h0 h1
  go_wp2_with (go_at_call 71;refine TF.out.mono ?_;rintro e w1 ⟨rfl,hb1⟩)
  refine(TN f w1 (AO hB hb1.size) (hX.out.below hb1 hB)).out.mono ?_;rintro e w2 ⟨kx,cx,rfl,_,hb2⟩;go_wp2;go_ret;exact⟨rfl,hb1.trans (hb2.mono hb1.size)⟩
 have q1:(((Hg.AL l f).type:Int) !=1)=false:=by simp[h1]
 have hpl:(Hg.BV l f).length≤100000000:=by
  unfold Hg.BV;rw[List.length_map];exact AO (List.length_filter_le _ _) (hkn f)
 by_cases h2:0 < (Hg.BV l f).length
 ·rw[if_pos (.inr (.inr h2))]
  clear h0 h1
  go_wp2_with (go_at_call 71;refine TF.out.mono ?_;rintro e w1 ⟨rfl,hb1⟩)
  refine(TN f w1 (AO hB hb1.size) (hX.out.below hb1 hB)).out.mono ?_;rintro e w2 ⟨kx,cx,rfl,_,hb2⟩;have hbw:=hb1.trans (hb2.mono hb1.size);go_wp2_with fail;refine(TP f w2 (AO hB hbw.size) (hX.out.below hbw hB)).out.mono ?_;rintro e w3 ⟨⟨ap,cp,rfl,_⟩,hb3⟩;go_wp2;go_ret;exact⟨rfl,hbw.trans (hb3.mono hbw.size)⟩
 ·rw[if_neg (by rintro(h|h|h) <;>contradiction)]
  clear h0 h1;have h2:(Hg.BV l f).length=0:=by omega
  go_wp2_with (go_at_call 71;refine TF.out.mono ?_;rintro e w1 ⟨rfl,hb1⟩)
  refine(TN f w1 (AO hB hb1.size) (hX.out.below hb1 hB)).out.mono ?_;rintro e w2 ⟨kx,cx,rfl,_,hb2⟩;have hbw:=hb1.trans (hb2.mono hb1.size);go_wp2_with fail;refine(TP f w2 (AO hB hbw.size) (hX.out.below hbw hB)).out.mono ?_;rintro e w3 ⟨⟨ap,cp,rfl,_⟩,hb3⟩;go_wp2;go_ret;exact⟨rfl,hbw.trans (hb3.mono hbw.size)⟩
theorem OG:(Tryz.prog.info? 9).map (fun i=>(i.zero,i.size,i.bytes))=some (some (.string ⟨#[]⟩),1,16):=by kernel_rfl
def KI(l:List Hg.Row):List Nat→List (List UInt8)→List (List UInt8)
 |[],out=>out
 |k::ks,out=>KI l ks (if (Hg.AL l k).kind=4∨(Hg.AL l k).kind=6 then out++[(Hg.AL l k).name] else out)
theorem Qo(l:List Hg.Row):∀(ks:List Nat) (out:List (List UInt8)),KI l ks out=out++((ks.filter (fun k=>Hg.kindOf l k==4||Hg.kindOf l k==6)).map (fun k=>(Hg.AL l k).name))
 |[],out=>by simp[KI]
 |k::ks,out=>by
   rw[KI,Qo l ks,List.filter_cons];unfold Hg.kindOf;by_cases h:(Hg.AL l k).kind=4∨(Hg.AL l k).kind=6
   ·rw[if_pos h]
    have:((Hg.AL l k).kind==4||(Hg.AL l k).kind==6)=true:=by simpa using h
    rw[if_pos this];simp
   ·rw[if_neg h]
    have:¬((Hg.AL l k).kind==4||(Hg.AL l k).kind==6)=true:=by simpa using h
    rw[if_neg this]
theorem Qn(B:Nat)(v:Value)(l:List Hg.Row)(f:Nat)(w:World)(hB:B≤w.heap.size)(hx:Aw w B v l)(hl:l.length≤1000000000)(hks:Hg.BF l≤100000000):
 Calls Tryz.prog 69 #[v,.int .u64 (f:Int)] w fun e w'=>(∃a c,e= .returned (.slice a (Hg.CW l f).length c)∧Sl w' w'.heap.size (.slice a (Hg.CW l f).length c) (Hg.CW l f).length ((Hg.CW l f).map strV))∧Below w.heap.size w w':=by
 obtain⟨j0,hj,hj0,hj1,hj2⟩:=info_parts OG;have hX:=zz hx;obtain⟨a,c,rfl⟩:=hx.form;clear hx;have TN:=fun x W h1 h2=>zz (EH B (.slice a l.length c) l x W h1 h2 hl);have TW:=zz (Kn B (.slice a l.length c) l f w hB hX.out hl hks);have hwl:=Hg.Mc l f;have hp:KI l (Hg.walk l f) []=Hg.CW l f:=by rw[Qo];rfl
 have HP:=zz hp;clear hp;generalize Hg.CW l f=r at HP;generalize Hg.walk l f=ws at HP TW hwl;go_enter Tryz.func69,Tryz.ntmps69
 go_wp2_with (go_at_call 112;refine TW.out.mono ?_;rintro e w1 ⟨⟨ka,kc,rfl,hkid⟩,hb1⟩;have HK:=zz hkid;clear hkid)
 have hI:Below w1.heap.size w1 w1:=AP
 go_loopw [5,13] (fun p q wr=>∃(m:Nat) (out:List (List UInt8)),q= .int .i64 m∧m≤ws.length∧out.length≤m∧wr.ownsRow w1.heap.size 9 1 p out.length (out.map strV)∧KI l (ws.drop m) out=r∧Below w.heap.size w wr∧Below w1.heap.size w1 wr) (fun _ q _=>ws.length-(intOf q).toNat)
 case atStart=>exact⟨0,[],rfl,Nat.zero_le _,AA,World.ownsRow_nil _ _ _ _,HP.out,hb1,hI⟩
 case round=>
  obtain⟨m,out,rfl,hm,hom,hown,hg,hbw,hbr⟩:=hrel;have HO:=zz hown;have HG:=zz hg;clear hown hg HP hI;have hBW:B≤wr.heap.size:=AO hB hbw.size;by_cases hlt:m < ws.length
  ·obtain⟨b3,o3,rfl,_,kc3⟩:=(HK.out.below hbr AA).idAt hlt
   have hstep:KI l (ws[m]::ws.drop (m+1)) out=r:=by rw[←Au hlt];exact HG.out
   rw[KI] at hstep;generalize ws[m]=x at kc3 hstep;have T2:=TN x wr hBW (hX.out.below hbw hB);generalize Hg.AL l x=nx at hstep T2;have hsz:=hbr.size;have hcs:(nx.kind=4∧((nx.kind:Int)==4)=true)∨(nx.kind=6∧((nx.kind:Int)==4)=false∧((nx.kind:Int)==6)=true)∨(¬(nx.kind=4∨nx.kind=6)∧((nx.kind:Int)==4)=false∧((nx.kind:Int)==6)=false):=by
    by_cases h4:nx.kind=4
    ·exact .inl ⟨h4,by simp[h4]⟩
    ·by_cases h6:nx.kind=6
     ·exact .inr (.inl ⟨h6,by simp[h6],by simp[h6]⟩)
     ·exact .inr (.inr ⟨by omega,by simp;omega,by simp;omega⟩)
   rcases hcs with⟨h4,q4⟩|⟨h4,q4,q6⟩|⟨h4,q4,q6⟩
   rotate_right
   ·rw[if_neg h4] at hstep
    have HS:=zz hstep;clear hstep h4 HG
    go_wp2_with (go_at_call 67;refine T2.out.mono ?_;rintro e w2 ⟨kx,cx,rfl,_,hb2⟩)
    have hbw2:=(hbw.trans (hb2.mono hbw.size)).alloc (by have:=hbw.size;have:=hb2.size;omega) (Bg nx kx cx);have hbr2:=(hbr.trans (hb2.mono hbr.size)).alloc (by have:=hb2.size;omega) (Bg nx kx cx);go_roundw
    case rel=>exact⟨m+1,out,by go_num,by omega,by omega,(BX HO.out hb2 AA).alloc _,HS.out,hbw2,hbr2⟩
    case measure=>simp[intOf];omega
   all_goals
    rw[if_pos (by omega)] at hstep;have HS:=zz hstep;clear hstep h4 HG;go_wp2_with fail;refine T2.out.mono ?_;rintro e w2 ⟨kx,cx,rfl,_,hb2⟩;have hbw2:=(hbw.trans (hb2.mono hbw.size)).alloc (by have:=hbw.size;have:=hb2.size;omega) (Bg nx kx cx);have hbr2:=(hbr.trans (hb2.mono hbr.size)).alloc (by have:=hb2.size;omega) (Bg nx kx cx);go_upto_region 7 with fail;have hsz3:=hbr2.size;have hO3:=(BX HO.out hb2 AA).alloc (Bg nx kx cx);have k1:(w2.alloc (Bg nx kx cx)).cell? ⟨w2.heap.size,1,none⟩=some (strV nx.name):=AJ (w2.alloc (Bg nx kx cx)) w2.heap.size 1 _ _ (0,0) (AZ w2 _);generalize World.alloc w2 _=w3 at hbw2 hbr2 hsz3 hO3 k1⊢;have HO3:=zz hO3;clear hO3
    go_wp2_with (at_builtin;refine wpList_append_own_at _ rfl (.tmp 28) (.tmp 31) _ rfl w1.heap.size 9 j0 _ 1 16 Tryz.underlying87 hj hj0 hj1 hj2 rfl (by decide) _ _ _ rfl (HO3.out.alloc _) ⟨_,0,none⟩ 1 1 [strV nx.name] rfl rfl (Ao _ _ _) ?_ ?_ ?_ ?_ ?_)
    ·intro u hu;simp only[List.mem_singleton] at hu;subst hu;rfl
    ·unfold maxLen;omega
    ·omega
    ·simp;omega
    intro v4 W4 own4 g4 _ at4;have hbr4:Below w1.heap.size w1 W4:=(hbr2.alloc hsz3 (.cells #[strV nx.name] 9)).trans ⟨g4.os,g4.tape,g4.output,g4.size,fun q hq=>g4.block q (by simp;omega) (fun e=>by have:=(HO3.out.lt q e.symm).1;omega)⟩;have hbw4:Below w.heap.size w W4:=hb1.trans (hbr4.mono hb1.size);have own5:W4.ownsRow w1.heap.size 9 1 v4 (out++[nx.name]).length ((out++[nx.name]).map strV):=by simpa using own4
    have OW:=zz own5;clear own4 own5 g4 at4;go_wp2;go_roundw
    case rel=>exact⟨m+1,out++[nx.name],by go_num,by omega,by simp;omega,OW.out,HS.out,hbw4,hbr4⟩
    case measure=>simp[intOf];omega
  ·obtain rfl:m=ws.length:=by omega
   have he:out=r:=by have h1:=HG.out;rw[List.drop_length,KI] at h1;exact h1
   have HE:=zz he;clear he HG;go_wp2;go_ret;have hs:=Sl.Ai HO.out;obtain⟨a2,c2,hv⟩:=hs.form;subst hv;rw[←HE.out];exact⟨⟨a2,c2,rfl,hs⟩,hbw⟩
theorem CR{B wb:Nat}{w w':World}(hB:B≤wb)(h:w.grownBy w' (some wb))(hw:wb < w.heap.size):Below B w w':=
 ⟨h.os,h.tape,h.output,h.size,fun k hk=>h.block k (by omega) (fun e=>by injection e;omega)⟩
def zAl:Hg.Alls:=⟨false,⟨false,false⟩⟩
@[reducible] def zBox:Obj:= .cells #[.bool false,.bool false,.bool false,.int .u64 0,.slice none 0 0,.bool false] 56
theorem Vm(w:World):WkAt ((w.alloc zBox).alloc zBox) (w.heap.size+1) zAl∧WkAt ((w.alloc zBox).alloc zBox) w.heap.size zAl∧Below w.heap.size w ((w.alloc zBox).alloc zBox)∧((w.alloc zBox).alloc zBox).heap.size=w.heap.size+2:=by
 have hb1:Below w.heap.size w (w.alloc zBox):=(AP).alloc AA _;have hs:(w.alloc zBox).heap.size=w.heap.size+1:=by simp
 have h1:=AZ (w.alloc zBox) zBox;rw[hs] at h1;have h2:WkAt (w.alloc zBox) w.heap.size zAl:=AZ w zBox;exact⟨h1,h2.below ((Below.refl (w.alloc zBox).heap.size _).alloc AA _) AA,hb1.alloc (by omega) _,by simp⟩
theorem WkAt.grown{w w':World}{rb wb:Nat}{al:Hg.Alls}(h:WkAt w rb al)(hg:w.grownBy w' (some wb))(hne:rb≠wb):WkAt w' rb al:=
 (hg.block rb h.lt (fun e=>by injection e with e;exact hne e)).trans h
theorem Xb(B:Nat)(v:Value)(l:List Hg.Row)(w:World)(hB:B≤w.heap.size)(hx:Aw w B v l)(hl:l.length≤1000000000)(hks:Hg.BF l≤100000000)(hkn:∀x,(Hg.AL l x).kids.length≤4000000)(hz:∀x,∀k∈(Hg.AL l x).kids,k≠0)
 (hV : ∀ (id wb : Nat) (al : Hg.Alls) (vi : Hg.Vis) (W : World), B ≤ wb → id ≠ 0 → Aw W B v l → WkAt W wb al → Hg.Cz l id 201 al.vis id [] = some vi →
  Calls Tryz.prog 70 #[.pointer (some ⟨wb,0,none⟩),v,.int .u64 (id:Int),.slice none 0 0,.int .u64 (id:Int)] W fun e w'=>e= .returned (.tuple #[])∧WkAt w' wb {al with vis:=vi}∧W.grownBy w' (some wb))
 (al:Hg.Alls) (hal:Hg.IA l=some al):
 Calls Tryz.prog 24 #[v,.int .u64 0] w fun e w'=>e= .returned (.agg #[.bool al.clash,.bool al.vis.hidden,.bool al.vis.wrong,.int .u64 0,.slice none 0 0,.bool false])∧Below w.heap.size w w':=by
 obtain⟨j0,hj,hj0,hj1,hj2⟩:=info_parts OG;have hX:=zz hx;have HV:=zz hV;obtain⟨a,c,rfl⟩:=hx.form;clear hx hV;have TN:=fun x W h1 h2=>zz (EH B (.slice a l.length c) l x W h1 h2 hl);unfold Hg.IA at hal;have hk1:=hkn 1;have hz1:=zz (hz 1);generalize h1:Hg.AL l 1=nd at hal hk1 hz1;have TN1:=fun W h1 h2=>TN 1 W h1 h2;rw[h1] at TN1;clear h1;have HAL:=zz hal;clear hal;go_enter Tryz.func24,Tryz.ntmps24;go_upto_region 3 with fail;obtain⟨hW0,hR0,hb0,hs0⟩:=Vm w;generalize World.alloc (World.alloc w _) _=w2 at hW0 hR0 hb0 hs0⊢;have HR0:=zz hR0;have HW0:=zz hW0;generalize hwb:w.heap.size+1=wb at HW0⊢;have hg0:w2.grownBy w2 (some wb):=⟨rfl,rfl,rfl,AA,fun _ _ _=>rfl⟩;have hB2:B≤w2.heap.size:=AO hB hb0.size;clear hW0 hR0;go_wp2_with fail;refine(TN1 w2 hB2 (hX.out.below hb0 hB)).out.mono ?_;rintro e w3 ⟨ka,kc,rfl,hkid,hb3⟩;have HK:=zz hkid;clear hkid;have hg3:=below_grown hb3 (some wb);go_wp2_with fail
 go_loopw [6,18] (fun mv q wr=>∃(m:Nat) (mods:List (List UInt8)) (al':Hg.Alls),q= .int .i64 m∧m≤nd.kids.length∧mods.length=m∧wr.ownsRow w3.heap.size 9 1 mv mods.length (mods.map strV)∧WkAt wr wb al'∧w2.grownBy wr (some wb)∧w3.grownBy wr (some wb)∧(match Hg.D7 l (nd.kids.drop m) mods al' with|none=>none|some (mods,a)=>some (⟨a.clash||Hg.twice mods,a.vis⟩:Hg.Alls))=some al) (fun _ q _=>nd.kids.length-(intOf q).toNat)
 case atStart=>exact⟨0,[],zAl,rfl,Nat.zero_le _,rfl,World.ownsRow_nil _ _ _ _,HW0.out.below hb3 AA,hg3,⟨rfl,rfl,rfl,AA,fun _ _ _=>rfl⟩,HAL.out⟩
 case round=>
  obtain⟨m,mods,al',rfl,hm,hml,hown,hWr,hgr,hgr3,hgo⟩:=hrel;have HO:=zz hown;have HWr:=zz hWr;have HGO:=zz hgo;clear hown hWr hgo HAL;have hbr:Below B w2 wr:=CR (by omega) hgr HW0.out.lt;by_cases hlt:m < nd.kids.length
  ·have hbr3:Below B w3 wr:=CR (by omega) hgr3 (by have:=HW0.out.lt;have:=hb3.size;omega)
   obtain⟨b3,o3,rfl,_,kc3⟩:=(HK.out.below hbr3 AA).idAt hlt;have hstep:=HGO.out;rw[Au hlt,Hg.D7] at hstep;generalize nd.kids[m]=x at kc3 hstep;have hBr:B≤wr.heap.size:=AO hB2 hbr.size;have HXr:=zz ((hX.out.below hb0 hB).below hbr AA);have TX:=fun W h1 h2=>TN x W h1 h2;have hkx:=hkn x;have hzx:=zz (hz x);generalize Hg.AL l x=nx at TX hstep hkx hzx;cases hf:Hg.Cy l nx.kids [] al' with
   |none=>rw[hf] at hstep;cases hstep
   |some fa=>
     obtain⟨funcs,a2⟩:=fa;rw[hf] at hstep;dsimp only at hstep;have HST:=zz hstep;have HF:=zz hf;clear hstep hf HGO;have hwr:wb < wr.heap.size:=HWr.out.lt;have h2r:=hgr3.size;go_wp2_with fail;refine(TX wr hBr HXr.out).out.mono ?_;rintro e w4 ⟨kx,cx,rfl,_,hb4⟩;have HO4:=zz (BX HO.out hb4 AA);have hsz4:=hb4.size
     go_wp2_with (at_builtin;refine wpList_append_own_at _ rfl (.tmp 22) (.tmp 27) _ rfl w3.heap.size 9 j0 _ 1 16 Tryz.underlying87 hj hj0 hj1 hj2 rfl (by decide) _ _ _ rfl (HO4.out.alloc _) ⟨_,0,none⟩ 1 1 [strV nx.name] rfl rfl (Ao _ _ _) ?_ ?_ ?_ ?_ ?_)
     ·intro u hu;simp only[List.mem_singleton] at hu;subst hu;rfl
     ·unfold maxLen;omega
     ·omega
     ·simp;omega
     intro v5 W5 own5 g5 _ at5;have hbr5:Below w3.heap.size wr W5:=((hb4.mono h2r).alloc (by omega) (.cells #[strV nx.name] 9)).trans ⟨g5.os,g5.tape,g5.output,g5.size,fun q hq=>g5.block q (by simp;omega) (fun e=>by have:=(HO4.out.lt q e.symm).1;omega)⟩;have own6:W5.ownsRow w3.heap.size 9 1 v5 (mods++[nx.name]).length ((mods++[nx.name]).map strV):=by rw[List.map_append,List.length_append,hml];exact own5
     have OM:=zz own6;have hs5:=hbr5.size;have hw3s:wb < w3.heap.size:=by have:=HW0.out.lt;have:=hb3.size;omega
     have hW5:WkAt W5 wb al':=(hbr5.block wb hw3s).trans HWr.out;have HW5:=zz hW5;have hg35:w3.grownBy W5 (some wb):=⟨hbr5.os.trans hgr3.os,hbr5.tape.trans hgr3.tape,hbr5.output.trans hgr3.output,AO hgr3.size hbr5.size,fun q hq hne=>(hbr5.block q hq).trans (hgr3.block q hq hne)⟩;clear own5 own6 g5 at5 hW5;have hb25:Below B w3 W5:=CR (by omega) hg35 hw3s;have hB5:B≤W5.heap.size:=by omega
     have HX5:=zz ((hX.out.below (hb0.trans (hb3.mono hb0.size)) hB).below hb25 AA);obtain⟨wo,rfl⟩:∃wo:World,wo=wr:=⟨_,rfl⟩;go_wp2_with fail;refine(TX W5 hB5 HX5.out).out.mono ?_;rintro e w6 ⟨ky,cy,rfl,hky,hb6⟩;have HKY:=zz hky;clear hky;go_wp2_with fail
     go_loopw [9,34] (fun fv q wr=>∃(j:Nat) (fs:List (List UInt8)) (a1:Hg.Alls),q= .int .i64 j∧j≤nx.kids.length∧fs.length=j∧wr.ownsRow w6.heap.size 9 1 fv fs.length (fs.map strV)∧WkAt wr wb a1∧w6.grownBy wr (some wb)∧Hg.Cy l (nx.kids.drop j) fs a1=some (funcs,a2)) (fun _ q _=>nx.kids.length-(intOf q).toNat)
     case atStart=>exact⟨0,[],al',rfl,Nat.zero_le _,rfl,World.ownsRow_nil _ _ _ _,HW5.out.below hb6 AA,⟨rfl,rfl,rfl,AA,fun _ _ _=>rfl⟩,HF.out⟩
     case round=>
      obtain⟨j,fs,a1,rfl,hjl,hfl,hownf,hWf,hgf,hgof⟩:=hrel;have HOF:=zz hownf;have HWF:=zz hWf;have HGF:=zz hgof;clear hownf hWf hgof HF;have hg36:w3.grownBy wr (some wb):=(hg35.trans (below_grown hb6 _)).trans hgf;by_cases hlt2:j < nx.kids.length
      ·have hw6:wb < w6.heap.size:=by have:=hb6.size;omega
       have hb6r:Below B w6 wr:=CR (by omega) hgf hw6;obtain⟨b4,o4,rfl,_,kc4⟩:=(HKY.out.below hb6r AA).idAt hlt2;have hy0:nx.kids[j]≠0:=hzx.out _ (List.getElem_mem hlt2);have hstf:=HGF.out;rw[Au hlt2,Hg.Cy] at hstf;generalize nx.kids[j]=y at kc4 hstf hy0;cases hvy:Hg.Cz l y 201 a1.vis y [] with
       |none=>rw[hvy] at hstf;cases hstf
       |some v2=>
         rw[hvy] at hstf;dsimp only at hstf;have hBr:B≤wr.heap.size:=AO (AO hB5 hb6.size) hgf.size;have HXr:=zz ((HX5.out.below hb6 hB5).below hb6r AA);have TY:=zz (TN y wr hBr HXr.out).out;have HSTF:=zz hstf;have HVY:=zz hvy;clear hstf hvy HGF;have h6r:=hgf.size;go_wp2_with fail;refine TY.out.mono ?_;rintro e w7 ⟨kz,cz,rfl,_,hb7⟩;have HO7:=zz (BX HOF.out hb7 AA);have hsz7:=hb7.size
         go_wp2_with (at_builtin;refine wpList_append_own_at _ rfl (.tmp 38) (.tmp 43) _ rfl w6.heap.size 9 j0 _ 1 16 Tryz.underlying87 hj hj0 hj1 hj2 rfl (by decide) _ _ _ rfl (HO7.out.alloc _) ⟨_,0,none⟩ 1 1 [strV (Hg.AL l y).name] rfl rfl (Ao _ _ _) ?_ ?_ ?_ ?_ ?_)
         ·intro u hu;simp only[List.mem_singleton] at hu;subst hu;rfl
         ·unfold maxLen;omega
         ·omega
         ·simp;omega
         intro v8 W8 own8 g8 _ at8;have hbr8:Below w6.heap.size wr W8:=((hb7.mono h6r).alloc (by omega) (.cells #[strV (Hg.AL l y).name] 9)).trans ⟨g8.os,g8.tape,g8.output,g8.size,fun q hq=>g8.block q (by simp;omega) (fun e=>by have:=(HO7.out.lt q e.symm).1;omega)⟩;have own9:W8.ownsRow w6.heap.size 9 1 v8 (fs++[(Hg.AL l y).name]).length ((fs++[(Hg.AL l y).name]).map strV):=by rw[List.map_append,List.length_append,hfl];exact own8
         have OF:=zz own9;have hs8:=hbr8.size;have hW8:WkAt W8 wb a1:=(hbr8.block wb hw6).trans HWF.out;have HW8:=zz hW8;have hg68:w6.grownBy W8 (some wb):=⟨hbr8.os.trans hgf.os,hbr8.tape.trans hgf.tape,hbr8.output.trans hgf.output,AO hgf.size hbr8.size,fun q hq hne=>(hbr8.block q hq).trans (hgf.block q hq hne)⟩;clear own8 own9 g8 at8 hW8;have hb68:Below B w6 W8:=CR (by omega) hg68 hw6;have HX8:=zz ((HX5.out.below hb6 hB5).below hb68 AA);have hB8:B≤W8.heap.size:=by omega
         go_upto_region 12 with fail;obtain⟨c0,_,_,_,_,_,hfz⟩:=HW8.out.cell;have f0:=hfz 0;clear hfz;obtain⟨cl,vis⟩:=a1;cases cl with
         |true=>
           dsimp only at c0;go_upto_region 13 with fail;have hW9:=HW8.out.setClash true;have hg69:=Ch hg68 0 (.bool true);have hk89:W8.grownBy (W8.setCell ⟨wb,0,none⟩ (.bool true)) (some wb):=Ch ⟨rfl,rfl,rfl,AA,fun _ _ _=>rfl⟩ 0 _;generalize World.setCell W8 _ _=w9 at hW9 hg69 hk89⊢;have HW9:=zz hW9;clear c0 f0 hW9;have hb69:Below B w6 w9:=CR (by omega) hg69 hw6;have TV:=zz (HV.out y wb ⟨true,vis⟩ v2 w9 (by omega) hy0 ((HX5.out.below hb6 hB5).below hb69 AA) HW9.out HVY.out);go_wp2_with fail;refine TV.out.mono ?_;rintro e w10 ⟨rfl,hW10,hg10⟩;go_wp2;go_roundw
           case rel=>exact⟨j+1,fs++[(Hg.AL l y).name],⟨true,v2⟩,by go_num,by omega,by simp;omega,OF.out.kept (hk89.trans hg10) (.inr fun e=>by have:=(OF.out.lt wb e).1;omega),hW10,hg69.trans hg10,HSTF.out⟩
           case measure=>simp[intOf];omega
         |false=>
           dsimp only at c0;have hnl:(Hg.CW l y).length≤1000000000:=by
            unfold Hg.CW;rw[List.length_map];exact AO (List.length_filter_le _ _) (AO (Hg.Mc l y) hl)
           have TM:=zz (Qn B (.slice a l.length c) l y W8 hB8 HX8.out hl hks);have hst:=HSTF.out;dsimp only at hst;obtain⟨ns,hns⟩:∃ns,Hg.CW l y=ns:=⟨_,rfl⟩;rw[hns] at TM hnl hst;obtain⟨tw,htw⟩:∃tw,Hg.twice ns=tw:=⟨_,rfl⟩;have HTW:=zz htw;rw[htw] at hst;have HSTF:=zz hst;clear hst hns htw;go_wp2_with fail;refine TM.out.mono ?_;rintro e w9a ⟨⟨na,nc,rfl,hnsl⟩,hb9a⟩;have TT:=zz (IG w9a.heap.size _ ns w9a AA hnsl hnl);rw[HTW.out] at TT;clear hnsl;go_wp2_with fail;refine TT.out.mono ?_;rintro e w9b ⟨rfl,hb9b⟩;have hbab:=hb9a.trans (hb9b.mono hb9a.size);have HW8b:=zz (HW8.out.below hbab AA);have hg68b:=hg68.trans (below_grown hbab (some wb));clear c0 f0;obtain⟨c0,_,_,_,_,_,hfz⟩:=HW8b.out.cell;have f0:=hfz 0;clear hfz;go_upto_region 13 with fail;have hW9:=HW8b.out.setClash tw;have hg69:=Ch hg68b 0 (.bool tw);have hk89:W8.grownBy (w9b.setCell ⟨wb,0,none⟩ (.bool tw)) (some wb):=Ch (below_grown hbab _) 0 _;generalize World.setCell w9b _ _=w9 at hW9 hg69 hk89⊢;have HW9:=zz hW9;clear c0 f0 hW9;have hb69:Below B w6 w9:=CR (by omega) hg69 hw6;have TV:=zz (HV.out y wb ⟨tw,vis⟩ v2 w9 (by omega) hy0 ((HX5.out.below hb6 hB5).below hb69 AA) HW9.out HVY.out);go_wp2_with fail;refine TV.out.mono ?_;rintro e w10 ⟨rfl,hW10,hg10⟩;go_wp2;go_roundw
           case rel=>exact⟨j+1,fs++[(Hg.AL l y).name],⟨tw,v2⟩,by go_num,by omega,by simp;omega,OF.out.kept (hk89.trans hg10) (.inr fun e=>by have:=(OF.out.lt wb e).1;omega),hW10,hg69.trans hg10,by have h:=HSTF.out;rw[Bool.false_or] at h;exact h⟩
           case measure=>simp[intOf];omega
      ·obtain rfl:j=nx.kids.length:=by omega
       have he:=HGF.out;rw[List.drop_length,Hg.Cy] at he;injection he with he;injection he with e1 e2;subst e1;subst e2;obtain⟨c0,_,_,_,_,_,hfz⟩:=HWF.out.cell;have f0:=hfz 0;clear hfz HGF;have hg5r:W5.grownBy wr (some wb):=(below_grown hb6 _).trans hgf;have hg2r:w2.grownBy wr (some wb):=hg3.trans hg36;obtain⟨cl,vis⟩:=a1;cases cl with
       |true=>
         dsimp only at c0;go_wp2;go_roundw
         case rel=>exact⟨m+1,mods++[nx.name],⟨true,vis⟩,by go_num,by omega,by simp;omega,OM.out.kept (Ch hg5r 0 _) (.inr fun e=>by have:=(OM.out.lt wb e).1;omega),HWF.out.setClash true,Ch hg2r 0 _,Ch hg36 0 _,HST.out⟩
         case measure=>simp[intOf];omega
       |false=>
         dsimp only at c0;have TT:=zz (IG wr.heap.size _ fs wr AA (Sl.Ai HOF.out) (by omega));obtain⟨tw,htw⟩:∃tw,Hg.twice fs=tw:=⟨_,rfl⟩;have hst:=HST.out;dsimp only at hst;rw[htw] at TT hst;have HST:=zz hst;clear htw hst;go_wp2_with fail;refine TT.out.mono ?_;rintro e w7 ⟨rfl,hb7⟩;have HW7:=zz (HWF.out.below hb7 AA);have hb7g:=below_grown hb7 (some wb);clear c0 f0;obtain⟨c0,_,_,_,_,_,hfz⟩:=HW7.out.cell;have f0:=hfz 0;clear hfz;go_wp2;go_roundw
         case rel=>exact⟨m+1,mods++[nx.name],⟨tw,vis⟩,by go_num,by omega,by simp;omega,OM.out.kept (Ch (hg5r.trans hb7g) 0 _) (.inr fun e=>by have:=(OM.out.lt wb e).1;omega),HW7.out.setClash tw,Ch (hg2r.trans hb7g) 0 _,Ch (hg36.trans hb7g) 0 _,by simpa using HST.out⟩
         case measure=>simp[intOf];omega
  ·obtain rfl:m=nd.kids.length:=by omega
   have he:=HGO.out;rw[List.drop_length,Hg.D7] at he;dsimp only at he;injection he with he;subst he;obtain⟨c0,c1,c2,c3,c4,c5,hf⟩:=HWr.out.cell;obtain⟨d0,d1,d2,d3,d4,d5,hg⟩:=(HR0.out.grown hgr (by omega)).cell;have f0:=hf 0;have g0:=hg 0;have g1:=hg 1;have g2:=hg 2;have g3:=hg 3;have g4:=hg 4;have g5:=hg 5;clear hf hg;obtain⟨cl,vis⟩:=al';cases cl with
   |true=>
     dsimp only at c0;go_upto_region 18 with fail;have hW5:=HWr.out.setClash true;have hg5':=Ch hgr 0 (.bool true);generalize World.setCell wr _ _=w5 at hW5 hg5'⊢;clear c0 c1 c2 c3 c4 c5 d0 d1 d2 d3 d4 d5 f0 g0 g1 g2 g3 g4 g5;obtain⟨c0,c1,c2,c3,c4,c5,hf⟩:=hW5.cell;obtain⟨d0,d1,d2,d3,d4,d5,hg⟩:=(HR0.out.grown hg5' (by omega)).cell;have g0:=hg 0;have g1:=hg 1;have g2:=hg 2;have g3:=hg 3;have g4:=hg 4;have g5:=hg 5;clear hf hg;have hgw5:Below w.heap.size w w5:=hb0.trans (CR (by omega) hg5' (by omega));go_wp2;exact bodyPost_ret (v:= .agg #[.bool true,.bool vis.hidden,.bool vis.wrong,.int .u64 0,.slice none 0 0,.bool false]) (by simp[results,Tryz.results24,go_sem,d0,d1,d2,d3,d4,d5]) rfl ⟨rfl,CO hgw5 AA _ _ _ _ _ _⟩
   |false=>
     dsimp only at c0;have TT:=zz (IG wr.heap.size _ mods wr AA (Sl.Ai HO.out) (by omega));obtain⟨tw,htw⟩:∃tw,Hg.twice mods=tw:=⟨_,rfl⟩;rw[htw] at TT;have HTW:=zz htw;clear htw;go_wp2_with fail;refine TT.out.mono ?_;rintro e w4 ⟨rfl,hb4⟩;have hg4:=hgr.trans (below_grown hb4 (some wb));have HW4:=zz (HWr.out.below hb4 AA);clear c0 c1 c2 c3 c4 c5 d0 d1 d2 d3 d4 d5 f0 g0 g1 g2 g3 g4 g5;obtain⟨c0,c1,c2,c3,c4,c5,hf⟩:=HW4.out.cell;have f0:=hf 0;clear hf;go_upto_region 18 with fail;have hW5:=HW4.out.setClash tw;have hg5':=Ch hg4 0 (.bool tw);generalize World.setCell w4 _ _=w5 at hW5 hg5'⊢;clear c0 c1 c2 c3 c4 c5 f0;obtain⟨c0,c1,c2,c3,c4,c5,hf⟩:=hW5.cell;obtain⟨d0,d1,d2,d3,d4,d5,hg⟩:=(HR0.out.grown hg5' (by omega)).cell;have g0:=hg 0;have g1:=hg 1;have g2:=hg 2;have g3:=hg 3;have g4:=hg 4;have g5:=hg 5;clear hf hg;have hgw5:Below w.heap.size w w5:=hb0.trans (CR (by omega) hg5' (by omega));go_wp2;exact bodyPost_ret (v:= .agg #[.bool tw,.bool vis.hidden,.bool vis.wrong,.int .u64 0,.slice none 0 0,.bool false]) (by simp[results,Tryz.results24,go_sem,d0,d1,d2,d3,d4,d5]) rfl ⟨by have h:=HTW.out;subst h;rfl,CO hgw5 AA _ _ _ _ _ _⟩
theorem VN(p q:Value)(xs:List Nat)(w:World)(hl:xs.length≤1000000)(hp:Sl w w.heap.size p xs.length (xs.map idV))(hq:Sl w w.heap.size q xs.length (xs.map idV)):
 Calls Tryz.prog 73 #[p,q] w fun e w'=>e= .returned (.bool true)∧Below w.heap.size w w':=by
 obtain⟨a1,c1,rfl⟩:=hp.form;obtain⟨a2,c2,rfl⟩:=hq.form;have HP:=zz hp;have HQ:=zz hq;clear hp hq;go_enter Tryz.func73,Tryz.ntmps73;go_wp2
 go_loopw [5,13] (fun _ i wr=>∃k:Nat,k≤xs.length∧i= .int .i64 (k:Int)∧Below w.heap.size w wr) (fun _ i _=>xs.length-(intOf i).toNat)
 case atStart=>exact⟨0,by omega,rfl,AP⟩
 case round=>
  obtain⟨k,hk,rfl,hb⟩:=hrel;have HB:=zz hb;by_cases h0:k < xs.length
  ·obtain⟨b1,o1,rfl,hb1,e1'⟩:=HP.out.idAt h0
   obtain⟨b2,o2,rfl,hb2,e2'⟩:=HQ.out.idAt h0;generalize xs[k]=x at e1' e2';have e1:=(hb.cell hb1).trans e1';have e2:=(hb.cell hb2).trans e2';clear hb e1' e2';go_upto_region 6 with fail
   go_quiet (fail)
   go_wp2;go_roundw
   case rel=>exact⟨k+1,by omega,by go_num,below_drewN HB.out nq⟩
   case measure=>simp[intOf];omega
  ·obtain rfl:k=xs.length:=by omega
   clear hb;go_wp2;go_ret;exact⟨rfl,HB.out⟩
end Go.Proofs.YtijhlanclfajiaaGreatDoor
