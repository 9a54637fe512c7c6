/-
  Part of the proof of CheckLists.
-/
import Derived.Test.YtljmibnfmilfbaaGreatDoorKeAQ
import Derived.Test.YtljmibnfmilfbaaGreatDoorKeAC
import Derived.Test.YtljmibnfmilfbaaGreatDoorKeAL
import Derived.Test.YtljmibnfmilfbaaGreatDoorKeAI
import Derived.Deep.RegionHeld3
import Derived.Deep.CutBlock
set_option linter.all false
set_option maxHeartbeats 32000000
set_option maxRecDepth 100000
namespace Go.Proofs.YtljmibnfmilfbaaGreatDoor
open Go.RowKit
@[simp,go_sem] theorem XP(a b:List UInt8):ByteArray.mk a.toArray++ByteArray.mk b.toArray=ByteArray.mk (a++b).toArray:=by
 apply ByteArray.ext;rw[ByteArray.data_append];simp
structure Rok (l:List Hg.Row):Prop where
 len:l.length≤1000000000
 sum:Hg.BA l≤100000000
 kids:∀(j:Nat) (r:Hg.Row),l[j]? =some r→r.node.kids.length≤100000000
 kind:∀(j:Nat) (r:Hg.Row),l[j]? =some r→r.node.kind≤255
 name:∀(j:Nat) (r:Hg.Row),l[j]? =some r→r.node.name.length≤1000000000
 num:∀(j:Nat) (r:Hg.Row),l[j]? =some r→r.node.num≤9223372036854775807
theorem Rok.WR{l:List Hg.Row}(h:Rok l):∀(j:Nat) (r:Hg.Row),l[j]? =some r→r.node.kids.length≤1000000000:=fun j r hr=>by have:=h.kids j r hr;omega
theorem Rok.nkind{l:List Hg.Row}(h:Rok l)(id:Nat):(Hg.AV l id).kind≤255:=by
 cases hk:Hg.atI l id with
 |none=>rw[Hg.Et l id hk];simp[Hg.Node.zero]
 |some k=>rw[Hg.Eb l id k hk];exact h.kind k _ (En hk)
@[reducible] def El(n:Hg.Node)(ka:Option Addr)(kc:Nat):Obj:=
 .cells #[.int .u8 (n.kind:Int),strV n.name,.int .i64 n.num,.int .u8 (n.type:Int),.int .u64 (n.ref:Int),.slice ka n.kids.length kc] 33
theorem boxes{w w1:World}{r:Hg.Row}{ka:Option Addr}{kc:Nat}(h:Below ((w.alloc (Cy r ka kc)).alloc (El r.node ka kc)).heap.size ((w.alloc (Cy r ka kc)).alloc (El r.node ka kc)) w1):
 w1.cell? ⟨w.heap.size,0,none⟩=some (.int .u64 (r.id:Int))∧w1.cell? ⟨w.heap.size+1,0,none⟩=some (.int .u8 (r.node.kind:Int))∧w1.cell? ⟨w.heap.size+1,1,none⟩=some (strV r.node.name)∧
 w1.cell? ⟨w.heap.size+1,2,none⟩=some (.int .i64 r.node.num)∧w1.cell? ⟨w.heap.size+1,3,none⟩=some (.int .u8 (r.node.type:Int))∧w1.cell? ⟨w.heap.size+1,4,none⟩=some (.int .u64 (r.node.ref:Int))∧
 w1.cell? ⟨w.heap.size+1,5,none⟩=some (.slice ka r.node.kids.length kc)∧w.heap.size+1 < w1.heap.size∧Below w.heap.size w w1:=by
 obtain⟨⟨k0,k1,k2,k3,k4,k5⟩,_,hs,hb⟩:=box6 h;obtain⟨⟨d0,_⟩,hs2,hb2⟩:=box7 hb;simp only[World.size_alloc] at k0 k1 k2 k3 k4 k5 hs;exact⟨d0,k0,k1,k2,k3,k4,k5,hs,hb2⟩
theorem PL(l:List Hg.Row)(ks:List Nat)(m:Nat)(h:m < ks.length):Hg.classes l (ks.take (m+1))=Hg.classes l (ks.take m)++[Hg.FV (Hg.AV l ks[m]).kind]:=by
 unfold Hg.classes Hg.kindOf;rw[List.take_succ_eq_append_getElem h,List.map_append];rfl
theorem LX(l:List Hg.Row)(ks:List Nat):(Hg.classes l ks).length=ks.length:=by simp[Hg.classes]
theorem YK(r:Hg.Row)(h:r.node.type=1):Hg.sc3 r= !(Hg.DK r.node.kind):=by
 unfold Hg.sc3;rw[h];cases Hg.DK r.node.kind <;>decide
theorem YJ(r:Hg.Row)(h:r.node.type=2):Hg.sc3 r= !(Hg.DK r.node.kind):=by
 unfold Hg.sc3;rw[h];cases Hg.DK r.node.kind <;>decide
theorem YL(r:Hg.Row)(h:r.node.type=0):Hg.sc3 r=Hg.DK r.node.kind:=by
 unfold Hg.sc3;rw[h];cases Hg.DK r.node.kind <;>decide
theorem YI(r:Hg.Row)(h0:¬r.node.type=0)(h1:¬r.node.type=1)(h2:¬r.node.type=2):Hg.sc3 r=true:=by
 unfold Hg.sc3;cases Hg.DK r.node.kind <;>simp[h0,h1,h2]
theorem L9(B:Nat)(v:Value)(l:List Hg.Row)(w:World)(hB:B≤w.heap.size)(hx:Az w B v l)(hl:Rok l)(b:Bool)(hsh:Hg.shaped l=some b):
 Calls Tryz.prog 6 #[v] w fun e w'=>e= .returned (.bool b)∧Below w.heap.size w w':=by
 have hX:=zz hx;have HL:=zz hl;obtain⟨a,c,rfl⟩:=hx.form;have hlen:=hl.len;have T:=zz (Tx B (.slice a l.length c) l w hB hX.out hlen hl.sum hl.WR);clear hx hl;unfold Hg.shaped at hsh;cases htr:Hg.tree l
 ·rw[if_pos htr] at hsh
  injection hsh with hsh;rw[htr] at T;subst hsh;clear htr;go_enter Tryz.func6,Tryz.ntmps6
  go_wp2_with (go_at_call 23;refine T.out.mono ?_;rintro e w1 ⟨rfl,hb1⟩)
  go_ret;exact⟨rfl,hb1⟩
 rw[if_neg (by simp[htr])] at hsh;rw[htr] at T;have HSH:=zz hsh;clear htr hsh;go_enter Tryz.func6,Tryz.ntmps6
 go_wp2_with (go_at_call 23;refine T.out.mono ?_;rintro e w1 ⟨rfl,hb1⟩)
 have hI:=hb1
 go_loopw [23] (fun q wr=>∃(i:Nat),q= .int .i64 i∧i≤l.length∧Hg.Ck l (l.drop i)=Hg.Ck l l∧Below w.heap.size w wr) (fun q _=>l.length-(intOf q).toNat)
 case atStart=>exact⟨0,rfl,Nat.zero_le _,rfl,hI⟩
 case round=>
  obtain⟨i,rfl,hi,hg,hbw⟩:=hrel;have HG:=zz hg;clear hg hI hb1 T;obtain⟨wo,rfl⟩:∃wo:World,wo=wr:=⟨_,rfl⟩;by_cases hlt:i < l.length
  ·have hri:l[i]? =some l[i]:=List.getElem?_eq_getElem hlt
   obtain⟨br,orr,ki,kci,rfl,_,hkid,d0,d1,d2,d3,d4,d5,d6⟩:=(hX.out.below hbw hB).at_ hri;have HK:=zz hkid;have hkl2:=HL.out.kids i l[i] hri;have hnl:=HL.out.name i l[i] hri;have hkd:=HL.out.kind i l[i] hri;have hnum:=HL.out.num i l[i] hri;have hstep:Hg.Ck l (l[i]::l.drop (i+1))=Hg.Ck l l:=by rw[←List.drop_eq_getElem_cons hlt];exact HG.out
   rw[Hg.Ck] at hstep;clear hkid hri HG;have HS:=zz hstep;clear hstep;generalize l[i]=r at d0 d1 d2 d3 d4 d5 d6 HK hkl2 hnl hkd hnum HS;have hBw:B≤wo.heap.size:=Nat.le_trans hB hbw.size;have hI2:=Below.refl ((wo.alloc (Cy r ki kci)).alloc (El r.node ki kci)).heap.size ((wo.alloc (Cy r ki kci)).alloc (El r.node ki kci));have HI2:=zz hI2;clear hI2;have TN:=fun x W h1 h2=>zz (JZ B (.slice (some ⟨br,orr,none⟩) l.length c) l x W h1 h2 hlen);go_wp2_with fail
   go_loopw [6,32] (fun p q wr=>∃(m:Nat),q= .int .i64 m∧m≤r.node.kids.length∧p=strV (Hg.classes l (r.node.kids.take m))∧Below ((wo.alloc (Cy r ki kci)).alloc (El r.node ki kci)).heap.size ((wo.alloc (Cy r ki kci)).alloc (El r.node ki kci)) wr) (fun _ q _=>r.node.kids.length-(intOf q).toNat)
   case atStart=>exact⟨0,rfl,Nat.zero_le _,rfl,HI2.out⟩
   case round=>
    obtain⟨m,rfl,hm,rfl,hbW⟩:=hrel;obtain⟨x0,y0,y1,y2,y3,y4,y5,hszW,hbbW⟩:=boxes hbW;have hbwW:Below w.heap.size w wr:=hbw.trans (hbbW.mono hbw.size);have hBW:B≤wr.heap.size:=Nat.le_trans hB hbwW.size;by_cases hlm:m < r.node.kids.length
    ·obtain⟨b3,o3,rfl,_,kc3⟩:=(HK.out.below hbbW hBw).idAt hlm
     have hcs:=zz (PL l r.node.kids m hlm);have hcl:(Hg.classes l (r.node.kids.take m)).length≤100000000:=by rw[LX];simp;omega
     have hcl2:¬9223372036854775807 < (Hg.classes l (r.node.kids.take m)).length+1:=by omega
     have hkx:=HL.out.nkind r.node.kids[m];have T1:=fun W h1 h2=>TN r.node.kids[m] W h1 h2;generalize r.node.kids[m]=x at kc3 hcs hkx T1;generalize Hg.AV l x=nx at hcs hkx T1
     go_wp2_with (first
      |(go_at_call 25;refine((T1 _ hBW (hX.out.below hbwW hB)).out).mono ?_;rintro e w4 ⟨kx,cx,rfl,_,hb4⟩)
      |(go_at_call 24;refine(Ql nx.kind hkx _).mono ?_;rintro e w' ⟨rfl,rfl⟩))
     go_roundw
     case rel=>exact⟨m+1,by go_num,by omega,by rw[hcs.out],hbW.trans (hb4.mono hbW.size)⟩
     case measure=>simp[intOf];omega
    ·obtain rfl:m=r.node.kids.length:=by omega
     rw[List.take_length];have hcl:(Hg.classes l r.node.kids).length≤100000000:=by rw[LX];omega
     generalize hcs:Hg.classes l r.node.kids=cs at hcl;have HCS:=zz hcs;clear hcs;go_upto_region 14 with(go_at_call 26;refine(RN B _ l r.id _ hBW (hX.out.below hbwW hB) hlen HL.out.WR).mono ?_;rintro e w5 ⟨rfl,hb5⟩);have hbW5:=hbW.trans (hb5.mono hbW.size);clear x0 y0 y1 y2 y3 y4 y5 hszW;obtain⟨x0,y0,y1,y2,y3,y4,y5,hszW,hbbW5⟩:=boxes hbW5;have hbw5:Below w.heap.size w w5:=hbw.trans (hbbW5.mono hbw.size);have hB5:B≤w5.heap.size:=Nat.le_trans hB hbw5.size;have hR5:=hX.out.below hbw5 hB;have HR5:=zz hR5;clear hR5
     go_cut [79] from 24 to 183 (fun tv wx=>tv= .bool (Hg.sc1 l r)∧Below ((wo.alloc (Cy r ki kci)).alloc (El r.node ki kci)).heap.size ((wo.alloc (Cy r ki kci)).alloc (El r.node ki kci)) wx)
     case first=>as_aux_lemma=>
      by_cases a1:r.node.kind < 1
      ·have hsc:=zz (show Hg.sc1 l r=true from decide_eq_true (.inl a1))
       have q1:decide ((r.node.kind:Int) < 1)=true:=by simp;omega
       clear a1
       go_quiet (fail)
       go_wp2
       go_meet
       case rel=>exact⟨by rw[hsc.out],below_drewN hbW5 _⟩
      by_cases a2:20 < r.node.kind
      ·have hsc:=zz (show Hg.sc1 l r=true from decide_eq_true (.inr (.inl a2)))
       have q1:decide ((r.node.kind:Int) < 1)=false:=by simp;omega
       have q2:decide ((20:Int) < (r.node.kind:Int))=true:=by simp;omega
       clear a1 a2
       go_quiet (fail)
       go_wp2
       go_meet
       case rel=>exact⟨by rw[hsc.out],below_drewN hbW5 _⟩
      have q1:decide ((r.node.kind:Int) < 1)=false:=by simp;omega
      have q2:decide ((20:Int) < (r.node.kind:Int))=false:=by simp;omega
      by_cases b1:r.node.kind=1
      ·by_cases b2:r.id=1
       ·have a3:decide (r.node.kind=1)=decide (r.id=1):=by simp[b1,b2]
        have q3:((r.node.kind:Int)==1)=true:=by simp <;>omega
        have q4:((r.id:Int)==1)=true:=by simp <;>omega
        have hfit:=Ms r.node.kind hkd cs (by omega) (decide (Hg.kindOf l (Hg.parentOf l r.id).1=3));have HFIT:=zz hfit;clear hfit;have T2:=fun W h1 h2=>TN (Hg.parentOf l r.id).1 W h1 h2;have hsc:Hg.sc1 l r= !Hg.fits r.node.kind cs (decide (Hg.kindOf l (Hg.parentOf l r.id).1=3)):=by
         unfold Hg.sc1;rw[HCS.out,a3];have n1:¬r.node.kind < 1:=a1;have n2:¬20 < r.node.kind:=a2
         simp[n1,n2]
        have HSC:=zz hsc;clear hsc a1 a2 a3 b1 b2;unfold Hg.kindOf at HFIT HSC;generalize Hg.AV l (Hg.parentOf l r.id).1=nu at HFIT HSC T2;have hu:((nu.kind:Int)==3)=decide (nu.kind=3):=by rw[Bool.eq_iff_iff];simp only[beq_iff_eq,decide_eq_true_eq];omega
        go_region_held3 (fun w'=>w'.cell? ⟨wo.heap.size,0,none⟩=some (.int .u64 (r.id:Int))∧w'.cell? ⟨wo.heap.size+1,0,none⟩=some (.int .u8 (r.node.kind:Int))) (first|exact⟨x0,y0⟩|exact⟨x0',y0'⟩|exact⟨x0'',y0''⟩) (first|(go_at_call 25;refine((T2 w5.drew hB5 HR5.out).out).mono ?_;rintro e w6 ⟨kx,cx,rfl,_,hb6⟩;have hbW6:=hbW5.drew.trans (hb6.mono hbW5.size);obtain⟨x0',y0',_,_,_,_,_,_,_⟩:=boxes hbW6)|(go_at_call 27;refine(HFIT.out _).mono ?_;rintro e w7 ⟨rfl,hb7⟩;have hbW7:=hbW6.trans (hb7.mono hbW6.size);obtain⟨x0'',y0'',_,_,_,_,_,_,_⟩:=boxes hbW7))
        go_wp2
        go_meet
        case rel=>exact⟨by rw[HSC.out],hbW7⟩
       ·have a3:decide (r.node.kind=1)≠decide (r.id=1):=by simp[b1,b2]
        have hsc:=zz (show Hg.sc1 l r=true from decide_eq_true (.inr (.inr (.inl a3))));have q3:((r.node.kind:Int)==1)=true:=by simp <;>omega
        have q4:((r.id:Int)==1)=false:=by simp <;>omega
        clear a1 a2 a3 b1 b2
        go_quiet (fail)
        go_wp2
        go_meet
        case rel=>exact⟨by rw[hsc.out],below_drewN hbW5 _⟩
      ·by_cases b2:r.id=1
       ·have a3:decide (r.node.kind=1)≠decide (r.id=1):=by simp[b1,b2]
        have hsc:=zz (show Hg.sc1 l r=true from decide_eq_true (.inr (.inr (.inl a3))));have q3:((r.node.kind:Int)==1)=false:=by simp <;>omega
        have q4:((r.id:Int)==1)=true:=by simp <;>omega
        clear a1 a2 a3 b1 b2
        go_quiet (fail)
        go_wp2
        go_meet
        case rel=>exact⟨by rw[hsc.out],below_drewN hbW5 _⟩
       ·have a3:decide (r.node.kind=1)=decide (r.id=1):=by simp[b1,b2]
        have q3:((r.node.kind:Int)==1)=false:=by simp <;>omega
        have q4:((r.id:Int)==1)=false:=by simp <;>omega
        have hfit:=Ms r.node.kind hkd cs (by omega) (decide (Hg.kindOf l (Hg.parentOf l r.id).1=3));have HFIT:=zz hfit;clear hfit;have T2:=fun W h1 h2=>TN (Hg.parentOf l r.id).1 W h1 h2;have hsc:Hg.sc1 l r= !Hg.fits r.node.kind cs (decide (Hg.kindOf l (Hg.parentOf l r.id).1=3)):=by
         unfold Hg.sc1;rw[HCS.out,a3];have n1:¬r.node.kind < 1:=a1;have n2:¬20 < r.node.kind:=a2
         simp[n1,n2]
        have HSC:=zz hsc;clear hsc a1 a2 a3 b1 b2;unfold Hg.kindOf at HFIT HSC;generalize Hg.AV l (Hg.parentOf l r.id).1=nu at HFIT HSC T2;have hu:((nu.kind:Int)==3)=decide (nu.kind=3):=by rw[Bool.eq_iff_iff];simp only[beq_iff_eq,decide_eq_true_eq];omega
        go_region_held3 (fun w'=>w'.cell? ⟨wo.heap.size,0,none⟩=some (.int .u64 (r.id:Int))∧w'.cell? ⟨wo.heap.size+1,0,none⟩=some (.int .u8 (r.node.kind:Int))) (first|exact⟨x0,y0⟩|exact⟨x0',y0'⟩|exact⟨x0'',y0''⟩) (first|(go_at_call 25;refine((T2 w5.drew hB5 HR5.out).out).mono ?_;rintro e w6 ⟨kx,cx,rfl,_,hb6⟩;have hbW6:=hbW5.drew.trans (hb6.mono hbW5.size);obtain⟨x0',y0',_,_,_,_,_,_,_⟩:=boxes hbW6)|(go_at_call 27;refine(HFIT.out _).mono ?_;rintro e w7 ⟨rfl,hb7⟩;have hbW7:=hbW6.trans (hb7.mono hbW6.size);obtain⟨x0'',y0'',_,_,_,_,_,_,_⟩:=boxes hbW7))
        go_wp2
        go_meet
        case rel=>exact⟨by rw[HSC.out],hbW7⟩
     case rest=>as_aux_lemma=>
      obtain⟨rfl,hbc⟩:=hcut;clear x0 y0 y1 y2 y3 y4 y5 hszW hbbW5 hbW5 hb5 hbW HR5 hB5 hbw5 hbwW hBW hbbW HCS hcl;obtain⟨x0,y0,y1,y2,y3,y4,y5,hszC,hbbC⟩:=boxes hbc;have hbwC:Below w.heap.size w wc:=hbw.trans (hbbC.mono hbw.size);have hrw:=Hg.Oh l r hnum;have hbad:Hg.DX l r=false→b=false:=fun h=>by
       have h1:=HS.out;rw[if_pos h] at h1;have h2:=HSH.out;rw[if_pos h1.symm] at h2;injection h2 with h2;exact h2.symm
      have hgood:Hg.DX l r=true→Hg.Ck l (l.drop (i+1))=Hg.Ck l l:=fun h=>by
       have h1:=HS.out;rw[if_neg (by simp[h])] at h1;exact h1
      rw[hrw] at hbad hgood;have HBAD:=zz hbad;have HGOOD:=zz hgood;clear hrw hbad hgood HS;obtain⟨wd,rfl⟩:∃x:World,x=wc:=⟨_,rfl⟩;cases hs1:Hg.sc1 l r;rotate_left
      ·have HF:=zz (HBAD.out (by rw[hs1];rfl))
       clear hs1;go_wp2;go_ret;exact⟨AU HF.out.symm,hbwC⟩
      have HS1:=zz hs1;clear hs1;go_upto_region 16 with fail
      go_cut [11] from 24 to 183 (fun tv wx=>tv= .bool (Hg.isNamed r.node.kind)∧wd=wx)
      case first=>as_aux_lemma=>
       by_cases k2:r.node.kind=2
       ·have hn:=zz (show Hg.isNamed r.node.kind=true by rw[k2];rfl)
        have q1:((r.node.kind:Int)==2)=true:=by simp[k2]
        clear k2;go_wp2
        go_meet
        case rel=>exact⟨by rw[hn.out],rfl⟩
       have q1:((r.node.kind:Int)==2)=false:=by simp;omega
       by_cases k3:r.node.kind=3
       ·have hn:=zz (show Hg.isNamed r.node.kind=true by rw[k3];rfl)
        have q2:((r.node.kind:Int)==3)=true:=by simp[k3]
        clear k2 k3;go_wp2
        go_meet
        case rel=>exact⟨by rw[hn.out],rfl⟩
       have q2:((r.node.kind:Int)==3)=false:=by simp;omega
       by_cases k4:r.node.kind=4
       ·have hn:=zz (show Hg.isNamed r.node.kind=true by rw[k4];rfl)
        have q3:((r.node.kind:Int)==4)=true:=by simp[k4]
        clear k2 k3 k4;go_wp2
        go_meet
        case rel=>exact⟨by rw[hn.out],rfl⟩
       have q3:((r.node.kind:Int)==4)=false:=by simp;omega
       by_cases k6:r.node.kind=6
       ·have hn:=zz (show Hg.isNamed r.node.kind=true by rw[k6];rfl)
        have q4:((r.node.kind:Int)==6)=true:=by simp[k6]
        clear k2 k3 k4 k6;go_wp2
        go_meet
        case rel=>exact⟨by rw[hn.out],rfl⟩
       have q4:((r.node.kind:Int)==6)=false:=by simp;omega
       have hn:=zz (show Hg.isNamed r.node.kind=false by unfold Hg.isNamed;simp[k2,k3,k4,k6]);clear k2 k3 k4 k6;go_wp2
       go_meet
       case rel=>exact⟨by rw[hn.out],rfl⟩
      case rest=>
       obtain⟨rfl,rfl⟩:=hcut;go_upto_region 17 with fail
       go_cut [11,116] from 24 to 183 (fun nv tv wx=>nv= .bool (Hg.isNamed r.node.kind)∧tv= .bool (Hg.sc2 r)∧Below ((wo.alloc (Cy r ki kci)).alloc (El r.node ki kci)).heap.size ((wo.alloc (Cy r ki kci)).alloc (El r.node ki kci)) wx)
       case first=>as_aux_lemma=>
        cases hnm:Hg.isNamed r.node.kind
        ·by_cases hne:r.node.name=[]
         ·have hsc:=zz (show Hg.sc2 r=false by unfold Hg.sc2;rw[hnm,hne];rfl)
          have q1:(r.node.name !=[])=false:=by simp[hne]
          have HN:=zz hnm;clear hnm;go_wp2
          go_meet
          case rel=>exact⟨by rw[HN.out],by rw[hsc.out],hbc⟩
         ·have hsc:=zz (show Hg.sc2 r=true by unfold Hg.sc2;rw[hnm];simp[hne])
          have q1:(r.node.name !=[])=true:=by simp[hne]
          have HN:=zz hnm;clear hnm;go_wp2
          go_meet
          case rel=>exact⟨by rw[HN.out],by rw[hsc.out],hbc⟩
        ·by_cases hne:r.node.name=[]
         ·have hsc:=zz (show Hg.sc2 r=true by unfold Hg.sc2;rw[hnm,hne];rfl)
          have q1:(r.node.name !=[])=false:=by simp[hne]
          have HN:=zz hnm;clear hnm;go_wp2
          go_meet
          case rel=>exact⟨by rw[HN.out],by rw[hsc.out],hbc⟩
         ·have q1:(r.node.name !=[])=true:=by simp[hne]
          cases hr8:Hg.Bz r.node.name
          ·have hsc:=zz (show Hg.sc2 r=true by unfold Hg.sc2;rw[hnm,hr8];simp)
           have H8:=zz hr8;have HN:=zz hnm;clear hnm hr8
           go_wp2_with (go_at_call 28;refine(Gm _ hnl _).mono ?_;rintro e w' ⟨rfl,rfl⟩;rw[H8.out])
           go_meet
           case rel=>exact⟨by rw[HN.out],by rw[hsc.out],hbc⟩
          ·have hsc:=zz (show Hg.sc2 r=Hg.inL Hg.words r.node.name by unfold Hg.sc2;rw[hnm,hr8];simp[hne])
           have H8:=zz hr8;have HN:=zz hnm;clear hnm hr8
           go_wp2_with (first
            |(go_at_call 28;refine(Gm _ hnl _).mono ?_;rintro e w' ⟨rfl,rfl⟩;rw[H8.out])
            |(go_at_call 29;refine(Qw _ _).mono ?_;rintro e w6 ⟨rfl,hb6⟩;have hbW6:=hbc.trans (hb6.mono hbc.size)))
           go_meet
           case rel=>exact⟨by rw[HN.out],by rw[hsc.out,show r.node.name.isEmpty=false by simp[hne]];rfl,hbW6⟩
       case rest=>as_aux_lemma=>
        obtain⟨rfl,rfl,hbc2⟩:=hcut;clear x0 y0 y1 y2 y3 y4 y5 hszC hbwC;obtain⟨x0,y0,y1,y2,y3,y4,y5,hszC,hbbC2⟩:=boxes hbc2;have hbwC:Below w.heap.size w wc:=hbw.trans (hbbC2.mono hbw.size);clear hbc hbbC;obtain⟨wd2,rfl⟩:∃x:World,x=wc:=⟨_,rfl⟩;cases hs2:Hg.sc2 r;rotate_left
        ·have HF:=zz (HBAD.out (by rw[HS1.out,hs2];rfl))
         clear hs2;go_wp2;go_ret;exact⟨AU HF.out.symm,hbwC⟩
        have HS2:=zz hs2;clear hs2;go_upto_region 19 with fail
        go_cut [11,12] from 24 to 183 (fun nv tv wx=>nv= .bool (Hg.isNamed r.node.kind)∧tv= .bool (Hg.DK r.node.kind)∧wd2=wx)
        case first=>as_aux_lemma=>
         cases hnm:Hg.isNamed r.node.kind
         ·have hn:=zz (show Hg.DK r.node.kind=false by unfold Hg.DK;rw[hnm];rfl)
          have HN:=zz hnm;clear hnm;go_wp2
          go_meet
          case rel=>exact⟨by rw[HN.out],by rw[hn.out],rfl⟩
         ·by_cases k2:r.node.kind=2
          ·have hn:=zz (show Hg.DK r.node.kind=false by unfold Hg.DK;rw[k2];rfl)
           have q1:((r.node.kind:Int) !=2)=false:=by simp[k2]
           have HN:=zz hnm;clear hnm k2;go_wp2
           go_meet
           case rel=>exact⟨by rw[HN.out],by rw[hn.out],rfl⟩
          ·have hn:=zz (show Hg.DK r.node.kind=true by unfold Hg.DK;rw[hnm];simp[k2])
           have q1:((r.node.kind:Int) !=2)=true:=by simp;omega
           have HN:=zz hnm;clear hnm k2;go_wp2
           go_meet
           case rel=>exact⟨by rw[HN.out],by rw[hn.out],rfl⟩
        case rest=>
         obtain⟨rfl,rfl,rfl⟩:=hcut;go_upto_region 20 with fail
         go_cut [12,141] from 24 to 183 (fun nv tv wx=>nv= .bool (Hg.DK r.node.kind)∧tv= .bool (Hg.sc3 r)∧wd2=wx)
         case first=>as_aux_lemma=>
          cases hty:Hg.DK r.node.kind
          all_goals
           have HN:=zz hty;by_cases t1:r.node.type=1
           ·have hsc:=zz ((YK r t1).trans (congrArg not hty))
            have q1:((r.node.type:Int)==1)=true:=by simp[t1]
            clear hty t1;go_wp2
            go_meet
            case rel=>exact⟨by rw[HN.out],by rw[hsc.out] <;>rfl,rfl⟩
           have q1:((r.node.type:Int)==1)=false:=by simp;omega
           by_cases t2:r.node.type=2
           ·have hsc:=zz ((YJ r t2).trans (congrArg not hty))
            have q2:((r.node.type:Int)==2)=true:=by simp[t2]
            clear hty t1 t2;go_wp2
            go_meet
            case rel=>exact⟨by rw[HN.out],by rw[hsc.out] <;>rfl,rfl⟩
           have q2:((r.node.type:Int)==2)=false:=by simp;omega
           by_cases t0:r.node.type=0
           ·have hsc:=zz ((YL r t0).trans hty)
            have q3:((r.node.type:Int) !=0)=false:=by simp[t0]
            clear hty t1 t2 t0;go_wp2
            go_meet
            case rel=>exact⟨by rw[HN.out],by rw[hsc.out] <;>rfl,rfl⟩
           have q3:((r.node.type:Int) !=0)=true:=by simp;omega
           have hsc:=zz (YI r t0 t1 t2);clear hty t1 t2 t0;go_wp2
           go_meet
           case rel=>exact⟨by rw[HN.out],by rw[hsc.out] <;>rfl,rfl⟩
         case rest=>as_aux_lemma=>
          obtain⟨rfl,rfl,rfl⟩:=hcut;cases hs3:Hg.sc3 r;rotate_left
          ·have HF:=zz (HBAD.out (by rw[HS1.out,HS2.out,hs3];rfl))
           clear hs3;go_wp2;go_ret;exact⟨AU HF.out.symm,hbwC⟩
          have HS3:=zz hs3;clear hs3;have hBC:B≤wd2.heap.size:=Nat.le_trans hB hbwC.size;have hRC:=zz (hX.out.below hbwC hB);have T3:=zz ((TN r.node.ref wd2 hBC hRC.out).out);have hsc4:Hg.sc4 l r=(if r.node.kind=7∨r.node.kind=15 then decide ((Hg.AV l r.node.ref).kind≠4∧(Hg.AV l r.node.ref).kind≠6) else if r.node.kind=19 then decide ((Hg.AV l r.node.ref).kind≠3) else decide (r.node.ref≠0)):=rfl;have HSC4:=zz hsc4;clear hsc4;generalize Hg.AV l r.node.ref=nt at T3 HSC4
          go_upto_block 4 with(go_at_call 25;refine T3.out.mono ?_;rintro e w6 ⟨kx,cx,rfl,_,hb6⟩;have hbW6:=hbc2.trans (hb6.mono hbc2.size);clear x0 y0 y1 y2 y3 y4 y5;obtain⟨x0,y0,y1,y2,y3,y4,y5,_,hbb6⟩:=boxes hbW6)
          have hbw6:Below w.heap.size w w6:=hbw.trans (hbb6.mono hbw.size)
          go_cut [] from 24 to 183 (fun wx=>Hg.sc4 l r=false∧w6=wx)
          case first=>as_aux_lemma=>
           by_cases k7:r.node.kind=7
           ·have q7:((r.node.kind:Int)==7)=true:=by simp[k7]
            by_cases n4:nt.kind=4
            ·have p4:((nt.kind:Int) !=4)=false:=by simp[n4]
             have hsc:Hg.sc4 l r=false:=by rw[HSC4.out,if_pos (.inl k7),decide_eq_false (by omega)]
             have HSC:=zz hsc;clear hsc k7 n4;go_wp2
             go_meet
             case rel=>exact⟨HSC.out,rfl⟩
            have p4:((nt.kind:Int) !=4)=true:=by simp;omega
            by_cases n6:nt.kind=6
            ·have p6:((nt.kind:Int) !=6)=false:=by simp[n6]
             have hsc:Hg.sc4 l r=false:=by rw[HSC4.out,if_pos (.inl k7),decide_eq_false (by omega)]
             have HSC:=zz hsc;clear hsc k7 n4 n6;go_wp2
             go_meet
             case rel=>exact⟨HSC.out,rfl⟩
            have p6:((nt.kind:Int) !=6)=true:=by simp;omega
            have hsc:Hg.sc4 l r=true:=by rw[HSC4.out,if_pos (.inl k7),decide_eq_true ⟨n4,n6⟩]
            have HF:=zz (HBAD.out (by rw[HS1.out,HS2.out,HS3.out,hsc];rfl));clear hsc k7 n4 n6;go_wp2;go_ret;exact⟨AU HF.out.symm,hbw6⟩
           have q7:((r.node.kind:Int)==7)=false:=by simp;omega
           by_cases k15:r.node.kind=15
           ·have q15:((r.node.kind:Int)==15)=true:=by simp[k15]
            by_cases n4:nt.kind=4
            ·have p4:((nt.kind:Int) !=4)=false:=by simp[n4]
             have hsc:Hg.sc4 l r=false:=by rw[HSC4.out,if_pos (.inr k15),decide_eq_false (by omega)]
             have HSC:=zz hsc;clear hsc k7 k15 n4;go_wp2
             go_meet
             case rel=>exact⟨HSC.out,rfl⟩
            have p4:((nt.kind:Int) !=4)=true:=by simp;omega
            by_cases n6:nt.kind=6
            ·have p6:((nt.kind:Int) !=6)=false:=by simp[n6]
             have hsc:Hg.sc4 l r=false:=by rw[HSC4.out,if_pos (.inr k15),decide_eq_false (by omega)]
             have HSC:=zz hsc;clear hsc k7 k15 n4 n6;go_wp2
             go_meet
             case rel=>exact⟨HSC.out,rfl⟩
            have p6:((nt.kind:Int) !=6)=true:=by simp;omega
            have hsc:Hg.sc4 l r=true:=by rw[HSC4.out,if_pos (.inr k15),decide_eq_true ⟨n4,n6⟩]
            have HF:=zz (HBAD.out (by rw[HS1.out,HS2.out,HS3.out,hsc];rfl));clear hsc k7 k15 n4 n6;go_wp2;go_ret;exact⟨AU HF.out.symm,hbw6⟩
           have q15:((r.node.kind:Int)==15)=false:=by simp;omega
           by_cases k19:r.node.kind=19
           ·have q19:((r.node.kind:Int)==19)=true:=by simp[k19]
            by_cases n3:nt.kind=3
            ·have p3:((nt.kind:Int) !=3)=false:=by simp[n3]
             have hsc:Hg.sc4 l r=false:=by rw[HSC4.out,if_neg (by omega),if_pos k19,decide_eq_false (by omega)]
             have HSC:=zz hsc;clear hsc k7 k15 k19 n3;go_wp2
             go_meet
             case rel=>exact⟨HSC.out,rfl⟩
            have p3:((nt.kind:Int) !=3)=true:=by simp;omega
            have hsc:Hg.sc4 l r=true:=by rw[HSC4.out,if_neg (by omega),if_pos k19,decide_eq_true n3]
            have HF:=zz (HBAD.out (by rw[HS1.out,HS2.out,HS3.out,hsc];rfl));clear hsc k7 k15 k19 n3;go_wp2;go_ret;exact⟨AU HF.out.symm,hbw6⟩
           have q19:((r.node.kind:Int)==19)=false:=by simp;omega
           by_cases n0:r.node.ref=0
           ·have p0:((r.node.ref:Int) !=0)=false:=by simp[n0]
            have hsc:Hg.sc4 l r=false:=by rw[HSC4.out,if_neg (by omega),if_neg (by omega),decide_eq_false (by omega)]
            have HSC:=zz hsc;clear hsc k7 k15 k19 n0;go_wp2
            go_meet
            case rel=>exact⟨HSC.out,rfl⟩
           have p0:((r.node.ref:Int) !=0)=true:=by simp;omega
           have hsc:Hg.sc4 l r=true:=by rw[HSC4.out,if_neg (by omega),if_neg (by omega),decide_eq_true n0]
           have HF:=zz (HBAD.out (by rw[HS1.out,HS2.out,HS3.out,hsc];rfl));clear hsc k7 k15 k19 n0;go_wp2;go_ret;exact⟨AU HF.out.symm,hbw6⟩
          case rest=>
           obtain⟨hs4,rfl⟩:=hcut;have HS4:=zz hs4;clear hs4 HSC4 T3
           go_upto_block 5 with fail
           go_cut [14,15] from 24 to 183 (fun lv hv wx=>lv= .int .i64 (Hg.JK r.node.kind)∧hv= .int .i64 (Hg.Gb r.node.kind)∧w6=wx)
           case first=>as_aux_lemma=>
            obtain⟨l13,l14,l18,lo⟩:=Hg.Sj r.node.kind;by_cases k13:r.node.kind=13
            ·have HLH:=zz (l13 k13)
             have q1:((r.node.kind:Int)==13)=true:=by simp[k13]
             clear l13 l14 l18 lo k13;go_wp2
             go_meet
             case rel=>exact⟨by rw[HLH.out.1],by rw[HLH.out.2],rfl⟩
            have q1:((r.node.kind:Int)==13)=false:=by simp;omega
            by_cases k14:r.node.kind=14
            ·have HLH:=zz (l14 k14)
             have q2:((r.node.kind:Int)==14)=true:=by simp[k14]
             clear l13 l14 l18 lo k13 k14;go_wp2
             go_meet
             case rel=>exact⟨by rw[HLH.out.1],by rw[HLH.out.2],rfl⟩
            have q2:((r.node.kind:Int)==14)=false:=by simp;omega
            by_cases k18:r.node.kind=18
            ·have HLH:=zz (l18 k18)
             have q3:((r.node.kind:Int)==18)=true:=by simp[k18]
             clear l13 l14 l18 lo k13 k14 k18;go_wp2
             go_meet
             case rel=>exact⟨by rw[HLH.out.1],by rw[HLH.out.2],rfl⟩
            have q3:((r.node.kind:Int)==18)=false:=by simp;omega
            have HLH:=zz (lo ⟨k13,k14,k18⟩);clear l13 l14 l18 lo k13 k14 k18;go_wp2
            go_meet
            case rel=>exact⟨by rw[HLH.out.1],by rw[HLH.out.2],rfl⟩
           case rest=>
            obtain⟨rfl,rfl,rfl⟩:=hcut;by_cases m1:r.node.num < Hg.JK r.node.kind
            ·have HF:=zz (HBAD.out (by rw[HS1.out,HS2.out,HS3.out,HS4.out,show Hg.sc5 r=true from decide_eq_true (.inl m1)];rfl))
             have q1:decide (r.node.num < Hg.JK r.node.kind)=true:=decide_eq_true m1;clear m1;go_wp2;go_ret;exact⟨AU HF.out.symm,hbw6⟩
            have q1:decide (r.node.num < Hg.JK r.node.kind)=false:=decide_eq_false m1;by_cases m2:Hg.Gb r.node.kind < r.node.num
            ·have HF:=zz (HBAD.out (by rw[HS1.out,HS2.out,HS3.out,HS4.out,show Hg.sc5 r=true from decide_eq_true (.inr m2)];rfl))
             have q2:decide (Hg.Gb r.node.kind < r.node.num)=true:=decide_eq_true m2;clear m1 m2;go_wp2;go_ret;exact⟨AU HF.out.symm,hbw6⟩
            have q2:decide (Hg.Gb r.node.kind < r.node.num)=false:=decide_eq_false m2;have HN:=zz (HGOOD.out (by rw[HS1.out,HS2.out,HS3.out,HS4.out,show Hg.sc5 r=false from decide_eq_false (by omega)];rfl));clear m1 m2;go_wp2;go_roundw
            case rel=>
             first
             |exact⟨i+1,by go_num,by omega,HN.out,hbw6⟩
             | (repeat apply Exists.intro
                refine And.intro ?aa ?bb
                case bb=>repeat' first|exact rfl|apply And.intro
                case aa=>exact⟨i+1,by go_num,by omega,HN.out,hbw6⟩)
            case measure=>simp[intOf];omega
  ·obtain rfl:i=l.length:=by omega
   have hsd:Hg.Cr l l=some b:=by
    have h1:=HG.out;rw[List.drop_length,Hg.Ck] at h1;have h2:=HSH.out;rw[if_neg (by rw[←h1];simp)] at h2;exact h2
   have HSD:=zz hsd;have hI:=hbw;clear hsd HG HSH hlt;go_wp2_with fail
   go_loopw [186] (fun q wr=>∃(i:Nat),q= .int .i64 i∧i≤l.length∧Hg.Cr l (l.drop i)=some b∧Below w.heap.size w wr) (fun q _=>l.length-(intOf q).toNat)
   case atStart=>exact⟨0,rfl,Nat.zero_le _,HSD.out,hI⟩
   case round=>
    obtain⟨i,rfl,hi,hg,hbw⟩:=hrel;have HG:=zz hg;clear hg hI HSD;by_cases hlt:i < l.length
    ·have hri:l[i]? =some l[i]:=List.getElem?_eq_getElem hlt
     obtain⟨br,orr,ki,kci,rfl,_,_,d0,d1,d2,d3,d4,d5,d6⟩:=(hX.out.below hbw hB).at_ hri;have hstep:Hg.Cr l (l[i]::l.drop (i+1))=some b:=by rw[←List.drop_eq_getElem_cons hlt];exact HG.out
     rw[Hg.Cr] at hstep;clear hri HG;generalize l[i]=r at d0 d1 d2 d3 d4 d5 d6 hstep;have hbx:Below w.heap.size w (wr.alloc (Cy r ki kci)):=hbw.alloc hbw.size _;have hBw:B≤(wr.alloc (Cy r ki kci)).heap.size:=Nat.le_trans hB hbx.size;by_cases k3:r.node.kind=3
     ·rw[if_pos k3] at hstep
      have q1:((r.node.kind:Int)==3)=true:=by simp[k3]
      cases hd:Hg.ES l 201 r.id with
      |none=>rw[hd] at hstep;cases hstep
      |some d=>
        rw[hd] at hstep;dsimp only at hstep;have hdl:=Ky l 201 r.id d hd;have TD:=zz (Qk B _ l hlen HL.out.WR 201 r.id d (wr.alloc (Cy r ki kci)) (by omega) hBw (hX.out.below hbx hB) hd);by_cases h9:90 < d
        ·rw[if_pos h9] at hstep
         injection hstep with hstep;have HF:=zz hstep;have q2:decide ((90:Int) < (d:Int))=true:=by simp;omega
         clear hstep h9 k3 hd
         go_wp2_with (go_at_call 30;refine TD.out.mono ?_;rintro e w6 ⟨rfl,hb6⟩)
         go_ret;exact⟨AU HF.out,hbx.trans (hb6.mono hbx.size)⟩
        ·rw[if_neg h9] at hstep
         have HF:=zz hstep;have q2:decide ((90:Int) < (d:Int))=false:=by simp;omega
         clear hstep h9 k3 hd
         go_wp2_with (go_at_call 30;refine TD.out.mono ?_;rintro e w6 ⟨rfl,hb6⟩)
         go_roundw
         case rel=>exact⟨i+1,by go_num,by omega,HF.out,hbx.trans (hb6.mono hbx.size)⟩
         case measure=>simp[intOf];omega
     ·rw[if_neg k3] at hstep
      have HF:=zz hstep;have q1:((r.node.kind:Int)==3)=false:=by simp;omega
      clear hstep k3;go_wp2;go_roundw
      case rel=>exact⟨i+1,by go_num,by omega,HF.out,hbx⟩
      case measure=>simp[intOf];omega
    ·obtain rfl:i=l.length:=by omega
     have hbt:true=b:=by
      have h1:=HG.out;rw[List.drop_length,Hg.Cr] at h1;injection h1
     have HF:=zz hbt;clear hbt HG;go_wp2;go_ret;exact⟨AU HF.out,hbw⟩
end Go.Proofs.YtljmibnfmilfbaaGreatDoor
