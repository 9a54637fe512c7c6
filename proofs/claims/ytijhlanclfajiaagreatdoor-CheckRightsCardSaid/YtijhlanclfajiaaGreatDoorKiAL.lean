/-
  A part of the proof.
-/
import Derived.Test.YtijhlanclfajiaaGreatDoorKiAI
import Derived.BigQuiet
import Derived.Deep.CutRange
set_option linter.all false
set_option maxHeartbeats 32000000
set_option maxRecDepth 100000
namespace Go.Proofs.YtijhlanclfajiaaGreatDoor
open Go.RowKit
theorem any_take_succ{α:Type}(l:List α)(p:α→Bool)(k:Nat)(h:k < l.length):(l.take (k+1)).any p=((l.take k).any p||p l[k]):=by
 rw[List.take_succ_eq_append_getElem h,List.any_append];simp
theorem ZO(a b:UInt8):(((a.toNat:Int)==(b.toNat:Int)):Bool)=(a==b):=by
 rw[Bool.eq_iff_iff];simp only[beq_iff_eq];constructor
 ·intro h;exact UInt8.toNat_inj.1 (by omega)
 ·intro h;rw[h]
theorem Bl(s letters:List UInt8)(hs:s.length≤1000000000)(hl:letters.length≤1000)(w:World):
 Calls Tryz.prog 115 #[.string ⟨s.toArray⟩,.string ⟨letters.toArray⟩] w fun e w'=>e= .returned (.bool (Hg.only s letters))∧Below w.heap.size w w':=by
 go_enter Tryz.func115,Tryz.ntmps115;go_wp2
 go_loopw [5] (fun i wr=>∃k:Nat,k≤s.length∧i= .int .i64 k∧(∀j,j < k→(hj:j < s.length)→letters.any (fun x=>s[j]==x)=true)∧Below w.heap.size w wr) (fun i _=>s.length-(intOf i).toNat)
 case atStart=>exact⟨0,by omega,rfl,fun j hj=>by omega,AP⟩
 case round=>
  obtain⟨k,hk,rfl,hno,hb⟩:=hrel;have HN:=zz hno;clear hno;by_cases hlt:k < s.length
  ·obtain⟨wo,rfl⟩:∃wo:World,wo=wr:=⟨_,rfl⟩
   go_wp2
   go_loopw [6,7] (fun ok i wr=>∃m:Nat,m≤letters.length∧i= .int .i64 m∧ok= .bool ((letters.take m).any (fun x=>s[k]==x))∧Below w.heap.size w wr) (fun _ i _=>letters.length-(intOf i).toNat)
   case atStart=>exact⟨0,by omega,rfl,rfl,hb⟩
   case round=>
    obtain⟨m,hm,rfl,rfl,hb2⟩:=hrel;by_cases hml:m < letters.length
    ·have hst:=zz (any_take_succ letters (fun x=>s[k]==x) m hml)
     have q1:(0:Int)≤(k:Int):=by omega
     have q2:(k:Int) < (s.length:Int):=by omega
     have q3:(0:Int)≤(m:Int):=by omega
     have q4:(m:Int) < (letters.length:Int):=by omega
     have hu:=ZO s[k] letters[m];cases hok:(letters.take m).any (fun x=>s[k]==x)
     ·rw[hok] at hst
      cases hx:(s[k]==letters[m])
      all_goals
       rw[hx] at hu;rw[hx] at hst;clear hok hx;go_upto_region 8 with fail
       go_quiet (fail)
       go_wp2;go_roundw
       case rel=>exact⟨m+1,by omega,by go_num,by rw[hst.out];rfl,below_drewN hb2 _⟩
       case measure=>simp[intOf];omega
     ·rw[hok] at hst
      clear hok hu;go_upto_region 8 with fail
      go_quiet (fail)
      go_wp2;go_roundw
      case rel=>exact⟨m+1,by omega,by go_num,by rw[hst.out];rfl,below_drewN hb2 _⟩
      case measure=>simp[intOf];omega
    ·obtain rfl:m=letters.length:=by omega
     rw[List.take_length];cases hok:letters.any (fun x=>s[k]==x)
     ·have hfin:=zz (show Hg.only s letters=false from MU s _ k hlt hok)
      clear hok;go_wp2;go_ret;exact⟨AQ hfin.out.symm,hb2⟩
     ·have HO:=zz hok
      clear hok;go_wp2;go_roundw
      case rel=>exact⟨k+1,by omega,by go_num,fun j hj hj2=>by
       by_cases e:j=k
       ·subst e;exact HO.out
       ·exact HN.out j (by omega) hj2,hb2⟩
      case measure=>simp[intOf];omega
  ·obtain rfl:k=s.length:=by omega
   have hfin:=zz (show Hg.only s letters=true from Im s _ fun j hj=>HN.out j hj hj);go_wp2;go_ret;exact⟨AQ hfin.out.symm,hb⟩
theorem Ow(D:Nat→Nat)(n:Nat)(hD:∀k,D k≤n):∀(ks:List Nat) (m:Nat),m≤n→Hg.Ew D ks m≤n+1
 |[],m,h=>by rw[Hg.Ew];omega
 |k::ks,m,h=>by
   rw[Hg.Ew];split
   ·omega
   ·exact Ow D n hD ks _ (by have:=hD k;omega)
theorem Nf(l:List Hg.Row):∀(n id:Nat),Hg.CQ l n id≤n
 |0,id=>by simp[Hg.CQ]
 |n+1,id=>by rw[Hg.CQ];exact Ow _ n (Nf l n) _ _ (Nat.zero_le _)
theorem VS(B:Nat)(v:Value)(l:List Hg.Row)(hl:l.length≤1000000000)(h0:0 < l.length)(hkl:∀(j:Nat) (r:Hg.Row),l[j]? =some r→r.node.kids.length≤1000000000):
 ∀(n:Nat) (id:Nat) (w:World),n≤200→B≤w.heap.size→Aw w B v l→
   Calls Tryz.prog 113 #[v,.int .u64 (id:Int),.int .i64 (n:Int)] w fun e w'=>e= .returned (.int .i64 (Hg.CQ l n id))∧Below w.heap.size w w':=by
 intro n
 induction n with
 |zero=>
   intro id w _ hB hx;clear hx hkl;go_enter Tryz.func113,Tryz.ntmps113;go_wp2;go_ret;exact⟨rfl,AP⟩
 |succ n ih=>
   intro id w hn hB hx;have IH:=fun id w hB hx=>zz (ih id w (by omega) hB hx);clear ih;have hX:=zz hx;have HKL:=zz hkl;obtain⟨a,c,rfl⟩:=hx.form;clear hx hkl;have hk0:(Hg.atI l id).getD 0 < l.length:=by
    cases h:Hg.atI l id with
    |none=>exact h0
    |some k=>exact(Af.1 (D6 h)).1
   have hkl:=HKL.out ((Hg.atI l id).getD 0) (Hg.rowAt l ((Hg.atI l id).getD 0)) (by simp[Hg.rowAt,hk0]);have hfold:Hg.Ew (Hg.CQ l n) (Hg.rowAt l ((Hg.atI l id).getD 0)).node.kids 0=Hg.CQ l (n+1) id:=rfl;have HF:=zz hfold;have hq:((n:Int)+1==0)=false:=by simp;omega
   clear hfold;go_enter Tryz.func113,Tryz.ntmps113;go_upto_region 4 with fail
   go_cut [21,22,23] from 11 (fun s p i wx=>∃ka kc,s= .slice ka (Hg.rowAt l ((Hg.atI l id).getD 0)).node.kids.length kc∧p= .int .i64 (Hg.rowAt l ((Hg.atI l id).getD 0)).node.kids.length∧i= .int .i64 0∧
    Sl wx B (.slice ka (Hg.rowAt l ((Hg.atI l id).getD 0)).node.kids.length kc) (Hg.rowAt l ((Hg.atI l id).getD 0)).node.kids.length ((Hg.rowAt l ((Hg.atI l id).getD 0)).node.kids.map idV)∧Below w.heap.size w wx)
   case first=>
    clear IH HF;cases h:Hg.atI l id with
    |none=>
      have HA:=zz (De h);have E:=zz (show(Hg.atI l id).getD 0=0 by rw[h];rfl);have hr0:=zz (show l[0]? =some (Hg.rowAt l 0) by simp[Hg.rowAt,h0]);clear h hkl
      go_wp2_with (go_at_call 111;refine(DV B _ l id _ hB hX.out hl).mono ?_;rintro e w1 ⟨rfl,hb⟩;rw[HA.out];obtain⟨b,o,ka,kc,rfl,hbB,hkid,_,_,_,_,_,_,d6⟩:=(hX.out.below hb hB).at_ hr0.out;have HK:=zz hkid;have d7:w1.cell? ⟨b,o+1+5,none⟩=some (.slice ka (Hg.rowAt l 0).node.kids.length kc):=((congrArg (fun z=>w1.cell? ⟨b,z,none⟩) (by omega)).trans d6);clear hkid d6)
      go_meet
      case rel=>rw[E.out];exact⟨_,_,rfl,rfl,rfl,HK.out,hb⟩
    |some k=>
      have HA:=zz (Dc h);have E:=zz (show(Hg.atI l id).getD 0=k by rw[h];rfl);have hr0:=zz (D6 h);have hk0':k < l.length:=(Af.1 (D6 h)).1;clear h hkl
      go_wp2_with (go_at_call 111;refine(DV B _ l id _ hB hX.out hl).mono ?_;rintro e w1 ⟨rfl,hb⟩;rw[HA.out];obtain⟨b,o,ka,kc,rfl,hbB,hkid,_,_,_,_,_,_,d6⟩:=(hX.out.below hb hB).at_ hr0.out;have HK:=zz hkid;have d7:w1.cell? ⟨b,o+k*7+1+5,none⟩=some (.slice ka (Hg.rowAt l k).node.kids.length kc):=d6;clear hkid d6)
      go_meet
      case rel=>rw[E.out];exact⟨_,_,rfl,rfl,rfl,HK.out,hb⟩
   case rest=>
    obtain⟨ka,kc,rfl,rfl,rfl,hkid,hb⟩:=hcut;have HK:=zz hkid;clear hkid hk0;generalize(Hg.rowAt l ((Hg.atI l id).getD 0)).node.kids=ks at hkl HF HK;have HD:=fun k=>Nf l n k;have HDh:=zz HD;clear HD;go_wp2
    go_loopw [7,23] (fun p i wr=>∃(m most:Nat),i= .int .i64 m∧m≤ks.length∧p= .int .i64 most∧most≤n∧Hg.Ew (Hg.CQ l n) (ks.drop m) most=Hg.CQ l (n+1) id∧Below w.heap.size w wr∧Below wc.heap.size wc wr) (fun _ i _=>ks.length-(intOf i).toNat)
    case atStart=>exact⟨0,0,rfl,Nat.zero_le _,rfl,Nat.zero_le _,HF.out,hb,AP⟩
    case round=>
     obtain⟨m,most,rfl,hm,rfl,hmo,hg,hbr,hbc⟩:=hrel;have HG:=zz hg;have hb':=hb;clear hg HF hb;by_cases hlt:m < ks.length
     ·have hBc:B≤wc.heap.size:=AO hB hb'.size
      obtain⟨b2,o2,rfl,_,kc2⟩:=(HK.out.below hbc hBc).idAt hlt;have hstep:Hg.Ew (Hg.CQ l n) (ks[m]::ks.drop (m+1)) most=Hg.CQ l (n+1) id:=by rw[←Au hlt];exact HG.out
      rw[Hg.Ew] at hstep;have hle:=HDh.out ks[m];generalize ks[m]=x at kc2 hstep hle;have T:=fun W h1 h2=>IH x W h1 h2;generalize Hg.CQ l n x=d at T hstep hle;have hB2:B≤wr.heap.size:=AO hB hbr.size;have hq2:(n:Int)+1-1=(n:Int):=by omega
      by_cases hd0:d=0
      ·rw[if_pos hd0] at hstep
       have HS:=zz hstep;have hd:((d:Int)==0)=true:=by simp[hd0]
       clear hstep hd0
       go_wp2_with (go_at_call 113;refine((T _ hB2 (hX.out.below hbr hB)).out).mono ?_;rintro e w2 ⟨rfl,hb2⟩)
       go_ret;exact⟨by rw[←HS.out];rfl,hbr.trans (hb2.mono hbr.size)⟩
      ·rw[if_neg hd0] at hstep
       have hd:((d:Int)==0)=false:=by simp;omega
       clear hd0;by_cases hmx:most < d
       ·rw[show max most d=d by omega] at hstep
        have HS:=zz hstep;clear hstep
        go_wp2_with (go_at_call 113;refine((T _ hB2 (hX.out.below hbr hB)).out).mono ?_;rintro e w2 ⟨rfl,hb2⟩)
        go_roundw
        case rel=>
         repeat apply Exists.intro
         refine And.intro ?a1 ?b1
         case b1=>repeat' first|exact rfl|apply And.intro
         case a1=>exact⟨m+1,d,by go_num,by omega,rfl,hle,HS.out,hbr.trans (hb2.mono hbr.size),hbc.trans (hb2.mono hbc.size)⟩
        case measure=>simp[intOf];omega
       ·rw[show max most d=most by omega] at hstep
        have HS:=zz hstep;clear hstep
        go_wp2_with (go_at_call 113;refine((T _ hB2 (hX.out.below hbr hB)).out).mono ?_;rintro e w2 ⟨rfl,hb2⟩)
        go_roundw
        case rel=>
         repeat apply Exists.intro
         refine And.intro ?a2 ?b2
         case b2=>repeat' first|exact rfl|apply And.intro
         case a2=>exact⟨m+1,most,by go_num,by omega,rfl,hmo,HS.out,hbr.trans (hb2.mono hbr.size),hbc.trans (hb2.mono hbc.size)⟩
        case measure=>simp[intOf];omega
     ·obtain rfl:m=ks.length:=by omega
      have hfin:=zz (show Hg.CQ l (n+1) id=most+1 by rw[←HG.out,List.drop_length];rfl);go_wp2;go_ret;exact⟨by rw[hfin.out];rfl,hbr⟩
theorem VH(k:Nat)(h:k=0∨k=4∨k=13∨k=14∨k=15∨20≤k)(s:List UInt8)(b:Bool):Hg.fits k s b=decide (s.length=0):=by
 unfold Hg.fits
 repeat (rw[if_neg (by omega)])
theorem SY(k:Nat)(hk:k≤255)(s:List UInt8)(hs:s.length≤1000000000)(body:Bool)(w:World):
 Calls Tryz.prog 63 #[.int .u8 (k:Int),.string ⟨s.toArray⟩,.bool body] w fun e w'=>e= .returned (.bool (Hg.fits k s body))∧Below w.heap.size w w':=by
 have hc:k=1∨k=2∨k=3∨k=5∨k=6∨k=7∨k=8∨k=9∨k=10∨k=11∨k=12∨k=16∨k=17∨k=18∨k=19∨(k=0∨k=4∨k=13∨k=14∨k=15∨20≤k):=by omega
 have e1:List.take (s.length-(s.length-1)) (List.drop (s.length-1) s)=List.drop (s.length-1) s:=List.take_of_length_le (by simp);have e2:List.take (s.length-1) s.tail=s.tail:=List.take_of_length_le (by simp);have E1:=zz e1;have E2:=zz e2;clear e1 e2;rcases hc with rfl|rfl|rfl|rfl|rfl|rfl|rfl|rfl|rfl|rfl|rfl|rfl|rfl|rfl|rfl|hx
 ·go_enter Tryz.func63,Tryz.ntmps63
  go_wp2_with (go_at_call 115;refine(Bl _ [77] (by first|omega|(simp;omega)) (by decide) _).mono ?_;rintro e w1 ⟨rfl,hb⟩)
  go_ret;exact⟨rfl,hb⟩
 ·go_enter Tryz.func63,Tryz.ntmps63
  go_wp2_with (go_at_call 115;refine(Bl _ [70] (by first|omega|(simp;omega)) (by decide) _).mono ?_;rintro e w1 ⟨rfl,hb⟩)
  go_ret;exact⟨rfl,hb⟩
 ·go_enter Tryz.func63,Tryz.ntmps63
  go_wp2_with (go_at_call 115;refine(Bl _ [80] (by first|omega|(simp;omega)) (by decide) _).mono ?_;rintro e w1 ⟨rfl,hb⟩)
  all_goals
   go_ret;refine⟨AQ ?_,by first|exact AP|exact hb⟩;by_cases hn:0 < s.length
   all_goals first|(exfalso;omega)|(simp[Hg.fits,hn,E1.out,E2.out, *];done)|(simp[Hg.fits,E1.out,E2.out, *];done)|(simp[Hg.fits,hn, *];rw[List.take_of_length_le (by simp;omega)])
 ·cases body
  ·go_enter Tryz.func63,Tryz.ntmps63
   go_wp2_with (go_at_call 115;refine(Bl _ [83] (by first|omega|(simp;omega)) (by decide) _).mono ?_;rintro e w1 ⟨rfl,hb⟩)
   go_ret;exact⟨rfl,hb⟩
  ·go_enter Tryz.func63,Tryz.ntmps63
   go_wp2_with (go_at_call 115;refine(Bl _ [83] (by first|omega|(simp;omega)) (by decide) _).mono ?_;rintro e w1 ⟨rfl,hb⟩)
   all_goals
    go_ret;refine⟨AQ ?_,by first|exact AP|exact hb⟩;by_cases hn:0 < s.length
    all_goals first|(exfalso;omega)|(simp[Hg.fits,hn,E1.out,E2.out, *];done)|(simp[Hg.fits,E1.out,E2.out, *];done)|(simp[Hg.fits,hn, *];rw[List.take_of_length_le (by simp;omega)])
 ·go_enter Tryz.func63,Tryz.ntmps63
  go_wp2_with (go_at_call 115;refine(Bl _ [69,67] (by first|omega|(simp;omega)) (by decide) _).mono ?_;rintro e w1 ⟨rfl,hb⟩)
  all_goals
   go_ret;refine⟨AQ ?_,by first|exact AP|exact hb⟩;by_cases hn:s.length=1
   all_goals first|(exfalso;omega)|(simp[Hg.fits,hn,E1.out,E2.out, *];done)|(simp[Hg.fits,E1.out,E2.out, *];done)|(simp[Hg.fits,hn, *];rw[List.take_of_length_le (by simp;omega)])
 ·go_enter Tryz.func63,Tryz.ntmps63
  go_wp2_with (go_at_call 115;refine(Bl _ [69,67] (by first|omega|(simp;omega)) (by decide) _).mono ?_;rintro e w1 ⟨rfl,hb⟩)
  all_goals
   go_ret;refine⟨AQ ?_,by first|exact AP|exact hb⟩;by_cases hn:s.length=1
   all_goals first|(exfalso;omega)|(simp[Hg.fits,hn,E1.out,E2.out, *];done)|(simp[Hg.fits,E1.out,E2.out, *];done)|(simp[Hg.fits,hn, *];rw[List.take_of_length_le (by simp;omega)])
 ·go_enter Tryz.func63,Tryz.ntmps63
  go_wp2_with (go_at_call 115;refine(Bl _ [69,67] (by first|omega|(simp;omega)) (by decide) _).mono ?_;rintro e w1 ⟨rfl,hb⟩)
  all_goals
   go_ret;refine⟨AQ ?_,by first|exact AP|exact hb⟩;by_cases hn:s.length=3
   all_goals first|(exfalso;omega)|(simp[Hg.fits,hn,E1.out,E2.out, *];done)|(simp[Hg.fits,E1.out,E2.out, *];done)|(simp[Hg.fits,hn, *];rw[List.take_of_length_le (by simp;omega)])
 ·go_enter Tryz.func63,Tryz.ntmps63
  go_wp2_with (go_at_call 115;refine(Bl _ [69,67] (by first|omega|(simp;omega)) (by decide) _).mono ?_;rintro e w1 ⟨rfl,hb⟩)
  all_goals
   go_ret;refine⟨AQ ?_,by first|exact AP|exact hb⟩;by_cases hn:s.length=2
   all_goals first|(exfalso;omega)|(simp[Hg.fits,hn,E1.out,E2.out, *];done)|(simp[Hg.fits,E1.out,E2.out, *];done)|(simp[Hg.fits,hn, *];rw[List.take_of_length_le (by simp;omega)])
 ·go_enter Tryz.func63,Tryz.ntmps63
  go_wp2_with (go_at_call 115;refine(Bl _ [69,67] (by first|omega|(simp;omega)) (by decide) _).mono ?_;rintro e w1 ⟨rfl,hb⟩)
  all_goals
   go_ret;refine⟨AQ ?_,by first|exact AP|exact hb⟩;by_cases hn:s.length=1
   all_goals first|(exfalso;omega)|(simp[Hg.fits,hn,E1.out,E2.out, *];done)|(simp[Hg.fits,E1.out,E2.out, *];done)|(simp[Hg.fits,hn, *];rw[List.take_of_length_le (by simp;omega)])
 ·go_enter Tryz.func63,Tryz.ntmps63
  go_wp2_with (go_at_call 115;refine(Bl _ [69,67] (by first|omega|(simp;omega)) (by decide) _).mono ?_;rintro e w1 ⟨rfl,hb⟩)
  all_goals
   go_ret;refine⟨AQ ?_,by first|exact AP|exact hb⟩;by_cases hn:s.length=1
   all_goals first|(exfalso;omega)|(simp[Hg.fits,hn,E1.out,E2.out, *];done)|(simp[Hg.fits,E1.out,E2.out, *];done)|(simp[Hg.fits,hn, *];rw[List.take_of_length_le (by simp;omega)])
 ·go_enter Tryz.func63,Tryz.ntmps63
  go_wp2;go_ret;exact⟨rfl,AP⟩
 ·go_enter Tryz.func63,Tryz.ntmps63
  go_wp2_with (go_at_call 115;refine(Bl _ [69,67] (by first|omega|(simp;omega)) (by decide) _).mono ?_;rintro e w1 ⟨rfl,hb⟩)
  all_goals
   go_ret;refine⟨AQ ?_,by first|exact AP|exact hb⟩;by_cases hn:s.length=1
   all_goals first|(exfalso;omega)|(simp[Hg.fits,hn,E1.out,E2.out, *];done)|(simp[Hg.fits,E1.out,E2.out, *];done)|(simp[Hg.fits,hn, *];rw[List.take_of_length_le (by simp;omega)])
 ·go_enter Tryz.func63,Tryz.ntmps63
  go_wp2_with (go_at_call 115;refine(Bl _ [69,67] (by first|omega|(simp;omega)) (by decide) _).mono ?_;rintro e w1 ⟨rfl,hb⟩)
  all_goals
   go_ret;refine⟨AQ ?_,by first|exact AP|exact hb⟩;by_cases hn:s.length=1
   all_goals first|(exfalso;omega)|(simp[Hg.fits,hn,E1.out,E2.out, *];done)|(simp[Hg.fits,E1.out,E2.out, *];done)|(simp[Hg.fits,hn, *];rw[List.take_of_length_le (by simp;omega)])
 ·go_enter Tryz.func63,Tryz.ntmps63
  go_wp2_with (go_at_call 115;refine(Bl _ [69,67] (by first|omega|(simp;omega)) (by decide) _).mono ?_;rintro e w1 ⟨rfl,hb⟩)
  all_goals
   go_ret;refine⟨AQ ?_,by first|exact AP|exact hb⟩;by_cases hn:s.length=2
   all_goals first|(exfalso;omega)|(simp[Hg.fits,hn,E1.out,E2.out, *];done)|(simp[Hg.fits,E1.out,E2.out, *];done)|(simp[Hg.fits,hn, *];rw[List.take_of_length_le (by simp;omega)])
 ·go_enter Tryz.func63,Tryz.ntmps63
  go_wp2_with (go_at_call 115;refine(Bl _ [69,67] (by first|omega|(simp;omega)) (by decide) _).mono ?_;rintro e w1 ⟨rfl,hb⟩)
  go_ret;exact⟨rfl,hb⟩
 ·have hf:=zz (VH k hx s body)
  rcases hx with rfl|rfl|rfl|rfl|rfl|hx
  all_goals
   go_enter Tryz.func63,Tryz.ntmps63;go_wp2
   all_goals
    go_ret;refine⟨AQ ?_,AP⟩;rw[hf.out];by_cases hn:s.length=0
    ·rw[hn];rfl
    ·rw[decide_eq_false hn];simp only[beq_eq_false_iff_ne];omega
theorem Nb(l:List Hg.Row)(D:Nat→Option Nat)(kind n:Nat)(hD:∀k d,D k=some d→d≤n):∀(ks:List Nat) (m r:Nat),m≤n+1→Hg.Db l D kind ks m=some r→r≤n+2
 |[],m,r,hm,h=>by
   rw[Hg.Db] at h;injection h with h;subst h;split <;>omega
 |k::ks,m,r,hm,h=>by
   rw[Hg.Db] at h;cases hd:D k with
   |none=>rw[hd] at h;cases h
   |some d=>
     rw[hd] at h;have:=hD k d hd;exact Nb l D kind n hD ks _ r (by split <;>omega) h
theorem LQ(l:List Hg.Row):∀(n id d:Nat),Hg.DU l n id=some d→d≤2*n
 |0,id,d,h=>by simp[Hg.DU] at h
 |n+1,id,d,h=>by
   rw[Hg.DU] at h;have:=Nb l _ _ (2*n) (fun k d h=>LQ l n k d h) _ _ _ (Nat.zero_le _) h;omega
theorem RI(B:Nat)(v:Value)(l:List Hg.Row)(hl:l.length≤1000000000)(hkl:∀(j:Nat) (r:Hg.Row),l[j]? =some r→r.node.kids.length≤1000000000):
 ∀(f:Nat) (id d:Nat) (w:World),f≤1000→B≤w.heap.size→Aw w B v l→Hg.DU l f id=some d→
   Calls Tryz.prog 66 #[v,.int .u64 (id:Int)] w fun e w'=>e= .returned (.int .i64 (d:Int))∧Below w.heap.size w w':=by
 intro f
 induction f with
 |zero=>intro id d w _ _ _ h;simp[Hg.DU] at h
 |succ f ih=>
   intro id d w hf hB hx hd;have IH:=fun id d w hB hx h=>zz (ih id d w (by omega) hB hx h);have IHh:=zz IH;clear ih IH;have hX:=zz hx;have hkn:(Hg.AL l id).kids.length≤1000000000:=by
    cases h:Hg.atI l id with
    |none=>rw[Hg.Cw l id h];simp[Hg.Node.zero]
    |some k=>rw[Hg.DR l id k h];exact hkl k _ (D6 h)
   obtain⟨a,c,rfl⟩:=hx.form;clear hx hkl;rw[Hg.DU] at hd;unfold Hg.kindOf at hd;have HD:=zz hd;clear hd;have TN:=zz (Jf B (.slice a l.length c) l id w hB hX.out hl);generalize Hg.AL l id=nd at hkn HD TN;go_enter Tryz.func66,Tryz.ntmps66
   go_wp2_with (go_at_call 61;refine TN.out.mono ?_;rintro e w1 ⟨ka,kc,rfl,hkid,hb⟩;have HK:=zz hkid;clear hkid)
   have hbox:Below (w1.alloc (.cells #[.int .u8 (nd.kind:Int),strV nd.name,.int .i64 nd.num,.int .u8 (nd.type:Int),.int .u64 (nd.ref:Int),.slice ka nd.kids.length kc] 44)).heap.size (w1.alloc (.cells #[.int .u8 (nd.kind:Int),strV nd.name,.int .i64 nd.num,.int .u8 (nd.type:Int),.int .u64 (nd.ref:Int),.slice ka nd.kids.length kc] 44)) (w1.alloc (.cells #[.int .u8 (nd.kind:Int),strV nd.name,.int .i64 nd.num,.int .u8 (nd.type:Int),.int .u64 (nd.ref:Int),.slice ka nd.kids.length kc] 44)):=AP
   go_loopw [6,16] (fun p i wr=>∃(m most:Nat),i= .int .i64 m∧m≤nd.kids.length∧p= .int .i64 most∧most≤2*f+1∧Hg.Db l (Hg.DU l f) nd.kind (nd.kids.drop m) most=some d∧Below (w1.alloc (.cells #[.int .u8 (nd.kind:Int),strV nd.name,.int .i64 nd.num,.int .u8 (nd.type:Int),.int .u64 (nd.ref:Int),.slice ka nd.kids.length kc] 44)).heap.size (w1.alloc (.cells #[.int .u8 (nd.kind:Int),strV nd.name,.int .i64 nd.num,.int .u8 (nd.type:Int),.int .u64 (nd.ref:Int),.slice ka nd.kids.length kc] 44)) wr) (fun _ i _=>nd.kids.length-(intOf i).toNat)
   case atStart=>exact⟨0,0,rfl,Nat.zero_le _,rfl,Nat.zero_le _,HD.out,hbox⟩
   case round=>
    obtain⟨m,most,rfl,hm,rfl,hmo,hg,hbr⟩:=hrel;have HG:=zz hg;clear hg HD hbox;obtain⟨⟨k0,k1,k2,k3,k4,k5⟩,_,hsz,hbb⟩:=box6 hbr;have hBw:B≤w1.heap.size:=AO hB hb.size;have hbw:Below w.heap.size w wr:=hb.trans (hbb.mono hb.size);by_cases hlt:m < nd.kids.length
    ·obtain⟨b2,o2,rfl,_,kc2⟩:=(HK.out.below hbb hBw).idAt hlt
     have hstep:Hg.Db l (Hg.DU l f) nd.kind (nd.kids[m]::nd.kids.drop (m+1)) most=some d:=by rw[←Au hlt];exact HG.out
     rw[Hg.Db] at hstep;generalize nd.kids[m]=x at kc2 hstep;cases hdx:Hg.DU l f x with
     |none=>rw[hdx] at hstep;cases hstep
     |some dx=>
       rw[hdx] at hstep;dsimp only at hstep;have hle:=LQ l f x dx hdx;have hB2:B≤wr.heap.size:=AO hB hbw.size;have T:=fun W h1 h2=>IHh.out x dx W h1 h2 hdx;have TNx:=fun W h1 h2=>zz (Jf B (.slice a l.length c) l x W h1 h2 hl);unfold Hg.kindOf at hstep;generalize Hg.AL l x=nx at TNx hstep;have hcase:∃dy,(if nx.kind=5∧nd.kind≠3 then dx+1 else dx)=dy∧dy≤2*f+1∧((((nx.kind:Int)==5)=true∧((nd.kind:Int) !=3)=true∧dy=dx+1)∨(((nx.kind:Int)==5)=true∧((nd.kind:Int) !=3)=false∧dy=dx)∨(((nx.kind:Int)==5)=false∧dy=dx)):=by
        by_cases h5:nx.kind=5
        ·by_cases h3:nd.kind=3
         ·exact⟨dx,by rw[if_neg (by omega)],by omega,.inr (.inl ⟨by simp[h5],by simp[h3],rfl⟩)⟩
         ·exact⟨dx+1,by rw[if_pos ⟨h5,h3⟩],by omega,.inl ⟨by simp[h5],by simp;omega,rfl⟩⟩
        ·exact⟨dx,by rw[if_neg (by omega)],by omega,.inr (.inr ⟨by simp;omega,rfl⟩)⟩
       obtain⟨dy,hdy,hdyl,hcs⟩:=hcase;rw[hdy] at hstep;clear hdy hdx HG;rcases hcs with⟨q1,q2,hy⟩|⟨q1,q2,hy⟩|⟨q1,hy⟩ <;>rcases(show(most < dy∧max most dy=dy)∨(¬most < dy∧max most dy=most) by omega) with⟨hmx,hmv⟩|⟨hmx,hmv⟩
       all_goals
        rw[hmv] at hstep;have HS:=zz hstep;subst hy;clear hstep hmv
        go_wp2_with (first
         |(go_at_call 66;refine((T _ hB2 (hX.out.below hbw hB)).out).mono ?_;rintro e w2 ⟨rfl,hb2⟩)
         |(go_at_call 61;refine((TNx _ (AO hB2 hb2.size) (hX.out.below (hbw.trans (hb2.mono hbw.size)) hB)).out).mono ?_;rintro e w3 ⟨kx,cx,rfl,_,hb3⟩;obtain⟨⟨k0',k1',k2',k3',k4',k5'⟩,_,_,_⟩:=box6 (hbr.trans ((hb2.trans (hb3.mono hb2.size)).mono hbr.size))))
        go_roundw
        case rel=>
         first
          |exact⟨m+1,dx+1,by go_num,by omega,by go_num,by omega,HS.out,hbr.trans ((hb2.trans (hb3.mono hb2.size)).mono hbr.size)⟩
          |exact⟨m+1,dy,by go_num,by omega,by go_num,by omega,HS.out,hbr.trans ((hb2.trans (hb3.mono hb2.size)).mono hbr.size)⟩
          |exact⟨m+1,most,by go_num,by omega,by go_num,by omega,HS.out,hbr.trans ((hb2.trans (hb3.mono hb2.size)).mono hbr.size)⟩
        case measure=>simp[intOf];omega
    ·obtain rfl:m=nd.kids.length:=by omega
     have hend:(if 16≤nd.kind∧nd.kind≤19 then most+1 else most)=d:=by
      have h1:=HG.out;rw[List.drop_length,Hg.Db] at h1;injection h1
     have HE:=zz hend;clear hend HG;by_cases h1:16≤nd.kind
     ·by_cases h2:nd.kind≤19
      ·have q1:decide ((16:Int)≤(nd.kind:Int))=true:=by simp;omega
       have q2:decide ((nd.kind:Int)≤19)=true:=by simp;omega
       have HV:=zz (show d=most+1 by rw[←HE.out,if_pos ⟨h1,h2⟩]);clear h1 h2 HE;go_wp2;go_ret;exact⟨by rw[HV.out];rfl,hbw⟩
      ·have q1:decide ((16:Int)≤(nd.kind:Int))=true:=by simp;omega
       have q2:decide ((nd.kind:Int)≤19)=false:=by simp;omega
       have HV:=zz (show d=most by rw[←HE.out,if_neg (by omega)]);clear h1 h2 HE;go_wp2;go_ret;exact⟨by rw[HV.out];rfl,hbw⟩
     ·have q1:decide ((16:Int)≤(nd.kind:Int))=false:=by simp;omega
      have HV:=zz (show d=most by rw[←HE.out,if_neg (by omega)]);clear h1 HE;go_wp2;go_ret;exact⟨by rw[HV.out];rfl,hbw⟩
end Go.Proofs.YtijhlanclfajiaaGreatDoor
