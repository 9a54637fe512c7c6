/-
  A part of the proof.
-/
import Derived.Test.YtijhlanclfajiaaGreatDoorKiAI
import Derived.Deep.RegionHeld3
import Derived.BigQuiet
set_option linter.all false
set_option maxHeartbeats 32000000
set_option maxRecDepth 100000
namespace Go.Proofs.YtijhlanclfajiaaGreatDoor
open Go.RowKit
theorem own_below{w w':World}{base B:Nat}{e:TypeId}{size:Nat}{v:Value}{n:Nat}{xs:List Value}(h:w.ownsRow base e size v n xs)(hb:Below B w w')(hB:w.heap.size≤B):w'.ownsRow base e size v n xs:=
 h.kept (row:=none) ⟨hb.os,hb.tape,hb.output,hb.size,fun k hk _=>hb.block k (by omega)⟩ (by cases hv:v.ownBlock <;>simp)
theorem I4(t:Hg.Tok):∀u∈BH t,u.oneCell'=true:=by
 intro u hu;simp only[BH,List.mem_cons,List.not_mem_nil,or_false] at hu;rcases hu with rfl|rfl|rfl <;>rfl
theorem GN(l:List Hg.Tok)(t:Hg.Tok):l.flatMap BH++BH t=(l++[t]).flatMap BH:=by simp
theorem Xu:(Tryz.prog.info? 146).map (fun i=>(i.zero,i.size,i.bytes))=some (some (.agg #[.int .u8 0,.string ⟨#[]⟩,.int .i64 0]),3,32):=by kernel_rfl
def Hz(w':World)(e:Ending)(r:Option (List Hg.Tok)):Prop:=
 match r with
 |none=>e= .returned (.tuple #[.slice none 0 0,.int .i64 20])
 |some l=>∃v,e= .returned (.tuple #[v,.int .i64 0])∧Sl w' w'.heap.size v l.length (l.flatMap BH)
theorem Hz.bad{w':World}{e:Ending}{r:Option (List Hg.Tok)}(h:r=none)(he:e= .returned (.tuple #[.slice none 0 0,.int .i64 20])):Hz w' e r:=by subst h;exact he
theorem Hz.good{w':World}{e:Ending}{r:Option (List Hg.Tok)}{l:List Hg.Tok}{v:Value}(h:r=some l)(he:e= .returned (.tuple #[v,.int .i64 0]))(hs:Sl w' w'.heap.size v l.length (l.flatMap BH)):Hz w' e r:=by subst h;exact⟨v,he,hs⟩
def E5(s:List UInt8)(w:World)(out i:Value)(wr:World):Prop:=
 ∃(k f:Nat) (acc:List Hg.Tok),i= .int .i64 k∧k≤s.length∧s.length-k≤f∧acc.length≤k∧Hg.BG f k (s.drop k) acc=Hg.Dk s∧
   wr.ownsRow w.heap.size 146 3 out acc.length (acc.flatMap BH)∧Below w.heap.size w wr
theorem E5.mk{s:List UInt8}{w wr:World}{out:Value}{k f n:Nat}{acc:List Hg.Tok}{xs:List Value}(hk:k≤s.length)(hf:s.length-k≤f)(ha:acc.length≤k)(hs:Hg.BG f k (s.drop k) acc=Hg.Dk s)
 (ho:wr.ownsRow w.heap.size 146 3 out n xs) (hn:n=acc.length) (hxs:xs=acc.flatMap BH) (hb:Below w.heap.size w wr) {i:Value} (hi:i= .int .i64 k):E5 s w out i wr:=by
 subst hn;subst hxs;exact⟨k,f,acc,hi,hk,hf,ha,hs,ho,hb⟩
theorem Io(s:List UInt8)(hs:s.length≤1000000)(w:World):
 Calls Tryz.prog 36 #[.string ⟨s.toArray⟩] w fun e w'=>Hz w' e (Hg.Dk s)∧Below w.heap.size w w':=by
 obtain⟨i0,hi,hz0,hz1,hz2⟩:=info_parts Xu;go_enter Tryz.func36,Tryz.ntmps36;go_wp2
 go_loopw [4,5] (fun out i wr=>E5 s w out i wr) (fun _ i _=>s.length-(intOf i).toNat)
 case atStart=>exact⟨0,s.length,[],rfl,by omega,by omega,by simp,rfl,World.ownsRow_nil _ _ _ _,AP⟩
 case round=>
  obtain⟨k,f,acc,rfl,hk,hf,hak,hsc,hown,hb⟩:=hrel;have HS:=zz hsc;clear hsc;by_cases hlt:k < s.length
  ·have hdr:s.drop k=s[k]::s.drop (k+1):=Au hlt
   obtain⟨f,rfl⟩:∃g,f=g+1:=⟨f-1,by omega⟩;have HD:=zz hdr;clear hdr;by_cases h3:Hg.cls s[k]=3
   ·have hq:((Hg.cls s[k]:Int)==3)=true:=by simp[h3]
    have hnx:=zz (by rw[←HS.out,HD.out,Hg.Rq h3]:Hg.BG f (k+1) (s.drop (k+1)) acc=Hg.Dk s);clear h3
    go_wp2_with (first|(go_at_call 84;refine(BJ _ _).mono ?_;rintro e w' ⟨rfl,rfl⟩))
    go_roundw
    case rel=>exact E5.mk (k:=k+1) (by omega) (by omega) (by omega) hnx.out hown rfl rfl hb (by go_num)
    case measure=>simp[intOf];omega
   ·have hq:((Hg.cls s[k]:Int)==3)=false:=by simp;omega
    have H3:=zz h3;clear h3;by_cases h35:s[k].toNat=35
    ·have hq2:((s[k].toNat:Int)==35)=true:=by simp[h35]
     have H35:=zz h35;clear h35
     go_wp2_with (first|(go_at_call 84;refine(BJ _ _).mono ?_;rintro e w' ⟨rfl,rfl⟩))
     go_loop [5] (fun i=>∃m:Nat,k≤m∧m≤s.length∧i= .int .i64 m∧∀j,k≤j→j < m→(hj:j < s.length)→(s[j].toNat !=10)=true) (fun i=>s.length-(intOf i).toNat)
     case atStart=>exact⟨k,by omega,by omega,rfl,fun j h1 h2=>by omega⟩
     case round=>
      obtain⟨m,hkm,hm,rfl,hno⟩:=hrel;have HN:=zz hno;clear hno hq hq2;by_cases hin:∃h:m < s.length,(s[m].toNat !=10)=true
      ·obtain⟨hlm,hne⟩:=hin
       have hq3:((s[m].toNat:Int) !=10)=true:=by rw[bne_iff_ne] at hne⊢;omega
       have HNE:=zz hne;clear hne;go_wp2
       go_round
       case rel=>exact⟨m+1,by omega,by omega,by go_num,fun j h1 h2 hj=>by
        by_cases e:j=m
        ·subst e;exact HNE.out
        ·exact HN.out j h1 (by omega) hj⟩
       case measure=>simp[intOf];omega
      ·have hend:m=s.length∨∃h:m < s.length,(s[m].toNat !=10)=false:=by
        by_cases e:m=s.length
        ·exact .inl e
        ·right;refine⟨by omega, ?_⟩
         by_cases h:(s[m]'(by omega)).toNat=10
         ·simp[h]
         ·exact absurd ⟨by omega,by simpa using h⟩ hin
       have hrun:=(Hg.JK s (fun b=>b.toNat !=10) k m hkm hm HN.out hend).2;have hkm1:k < m:=by
        by_cases e:m=k
        ·subst e
         rcases hend with h|⟨h,h'⟩
         ·omega
         ·rw[H35.out] at h';simp at h'
        ·omega
       have hnx:=zz (by rw[←HS.out,HD.out,Hg.PI H3.out H35.out,←HD.out,hrun,List.drop_drop,show k+(m-k)=m from by omega]:Hg.BG f m (s.drop m) acc=Hg.Dk s);clear hrun hin;rcases hend with h|⟨h,h'⟩
       ·obtain rfl:m=s.length:=h
        go_wp2;go_roundw
        case rel=>exact E5.mk (by omega) (by omega) (by omega) hnx.out hown rfl rfl hb rfl
        case measure=>simp[intOf];omega
       ·have hq3:((s[m].toNat:Int) !=10)=false:=by
         simp only[bne_eq_false_iff_eq] at h'⊢;omega
        clear h';go_wp2;go_roundw
        case rel=>exact E5.mk (by omega) (by omega) (by omega) hnx.out hown rfl rfl hb rfl
        case measure=>simp[intOf];omega
    ·have hq2:((s[k].toNat:Int)==35)=false:=by simp;omega
     have H35:=zz h35;clear h35;by_cases h0:0 < Hg.cls s[k]
     ·have hq4:decide (0 < Hg.cls s[k])=true:=by simp;omega
      have hq5:decide ((0:Int) < (Hg.cls s[k]:Int))=true:=by simp;omega
      have H0:=zz h0;clear h0
      go_wp2_with (first|(go_at_call 84;refine(BJ _ _).mono ?_;rintro e w' ⟨rfl,rfl⟩))
      go_loop [7] (fun i=>∃m:Nat,k≤m∧m≤s.length∧i= .int .i64 m∧∀j,k≤j→j < m→(hj:j < s.length)→Hg.Ba s[j]=true) (fun i=>s.length-(intOf i).toNat)
      case atStart=>exact⟨k,by omega,by omega,rfl,fun j h1 h2=>by omega⟩
      case round=>
       obtain⟨m,hkm,hm,rfl,hno⟩:=hrel;have HN:=zz hno;clear hno hq hq2 hq4 hq5;by_cases hin:∃h:m < s.length,Hg.Ba s[m]=true
       ·obtain⟨hlm,hne⟩:=hin
        have HNE:=zz hne;have hqa:decide (0 < Hg.cls s[m])=true:=by unfold Hg.Ba at hne;simp at hne⊢;omega
        have hqb:decide (Hg.cls s[m] < 3)=true:=by unfold Hg.Ba at hne;simp at hne⊢;omega
        have hqc:decide ((Hg.cls s[m]:Int) < 3)=true:=by unfold Hg.Ba at hne;simp at hne⊢;omega
        clear hne
        go_wp2_with (first|(go_at_call 84;refine(BJ _ _).mono ?_;rintro e w' ⟨rfl,rfl⟩))
        go_round
        case rel=>exact⟨m+1,by omega,by omega,by go_num,fun j h1 h2 hj=>by
         by_cases e:j=m
         ·subst e;exact HNE.out
         ·exact HN.out j h1 (by omega) hj⟩
        case measure=>simp[intOf];omega
       ·have hend:m=s.length∨∃h:m < s.length,Hg.Ba s[m]=false:=by
         by_cases e:m=s.length
         ·exact .inl e
         ·right;refine⟨by omega, ?_⟩
          cases h:Hg.Ba (s[m]'(by omega))
          ·rfl
          ·exact absurd ⟨by omega,h⟩ hin
        have hrun:=Hg.JK s Hg.Ba k m hkm hm HN.out hend;have hkm1:k < m:=by
         by_cases e:m=k
         ·subst e
          rcases hend with h|⟨h,h'⟩
          ·omega
          ·have h0:=H0.out
           have h3:=H3.out;unfold Hg.Ba at h';simp at h';have:=XO s[m];omega
         ·omega
        obtain⟨hrun1,hrun2⟩:=hrun;rw[hrun1] at hrun2;have hWl:0 < (List.take (m-k) (List.drop k s)).length:=by rw[hrun2];omega
        have hWm:(List.take (m-k) (List.drop k s)).length≤s.length:=by rw[hrun2];omega
        have HW:=zz hrun1;have HWL:=zz hrun2;rw[HD.out] at hrun1;have HW2:=zz hrun1;have hdrop:(s[k]::s.drop (k+1)).drop (m-k)=s.drop m:=by rw[←HD.out,List.drop_drop,show k+(m-k)=m from by omega]
        have HDR:=zz hdrop;have hsum:k+(m-k)=m:=by omega
        have HSUM:=zz hsum;clear hrun1 hrun2 hin hdrop hsum;have hend2:decide (m < s.length)=false∨∃h:m < s.length,(decide (0 < Hg.cls s[m])=false∨(decide (0 < Hg.cls s[m])=true∧decide (Hg.cls s[m] < 3)=false∧decide ((Hg.cls s[m]:Int) < 3)=false)):=by
         rcases hend with h|⟨h,h'⟩
         ·left;simp;omega
         ·right;refine⟨h, ?_⟩
          unfold Hg.Ba at h';simp at h'⊢;have:=XO s[m];omega
        clear hend;have HWL2:(List.take (m-k) (s[k]::s.drop (k+1))).length=m-k:=by rw[←HD.out];exact HWL.out
        have HWL2:=zz HWL2;cases hm1:Hg.inL Hg.words (List.take (m-k) (List.drop k s))
        ·cases hm2:Hg.Cb (List.take (m-k) (List.drop k s))
         ·by_cases hm3:0≤Hg.CK (List.take (m-k) (List.drop k s))
          ·have hnx:=zz (by rw[←HS.out,HD.out,Hg.QO H3.out H35.out H0.out HW2.out (by rw[←HD.out];exact hm1) (by rw[←HD.out];exact hm2) (by rw[←HD.out];exact hm3),HWL2.out,HDR.out,HSUM.out,←HD.out]:Hg.BG f m (s.drop m) (acc++[⟨2,(s.drop k).take (m-k),k⟩])=Hg.Dk s)
           rcases hend2 with hqa|⟨hlm,hqb|⟨hqb,hqc,hqd⟩⟩
           all_goals
            go_wp2_with (first|(go_at_call 84;refine(BJ _ _).mono ?_;rintro e w' ⟨rfl,rfl⟩)|(go_at_call 86;refine(GM _).mono ?_;rintro e w1 ⟨v1,rfl,hx1,hb1⟩;obtain⟨a1,c1,rfl⟩:=hx1.form;have hbq:=hb1;clear hb1)|(go_at_call 85;refine(Eu _ _ Hg.words _ _ hx1 (by decide)).mono ?_;rintro e w' ⟨rfl,rfl⟩)|(go_at_call 64;refine(Gb _ (by simp;omega) _).mono ?_;rintro e w' ⟨rfl,rfl⟩)|(go_at_call 87;refine(IR _ hWl _ (by simp;omega)).mono ?_;rintro e w' ⟨rfl,rfl⟩)|(at_builtin;refine wpList_append_own_at _ rfl (.tmp 88) (.tmp 92) _ rfl w.heap.size 146 i0 _ 3 32 Tryz.underlying82 hi hz0 hz1 hz2 rfl (by decide) _ _ _ rfl ((own_below hown hbq AA).alloc _) ⟨_,0,none⟩ 1 1 (BH ⟨2,(List.take (m-k) (List.drop k s)),k⟩) rfl rfl (Ao _ _ _) ?_ ?_ ?_ ?_ ?_))
            ·exact I4 _
            ·unfold maxLen;omega
            ·omega
            ·have:=hb.size;have:=hbq.size;simp;omega
            intro v2 w2 hown2 hg2 _ _;have hb2:Below w.heap.size w w2:=((hb.trans (hbq.mono hb.size)).alloc (AO hb.size hbq.size) _).grown hg2 (by have:=hb.size;have:=hbq.size;simp;omega) (fun q hq=>(hown.lt q hq).1);go_wp2;go_roundw
            case rel=>exact E5.mk (k:=m) (acc:=acc++[⟨2,(List.take (m-k) (List.drop k s)),k⟩]) (by omega) (by omega) (by simp;omega) hnx.out hown2 (by simp) (GN _ _) hb2 rfl
            case measure=>simp[intOf];omega
          ·have hnx:=zz (by rw[←HS.out,HD.out,Hg.V9 H3.out H35.out H0.out HW2.out (by rw[←HD.out];exact hm1) (by rw[←HD.out];exact hm2) (by rw[←HD.out];exact hm3)]:Hg.Dk s=none)
           rcases hend2 with hqa|⟨hlm,hqb|⟨hqb,hqc,hqd⟩⟩
           all_goals
            go_wp2_with (first|(go_at_call 84;refine(BJ _ _).mono ?_;rintro e w' ⟨rfl,rfl⟩)|(go_at_call 86;refine(GM _).mono ?_;rintro e w1 ⟨v1,rfl,hx1,hb1⟩;obtain⟨a1,c1,rfl⟩:=hx1.form;have hbq:=hb1;clear hb1)|(go_at_call 85;refine(Eu _ _ Hg.words _ _ hx1 (by decide)).mono ?_;rintro e w' ⟨rfl,rfl⟩)|(go_at_call 64;refine(Gb _ (by simp;omega) _).mono ?_;rintro e w' ⟨rfl,rfl⟩)|(go_at_call 87;refine(IR _ hWl _ (by simp;omega)).mono ?_;rintro e w' ⟨rfl,rfl⟩))
            go_ret2;exact⟨Hz.bad hnx.out rfl,hb.trans (hbq.mono hb.size)⟩
         ·have hnx:=zz (by rw[←HS.out,HD.out,Hg.Ui H3.out H35.out H0.out HW2.out (by rw[←HD.out];exact hm1) (by rw[←HD.out];exact hm2),HWL2.out,HDR.out,HSUM.out,←HD.out]:Hg.BG f m (s.drop m) (acc++[⟨1,(s.drop k).take (m-k),k⟩])=Hg.Dk s)
          rcases hend2 with hqa|⟨hlm,hqb|⟨hqb,hqc,hqd⟩⟩
          all_goals
           go_wp2_with (first|(go_at_call 84;refine(BJ _ _).mono ?_;rintro e w' ⟨rfl,rfl⟩)|(go_at_call 86;refine(GM _).mono ?_;rintro e w1 ⟨v1,rfl,hx1,hb1⟩;obtain⟨a1,c1,rfl⟩:=hx1.form;have hbq:=hb1;clear hb1)|(go_at_call 85;refine(Eu _ _ Hg.words _ _ hx1 (by decide)).mono ?_;rintro e w' ⟨rfl,rfl⟩)|(go_at_call 64;refine(Gb _ (by simp;omega) _).mono ?_;rintro e w' ⟨rfl,rfl⟩)|(at_builtin;refine wpList_append_own_at _ rfl (.tmp 78) (.tmp 82) _ rfl w.heap.size 146 i0 _ 3 32 Tryz.underlying82 hi hz0 hz1 hz2 rfl (by decide) _ _ _ rfl ((own_below hown hbq AA).alloc _) ⟨_,0,none⟩ 1 1 (BH ⟨1,(List.take (m-k) (List.drop k s)),k⟩) rfl rfl (Ao _ _ _) ?_ ?_ ?_ ?_ ?_))
           ·exact I4 _
           ·unfold maxLen;omega
           ·omega
           ·have:=hb.size;have:=hbq.size;simp;omega
           intro v2 w2 hown2 hg2 _ _;have hb2:Below w.heap.size w w2:=((hb.trans (hbq.mono hb.size)).alloc (AO hb.size hbq.size) _).grown hg2 (by have:=hb.size;have:=hbq.size;simp;omega) (fun q hq=>(hown.lt q hq).1);go_wp2;go_roundw
           case rel=>exact E5.mk (k:=m) (acc:=acc++[⟨1,(List.take (m-k) (List.drop k s)),k⟩]) (by omega) (by omega) (by simp;omega) hnx.out hown2 (by simp) (GN _ _) hb2 rfl
           case measure=>simp[intOf];omega
        ·have hnx:=zz (by rw[←HS.out,HD.out,Hg.Uh H3.out H35.out H0.out HW2.out (by rw[←HD.out];exact hm1),HWL2.out,HDR.out,HSUM.out,←HD.out]:Hg.BG f m (s.drop m) (acc++[⟨3,(s.drop k).take (m-k),k⟩])=Hg.Dk s)
         rcases hend2 with hqa|⟨hlm,hqb|⟨hqb,hqc,hqd⟩⟩
         all_goals
          go_wp2_with (first|(go_at_call 84;refine(BJ _ _).mono ?_;rintro e w' ⟨rfl,rfl⟩)|(go_at_call 86;refine(GM _).mono ?_;rintro e w1 ⟨v1,rfl,hx1,hb1⟩;obtain⟨a1,c1,rfl⟩:=hx1.form;have hbq:=hb1;clear hb1)|(go_at_call 85;refine(Eu _ _ Hg.words _ _ hx1 (by decide)).mono ?_;rintro e w' ⟨rfl,rfl⟩)|(at_builtin;refine wpList_append_own_at _ rfl (.tmp 69) (.tmp 73) _ rfl w.heap.size 146 i0 _ 3 32 Tryz.underlying82 hi hz0 hz1 hz2 rfl (by decide) _ _ _ rfl ((own_below hown hbq AA).alloc _) ⟨_,0,none⟩ 1 1 (BH ⟨3,(List.take (m-k) (List.drop k s)),k⟩) rfl rfl (Ao _ _ _) ?_ ?_ ?_ ?_ ?_))
          ·exact I4 _
          ·unfold maxLen;omega
          ·omega
          ·have:=hb.size;have:=hbq.size;simp;omega
          intro v2 w2 hown2 hg2 _ _;have hb2:Below w.heap.size w w2:=((hb.trans (hbq.mono hb.size)).alloc (AO hb.size hbq.size) _).grown hg2 (by have:=hb.size;have:=hbq.size;simp;omega) (fun q hq=>(hown.lt q hq).1);go_wp2;go_roundw
          case rel=>exact E5.mk (k:=m) (acc:=acc++[⟨3,(List.take (m-k) (List.drop k s)),k⟩]) (by omega) (by omega) (by simp;omega) hnx.out hown2 (by simp) (GN _ _) hb2 rfl
          case measure=>simp[intOf];omega
     ·have hq4:decide (0 < Hg.cls s[k])=false:=by simp;omega
      have hq5:decide ((0:Int) < (Hg.cls s[k]:Int))=false:=by simp;omega
      have H0:=zz h0;clear h0;have hw1:IntKind.i64.wrap ((k:Int)+1)=(k:Int)+1:=IntWalk.i64_in _ (by omega);have hl1:(List.take 1 (List.drop k s)).length=1:=by rw[List.length_take,List.length_drop];omega
      have HL1:=zz hl1;clear hl1;by_cases hk1:k+1 < s.length
      ·have hqa:decide ((k:Int)+1 < (s.length:Int))=true:=by simp;omega
       have hqb:decide (k+1 < s.length)=true:=by simp;omega
       have hw2:IntKind.i64.wrap ((k:Int)+2)=(k:Int)+2:=IntWalk.i64_in _ (by omega);have hw3:(k:Int)≤(k:Int)+2:=by omega
       have hw4:(k:Int)+2≤(s.length:Int):=by omega
       have hw5:((k:Int)+2).toNat=k+2:=by omega
       have hw6:(0:Int)≤(k:Int):=by omega
       have hw7:(0:Int)≤(k:Int)+2:=by omega
       have hl2:2≤(s[k]::s.drop (k+1)).length:=by rw[←HD.out,List.length_drop];omega
       have hl3:(List.take 2 (List.drop k s)).length=2:=by rw[List.length_take,List.length_drop];omega
       have HL2:=zz hl2;have HL3:=zz hl3;clear hl2 hl3;cases hm1:Hg.inL Hg.signs (List.take 2 (List.drop k s))
       ·cases hm2:Hg.inL Hg.signs (List.take 1 (List.drop k s))
        ·have hnx:=zz (by rw[←HS.out,HD.out,Hg.Ti H3.out H35.out H0.out (by rw[←HD.out];intro h;rw[hm1] at h;exact absurd h.1 (by simp)) (by rw[←HD.out];exact hm2)]:Hg.Dk s=none)
         go_wp2_with (first|(go_at_call 84;refine(BJ _ _).mono ?_;rintro e w' ⟨rfl,rfl⟩))
         go_region_held3 (fun _=>True) (trivial) (first|(go_at_call 88;refine(EM _).mono ?_;rintro e w1 ⟨v1,rfl,hx1,hbq⟩;obtain⟨a1,c1,rfl⟩:=hx1.form)|(go_at_call 85;refine(Eu _ _ Hg.signs _ _ hx1 (by decide)).mono ?_;rintro e w' ⟨rfl,rfl⟩))
         have hbp:Below wr.heap.size wr w1:=⟨hbq.os,hbq.tape,hbq.output,hbq.size,hbq.block⟩
         go_wp2_with (first|(go_at_call 88;refine(EM _).mono ?_;rintro e w3 ⟨v3,rfl,hx3,hb3⟩;obtain⟨a3,c3,rfl⟩:=hx3.form)|(go_at_call 85;refine(Eu _ _ Hg.signs _ _ hx3 (by decide)).mono ?_;rintro e w' ⟨rfl,rfl⟩))
         go_ret2;exact⟨Hz.bad hnx.out rfl,hb.trans ((hbp.mono hb.size).trans (hb3.mono (by have:=hbp.size;have:=hb.size;simp at*;omega)))⟩
        ·have hnx:=zz (by rw[←HS.out,HD.out,Hg.Mr H3.out H35.out H0.out (by rw[←HD.out];intro h;rw[hm1] at h;exact absurd h.1 (by simp)) (by rw[←HD.out];exact hm2),←HD.out,List.drop_drop]:Hg.BG f (k+1) (s.drop (k+1)) (acc++[⟨4,(s.drop k).take 1,k⟩])=Hg.Dk s)
         go_wp2_with (first|(go_at_call 84;refine(BJ _ _).mono ?_;rintro e w' ⟨rfl,rfl⟩))
         go_region_held3 (fun _=>True) (trivial) (first|(go_at_call 88;refine(EM _).mono ?_;rintro e w1 ⟨v1,rfl,hx1,hbq⟩;obtain⟨a1,c1,rfl⟩:=hx1.form)|(go_at_call 85;refine(Eu _ _ Hg.signs _ _ hx1 (by decide)).mono ?_;rintro e w' ⟨rfl,rfl⟩))
         have hbp:Below wr.heap.size wr w1:=⟨hbq.os,hbq.tape,hbq.output,hbq.size,hbq.block⟩
         go_wp2_with (first|(go_at_call 88;refine(EM _).mono ?_;rintro e w3 ⟨v3,rfl,hx3,hb3⟩;obtain⟨a3,c3,rfl⟩:=hx3.form)|(go_at_call 85;refine(Eu _ _ Hg.signs _ _ hx3 (by decide)).mono ?_;rintro e w' ⟨rfl,rfl⟩)|(at_builtin;refine wpList_append_own_at _ rfl (.tmp 123) (.tmp 127) _ rfl w.heap.size 146 i0 _ 3 32 Tryz.underlying82 hi hz0 hz1 hz2 rfl (by decide) _ _ _ rfl ((own_below hown (hbp.trans (hb3.mono (by have:=hbp.size;simpa using this))) AA).alloc _) ⟨_,0,none⟩ 1 1 (BH ⟨4,(List.take 1 (List.drop k s)),k⟩) rfl rfl (Ao _ _ _) ?_ ?_ ?_ ?_ ?_))
         ·exact I4 _
         ·unfold maxLen;omega
         ·omega
         ·have:=hb.size;have:=hbp.size;have:=hb3.size;simp at*;omega
         intro v2 w2 hown2 hg2 _ _;have hb13:Below w.heap.size w w3:=hb.trans ((hbp.mono hb.size).trans (hb3.mono (by have:=hbp.size;have:=hb.size;simp at*;omega)));have hb2:Below w.heap.size w w2:=(hb13.alloc hb13.size _).grown hg2 (by have:=hb13.size;simp;omega) (fun q hq=>(hown.lt q hq).1);have hlen:=HL1.out;go_wp2;go_roundw
         case rel=>exact E5.mk (k:=k+1) (acc:=acc++[⟨4,(List.take 1 (List.drop k s)),k⟩]) (by omega) (by omega) (by simp;omega) hnx.out hown2 (by simp) (GN _ _) hb2 (by first|rfl|go_num|(simp[hlen];omega)|simp[hlen])
         case measure=>simp[intOf];try omega
       ·have hnx:=zz (by rw[←HS.out,HD.out,Hg.Rp H3.out H35.out H0.out HL2.out (by rw[←HD.out];exact hm1),←HD.out,List.drop_drop]:Hg.BG f (k+2) (s.drop (k+2)) (acc++[⟨4,(s.drop k).take 2,k⟩])=Hg.Dk s)
        go_wp2_with (first|(go_at_call 84;refine(BJ _ _).mono ?_;rintro e w' ⟨rfl,rfl⟩))
        go_region_held3 (fun _=>True) (trivial) (first|(go_at_call 88;refine(EM _).mono ?_;rintro e w1 ⟨v1,rfl,hx1,hbq⟩;obtain⟨a1,c1,rfl⟩:=hx1.form)|(go_at_call 85;refine(Eu _ _ Hg.signs _ _ hx1 (by decide)).mono ?_;rintro e w' ⟨rfl,rfl⟩))
        have hbp:Below wr.heap.size wr w1:=⟨hbq.os,hbq.tape,hbq.output,hbq.size,hbq.block⟩
        go_wp2_with (first|(go_at_call 88;refine(EM _).mono ?_;rintro e w3 ⟨v3,rfl,hx3,hb3⟩;obtain⟨a3,c3,rfl⟩:=hx3.form)|(go_at_call 85;refine(Eu _ _ Hg.signs _ _ hx3 (by decide)).mono ?_;rintro e w' ⟨rfl,rfl⟩)|(at_builtin;refine wpList_append_own_at _ rfl (.tmp 123) (.tmp 127) _ rfl w.heap.size 146 i0 _ 3 32 Tryz.underlying82 hi hz0 hz1 hz2 rfl (by decide) _ _ _ rfl ((own_below hown (hbp.trans (hb3.mono (by have:=hbp.size;simpa using this))) AA).alloc _) ⟨_,0,none⟩ 1 1 (BH ⟨4,(List.take 2 (List.drop k s)),k⟩) rfl rfl (Ao _ _ _) ?_ ?_ ?_ ?_ ?_))
        ·exact I4 _
        ·unfold maxLen;omega
        ·omega
        ·have:=hb.size;have:=hbp.size;have:=hb3.size;simp at*;omega
        intro v2 w2 hown2 hg2 _ _;have hb13:Below w.heap.size w w3:=hb.trans ((hbp.mono hb.size).trans (hb3.mono (by have:=hbp.size;have:=hb.size;simp at*;omega)));have hb2:Below w.heap.size w w2:=(hb13.alloc hb13.size _).grown hg2 (by have:=hb13.size;simp;omega) (fun q hq=>(hown.lt q hq).1);have hlen:=HL3.out;go_wp2;go_roundw
        case rel=>exact E5.mk (k:=k+2) (acc:=acc++[⟨4,(List.take 2 (List.drop k s)),k⟩]) (by omega) (by omega) (by simp;omega) hnx.out hown2 (by simp) (GN _ _) hb2 (by first|rfl|go_num|(simp[hlen];omega)|simp[hlen])
        case measure=>simp[intOf];try omega
      ·have hqa:decide ((k:Int)+1 < (s.length:Int))=false:=by simp;omega
       have hqb:decide (k+1 < s.length)=false:=by simp;omega
       have hl2:¬2≤(s[k]::s.drop (k+1)).length:=by rw[←HD.out,List.length_drop];omega
       have HL2:=zz hl2;clear hl2;cases hm2:Hg.inL Hg.signs (List.take 1 (List.drop k s))
       ·have hnx:=zz (by rw[←HS.out,HD.out,Hg.Ti H3.out H35.out H0.out (fun h=>HL2.out h.2) (by rw[←HD.out];exact hm2)]:Hg.Dk s=none)
        go_wp2_with (first|(go_at_call 84;refine(BJ _ _).mono ?_;rintro e w' ⟨rfl,rfl⟩))
        go_quiet (fail)
        have hbp:=below_drewN (Below.refl wr.heap.size wr) nq
        go_wp2_with (first|(go_at_call 88;refine(EM _).mono ?_;rintro e w3 ⟨v3,rfl,hx3,hb3⟩;obtain⟨a3,c3,rfl⟩:=hx3.form)|(go_at_call 85;refine(Eu _ _ Hg.signs _ _ hx3 (by decide)).mono ?_;rintro e w' ⟨rfl,rfl⟩))
        go_ret2;exact⟨Hz.bad hnx.out rfl,hb.trans ((hbp.mono hb.size).trans (hb3.mono (by have:=hbp.size;have:=hb.size;simp at*;omega)))⟩
       ·have hnx:=zz (by rw[←HS.out,HD.out,Hg.Mr H3.out H35.out H0.out (fun h=>HL2.out h.2) (by rw[←HD.out];exact hm2),←HD.out,List.drop_drop]:Hg.BG f (k+1) (s.drop (k+1)) (acc++[⟨4,(s.drop k).take 1,k⟩])=Hg.Dk s)
        go_wp2_with (first|(go_at_call 84;refine(BJ _ _).mono ?_;rintro e w' ⟨rfl,rfl⟩))
        go_quiet (fail)
        have hbp:=below_drewN (Below.refl wr.heap.size wr) nq
        go_wp2_with (first|(go_at_call 88;refine(EM _).mono ?_;rintro e w3 ⟨v3,rfl,hx3,hb3⟩;obtain⟨a3,c3,rfl⟩:=hx3.form)|(go_at_call 85;refine(Eu _ _ Hg.signs _ _ hx3 (by decide)).mono ?_;rintro e w' ⟨rfl,rfl⟩)|(at_builtin;refine wpList_append_own_at _ rfl (.tmp 123) (.tmp 127) _ rfl w.heap.size 146 i0 _ 3 32 Tryz.underlying82 hi hz0 hz1 hz2 rfl (by decide) _ _ _ rfl ((own_below hown (hbp.trans (hb3.mono (by have:=hbp.size;simpa using this))) AA).alloc _) ⟨_,0,none⟩ 1 1 (BH ⟨4,(List.take 1 (List.drop k s)),k⟩) rfl rfl (Ao _ _ _) ?_ ?_ ?_ ?_ ?_))
        ·exact I4 _
        ·unfold maxLen;omega
        ·omega
        ·have:=hb.size;have:=hbp.size;have:=hb3.size;simp at*;omega
        intro v2 w2 hown2 hg2 _ _;have hb13:Below w.heap.size w w3:=hb.trans ((hbp.mono hb.size).trans (hb3.mono (by have:=hbp.size;have:=hb.size;simp at*;omega)));have hb2:Below w.heap.size w w2:=(hb13.alloc hb13.size _).grown hg2 (by have:=hb13.size;simp;omega) (fun q hq=>(hown.lt q hq).1);have hlen:=HL1.out;go_wp2;go_roundw
        case rel=>exact E5.mk (k:=k+1) (acc:=acc++[⟨4,(List.take 1 (List.drop k s)),k⟩]) (by omega) (by omega) (by simp;omega) hnx.out hown2 (by simp) (GN _ _) hb2 (by first|rfl|go_num|(simp[hlen];omega)|simp[hlen])
        case measure=>simp[intOf];try omega
  ·obtain rfl:k=s.length:=by omega
   have hfin:=zz (show Hg.Dk s=some acc by rw[←HS.out,List.drop_length,Hg.V8]);go_wp2;go_ret2;exact⟨Hz.good hfin.out rfl (Sl.Ai hown),hb⟩
end Go.Proofs.YtijhlanclfajiaaGreatDoor
