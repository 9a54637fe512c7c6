/-
  Part of the proof of CheckLists.
-/
import Derived.Test.YtljmibnfmilfbaaGreatDoorKeAX
import Derived.Test.YtljmibnfmilfbaaGreatDoorKeAJ
import Derived.Test.YtljmibnfmilfbaaGreatDoorKeAA
import Derived.Test.YtljmibnfmilfbaaGreatDoorKeAB
import Derived.Lib.AtoiErrMem
import Derived.IntWalk
set_option linter.all false
set_option maxHeartbeats 32000000
set_option maxRecDepth 100000
namespace Go.Proofs.YtljmibnfmilfbaaGreatDoor
open Go.RowKit
def ScAt(w:World)(cb:Nat)(s:List UInt8)(k:Nat):Prop:=w.heap[cb]? =some (.cells #[strV s,.int .i64 (k:Int)] 120 (0,0))
theorem ScAt.read{w:World}{cb k:Nat}{s:List UInt8}(h:ScAt w cb s k):w.cell? ⟨cb,0,none⟩=some (strV s)∧w.cell? ⟨cb,1,none⟩=some (.int .i64 (k:Int))∧∀i,w.frozen? ⟨cb,i,none⟩=false:=
 ⟨cell_of_row w cb 0 _ _ (0,0) h,cell_of_row w cb 1 _ _ (0,0) h,fun i=>by unfold ScAt at h;simp[World.frozen?,h]⟩
theorem ScAt.lt{w:World}{cb k:Nat}{s:List UInt8}(h:ScAt w cb s k):cb < w.heap.size:=(Array.getElem?_eq_some_iff.1 h).1
theorem ScAt.set{w:World}{cb k j:Nat}{s:List UInt8}(h:ScAt w cb s k):ScAt (w.setCell ⟨cb,1,none⟩ (.int .i64 (j:Int))) cb s j:=heap_setCell_same h _
theorem ScAt.keep{w w':World}{cb k:Nat}{s:List UInt8}(h:ScAt w cb s k)(hb:w'.heap[cb]? =w.heap[cb]?):ScAt w' cb s k:=hb.trans h
def CZ(w:World)(a:Addr):Nat:=match w.cell? a with|some (.int _ n)=>n.toNat|_=>0
theorem Bc{w wr:World}{cb:Nat}(h:w.grownBy wr (some cb))(i:Nat)(u:Value):w.grownBy (wr.setCell ⟨cb,i,none⟩ u) (some cb):=
 ⟨h.os,h.tape,h.output,by simpa using h.size,fun j hj hne=>(Below.heap_setCell wr ⟨cb,i,none⟩ u j (fun e=>hne (by rw[e]))).trans (h.block j hj hne)⟩
theorem Ay{w wr:World}{row:Option Nat}(h:w.grownBy wr row)(n:Nat):w.grownBy (wr.drewN n) row:=by
 have hh:(wr.drewN n).heap=wr.heap:=by unfold World.drewN;rfl
 exact⟨h.os,h.tape,h.output,by rw[hh];exact h.size,fun j hj hne=>by rw[hh];exact h.block j hj hne⟩
theorem Bo(w:World)(row:Option Nat):w.grownBy w row:=⟨rfl,rfl,rfl,Nat.le_refl _,fun _ _ _=>rfl⟩
def Io(w:World)(cb:Nat)(s:List UInt8)(k:Nat)(p:UInt8→Bool)(e:Ending)(w':World):Prop:=
 e= .returned (strV ((s.drop k).takeWhile p))∧ScAt w' cb s (k+((s.drop k).takeWhile p).length)∧w.grownBy w' (some cb)
theorem SI:∀(l:List UInt8) (p:UInt8→Bool) (n:Nat),n≤l.length→(∀i,i < n→∃c,l[i]? =some c∧p c=true)→(∀c,l[n]? =some c→p c=false)→l.takeWhile p=l.take n
 |[],p,n,_,_,_=>by simp
 |c::l,p,0,_,_,h=>by rw[List.takeWhile_cons,h c rfl];simp
 |c::l,p,n+1,hn,ha,h=>by
   obtain⟨c',h1,h2⟩:=ha 0 (by omega);simp only[List.getElem?_cons_zero,Option.some.injEq] at h1;subst h1;rw[List.takeWhile_cons,h2,List.take_succ_cons,SI l p n (by simpa using hn) (fun i hi=>by simpa using ha (i+1) (by omega)) (fun c hc=>h c (by simpa using hc))];simp
theorem run_end(s:List UInt8)(p:UInt8→Bool)(k j:Nat)(hk:k≤j)(hj:j≤s.length)(ha:∀i,k≤i→i < j→(hi:i < s.length)→p s[i]=true)(he:∀(h:j < s.length),p s[j]=false):
 (s.drop k).takeWhile p=(s.drop k).take (j-k)∧((s.drop k).takeWhile p).length=j-k:=by
 have h1:(s.drop k).takeWhile p=(s.drop k).take (j-k):=by
  refine SI _ p _ (by simp;omega) (fun i hi=> ?_) (fun c hc=> ?_)
  ·refine⟨s[k+i], ?_,ha (k+i) (by omega) (by omega) (by omega)⟩
   rw[List.getElem?_drop,List.getElem?_eq_getElem (by omega)]
  ·rw[List.getElem?_drop,show k+(j-k)=j by omega] at hc
   obtain⟨h,e⟩:=List.getElem?_eq_some_iff.1 hc;rw[←e];exact he h
 refine⟨?_, ?_⟩
 ·exact h1
 ·rw[h1];simp;omega
theorem Io.of{w w':World}{cb k j:Nat}{s L:List UInt8}{p:UInt8→Bool}(h1:(s.drop k).takeWhile p=(s.drop k).take (j-k))(h2:((s.drop k).takeWhile p).length=j-k)(hkj:k≤j)(hs:ScAt w' cb s j)(hg:w.grownBy w' (some cb))(hL:L=(s.drop k).take (j-k)):
 Io w cb s k p (.returned (.string ⟨L.toArray⟩)) w':=by
 refine⟨by rw[hL,h1], ?_,hg⟩;rw[h2,show k+(j-k)=j by omega];exact hs
theorem MF(cb:Nat)(s:List UInt8)(k:Nat)(w:World)(hC:ScAt w cb s k)(hk:k≤s.length)(hl:s.length≤1000000):
 Calls Tryz.prog 94 #[.pointer (some ⟨cb,0,none⟩),.func (.func 96) #[] #[]] w (Io w cb s k Hg.Ab):=by
 obtain⟨c0,c1,f0⟩:=hC.read;have HC:=zz hC;clear hC;go_enter Tryz.func94,Tryz.ntmps94;go_wp2;have hg0:=Bo w (some cb)
 go_loopw [] (fun wr=>∃j:Nat,k≤j∧j≤s.length∧ScAt wr cb s j∧w.grownBy wr (some cb)∧∀i,k≤i→i < j→(hi:i < s.length)→Hg.Ab s[i]=true) (fun wr=>s.length-CZ wr ⟨cb,1,none⟩)
 case atStart=>exact⟨k,Nat.le_refl _,hk,HC.out,hg0,fun i h1 h2=>by omega⟩
 case round=>
  obtain⟨j,hkj,hjl,hsc,hg,ha⟩:=hrel;clear c0 c1 f0 hg0;obtain⟨c0,c1,f0⟩:=hsc.read;have HS:=zz hsc;have HA:=zz ha;have HG:=zz hg;clear hsc ha hg;by_cases hlt:j < s.length
  ·have TP:∀W,Calls Tryz.prog 96 #[.int .u8 (s[j].toNat:Int)] W fun e w'=>e= .returned (.bool (Hg.Ab s[j]))∧w'=W:=fun W=>(IR s[j] W).mono fun e w' h=>⟨h.1,h.2.symm⟩
   cases hp:Hg.Ab s[j] with
   |true=>
     rw[hp] at TP;have HP:=zz hp;have hm:CZ wr ⟨cb,1,none⟩=j:=by unfold CZ;rw[c1];simp
     clear hp;go_wp2
     go_quiet (refine Calls.quiet_of_same (TP _))
     go_wp2;have hm2:CZ (wr.setCell ⟨cb,1,none⟩ (.int .i64 ((j+1:Nat):Int))) ⟨cb,1,none⟩=j+1:=by
      unfold CZ;rw[(HS.out.set (j:=j+1)).read.2.1];simp
     go_roundw
     case rel=>exact⟨j+1,by omega,by omega,(HS.out.set (j:=j+1)),Ay (Bc HG.out 1 _) _,fun i h1 h2 hi=>by
      by_cases e:i=j
      ·subst e;exact HP.out
      ·exact HA.out i h1 (by omega) hi⟩
     case measure=>
      show s.length-CZ (wr.setCell ⟨cb,1,none⟩ (.int .i64 ((j+1:Nat):Int))) ⟨cb,1,none⟩ < s.length-CZ wr ⟨cb,1,none⟩;rw[hm,hm2];omega
   |false=>
     rw[hp] at TP;obtain⟨he1,he2⟩:=run_end s Hg.Ab k j hkj hjl HA.out (fun _=>hp);have HE1:=zz he1;have HE2:=zz he2;clear hp he1 he2;go_wp2
     go_quiet (refine Calls.quiet_of_same (TP _))
     go_wp2
     go_quiet (fail)
     go_wp2;go_ret;exact Io.of HE1.out HE2.out hkj HS.out (Ay (Ay HG.out _) _) rfl
  ·obtain rfl:j=s.length:=by omega
   obtain⟨he1,he2⟩:=run_end s Hg.Ab k s.length hkj hjl HA.out (fun h=>absurd h (Nat.lt_irrefl _));have HE1:=zz he1;have HE2:=zz he2;clear he1 he2;go_wp2
   go_quiet (fail)
   go_wp2
   go_quiet (fail)
   go_wp2;go_ret;exact Io.of HE1.out HE2.out hkj HS.out (Ay (Ay HG.out _) _) (by first|rfl|simp)
def EX(c:UInt8):Bool:=c.toNat !=10
theorem WH(c:UInt8)(w:World):Calls Tryz.prog 95 #[.int .u8 (c.toNat:Int)] w fun e w'=>e= .returned (.bool (EX c))∧w=w':=by
 have hq:((c.toNat:Int) !=10)=EX c:=by unfold EX;rw[Bool.eq_iff_iff];simp;omega
 generalize EX c=q at hq⊢;generalize c.toNat=n at*;go_enter Tryz.func95,Tryz.ntmps95;go_wp2
 all_goals (go_ret;exact⟨by first|rfl|(rw[←hq];rfl),rfl⟩)
theorem Vm(cb:Nat)(s:List UInt8)(k:Nat)(w:World)(hC:ScAt w cb s k)(hk:k≤s.length)(hl:s.length≤1000000):
 Calls Tryz.prog 94 #[.pointer (some ⟨cb,0,none⟩),.func (.func 95) #[] #[]] w (Io w cb s k EX):=by
 obtain⟨c0,c1,f0⟩:=hC.read;have HC:=zz hC;clear hC;go_enter Tryz.func94,Tryz.ntmps94;go_wp2;have hg0:=Bo w (some cb)
 go_loopw [] (fun wr=>∃j:Nat,k≤j∧j≤s.length∧ScAt wr cb s j∧w.grownBy wr (some cb)∧∀i,k≤i→i < j→(hi:i < s.length)→EX s[i]=true) (fun wr=>s.length-CZ wr ⟨cb,1,none⟩)
 case atStart=>exact⟨k,Nat.le_refl _,hk,HC.out,hg0,fun i h1 h2=>by omega⟩
 case round=>
  obtain⟨j,hkj,hjl,hsc,hg,ha⟩:=hrel;clear c0 c1 f0 hg0;obtain⟨c0,c1,f0⟩:=hsc.read;have HS:=zz hsc;have HA:=zz ha;have HG:=zz hg;clear hsc ha hg;by_cases hlt:j < s.length
  ·have TP:∀W,Calls Tryz.prog 95 #[.int .u8 (s[j].toNat:Int)] W fun e w'=>e= .returned (.bool (EX s[j]))∧w'=W:=fun W=>(WH s[j] W).mono fun e w' h=>⟨h.1,h.2.symm⟩
   cases hp:EX s[j] with
   |true=>
     rw[hp] at TP;have HP:=zz hp;have hm:CZ wr ⟨cb,1,none⟩=j:=by unfold CZ;rw[c1];simp
     clear hp;go_wp2
     go_quiet (refine Calls.quiet_of_same (TP _))
     go_wp2;have hm2:CZ (wr.setCell ⟨cb,1,none⟩ (.int .i64 ((j+1:Nat):Int))) ⟨cb,1,none⟩=j+1:=by
      unfold CZ;rw[(HS.out.set (j:=j+1)).read.2.1];simp
     go_roundw
     case rel=>exact⟨j+1,by omega,by omega,(HS.out.set (j:=j+1)),Ay (Bc HG.out 1 _) _,fun i h1 h2 hi=>by
      by_cases e:i=j
      ·subst e;exact HP.out
      ·exact HA.out i h1 (by omega) hi⟩
     case measure=>
      show s.length-CZ (wr.setCell ⟨cb,1,none⟩ (.int .i64 ((j+1:Nat):Int))) ⟨cb,1,none⟩ < s.length-CZ wr ⟨cb,1,none⟩;rw[hm,hm2];omega
   |false=>
     rw[hp] at TP;obtain⟨he1,he2⟩:=run_end s EX k j hkj hjl HA.out (fun _=>hp);have HE1:=zz he1;have HE2:=zz he2;clear hp he1 he2;go_wp2
     go_quiet (refine Calls.quiet_of_same (TP _))
     go_wp2
     go_quiet (fail)
     go_wp2;go_ret;exact Io.of HE1.out HE2.out hkj HS.out (Ay (Ay HG.out _) _) rfl
  ·obtain rfl:j=s.length:=by omega
   obtain⟨he1,he2⟩:=run_end s EX k s.length hkj hjl HA.out (fun h=>absurd h (Nat.lt_irrefl _));have HE1:=zz he1;have HE2:=zz he2;clear he1 he2;go_wp2
   go_quiet (fail)
   go_wp2
   go_quiet (fail)
   go_wp2;go_ret;exact Io.of HE1.out HE2.out hkj HS.out (Ay (Ay HG.out _) _) (by first|rfl|simp)
def Tail(s:List UInt8)(l:List Hg.Tok)(acc:List Hg.Tok)(i:Nat):Prop:=i≤s.length∧∃f,s.length-i≤f∧Hg.Ak f i (s.drop i) acc=some l
def OO(s:List UInt8)(i:Nat):Prop:=∀(h:i < s.length),Hg.cls s[i]≠3∧s[i].toNat≠35
theorem Tail.blank{s:List UInt8}{l acc:List Hg.Tok}{i:Nat}(h:Tail s l acc i)(hi:i < s.length)(hc:Hg.cls s[i]=3):Tail s l acc (i+1):=by
 obtain⟨_,f,hf,hr⟩:=h;refine⟨by omega, ?_⟩;cases f with
 |zero=>omega
 |succ f=>
   rw[List.drop_eq_getElem_cons hi,Hg.Ak] at hr;rw[if_pos hc] at hr;exact⟨f,by omega,hr⟩
theorem Tail.comment{s:List UInt8}{l acc:List Hg.Tok}{i:Nat}(h:Tail s l acc i)(hi:i < s.length)(hc:Hg.cls s[i]≠3)(h35:s[i].toNat=35):
 Tail s l acc (i+((s.drop i).takeWhile EX).length)∧0 < ((s.drop i).takeWhile EX).length:=by
 obtain⟨_,f,hf,hr⟩:=h;have hle:((s.drop i).takeWhile EX).length≤(s.drop i).length:=(List.takeWhile_sublist _).length_le;have hpos:0 < ((s.drop i).takeWhile EX).length:=by
  rw[List.drop_eq_getElem_cons hi,List.takeWhile_cons,if_pos (by unfold EX;simp[h35])];simp
 refine⟨⟨by simp at hle;omega, ?_⟩,hpos⟩;cases f with
 |zero=>omega
 |succ f=>
   rw[List.drop_eq_getElem_cons hi,Hg.Ak] at hr;rw[if_neg hc,if_pos h35] at hr;dsimp only at hr;rw[←List.drop_eq_getElem_cons hi,List.drop_drop] at hr;exact⟨f,by omega,hr⟩
def X7(w:World)(cb:Nat)(s:List UInt8)(l acc:List Hg.Tok)(k:Nat)(e:Ending)(w':World):Prop:=
 ∃i,k≤i∧e= .returned (.tuple #[])∧ScAt w' cb s i∧Tail s l acc i∧OO s i∧w.grownBy w' (some cb)
theorem cls3(c:UInt8):Hg.cls c=3↔c.toNat=32∨c.toNat=9∨c.toNat=10:=by
 unfold Hg.cls;constructor
 ·intro h
  split at h
  ·omega
  ·split at h
   ·omega
   ·split at h
    ·assumption
    ·omega
 ·intro h
  rw[if_neg (by omega),if_neg (by omega),if_pos h]
theorem BP{a b c:World}{row:Option Nat}(h:a.grownBy b row)(k:b.grownBy c row):a.grownBy c row:=
 ⟨k.os.trans h.os,k.tape.trans h.tape,k.output.trans h.output,Nat.le_trans h.size k.size,fun i hi hne=>(k.block i (Nat.lt_of_lt_of_le hi h.size) hne).trans (h.block i hi hne)⟩
theorem Pe(cb:Nat)(s:List UInt8)(l acc:List Hg.Tok)(k:Nat)(w:World)(hC:ScAt w cb s k)(hl:s.length≤1000000)(hT:Tail s l acc k):
 Calls Tryz.prog 65 #[.pointer (some ⟨cb,0,none⟩)] w (X7 w cb s l acc k):=by
 have HC:=zz hC;have HT:=zz hT;have hg0:=zz (Bo w (some cb));clear hC hT;go_enter Tryz.func65,Tryz.ntmps65;go_wp2
 go_loopw [] (fun wr=>∃j:Nat,k≤j∧ScAt wr cb s j∧Tail s l acc j∧w.grownBy wr (some cb)) (fun wr=>s.length-CZ wr ⟨cb,1,none⟩)
 case atStart=>exact⟨k,Nat.le_refl _,HC.out,HT.out,hg0.out⟩
 case round=>
  obtain⟨j,hkj,hsc,htl,hg⟩:=hrel;obtain⟨c0,c1,f0⟩:=hsc.read;have hjl:j≤s.length:=htl.1;have HS:=zz hsc;have HA:=zz htl;have HG:=zz hg;have hm:CZ wr ⟨cb,1,none⟩=j:=by unfold CZ;rw[c1];simp
  have HM:=zz hm;clear hsc htl hg hg0 hm;by_cases hlt:j < s.length
  ·have hm2:CZ (wr.setCell ⟨cb,1,none⟩ (.int .i64 ((j+1:Nat):Int))) ⟨cb,1,none⟩=j+1:=by
    unfold CZ;rw[(HS.out.set (j:=j+1)).read.2.1];simp
   have HM2:=zz hm2;have hcl:=cls3 s[j];have hcl2:=HA.out.blank hlt;have hcm:=HA.out.comment hlt;have hsol:¬(s[j].toNat=32∨s[j].toNat=9∨s[j].toNat=10)→s[j].toNat≠35→OO s j:=fun h1 h2 _=>⟨fun h=>h1 (hcl.1 h),h2⟩;clear hm2;have HCL:=zz hcl;have HCL2:=zz hcl2;have HCM:=zz hcm;have HSOL:=zz hsol;clear hcl hcl2 hcm hsol;by_cases h32:s[j].toNat=32
   ·have q32:((s[j].toNat:Int)==32)=true:=by simp[h32]
    have HH:=zz h32;clear h32;go_wp2
    go_quiet (fail)
    go_wp2
    go_quiet (fail)
    go_wp2;go_roundw
    case rel=>exact⟨j+1,by omega,HS.out.set (j:=j+1),HCL2.out (HCL.out.2 (by have:=HH.out;omega)),Ay (Bc HG.out 1 _) _⟩
    case measure=>
     show s.length-CZ (wr.setCell ⟨cb,1,none⟩ (.int .i64 ((j+1:Nat):Int))) ⟨cb,1,none⟩ < s.length-CZ wr ⟨cb,1,none⟩;rw[HM.out,HM2.out];omega
   have q32:((s[j].toNat:Int)==32)=false:=by simp;omega
   by_cases h9:s[j].toNat=9
   ·have q9:((s[j].toNat:Int)==9)=true:=by simp[h9]
    have HH:=zz h9;clear h9;go_wp2
    go_quiet (fail)
    go_wp2
    go_quiet (fail)
    go_wp2;go_roundw
    case rel=>exact⟨j+1,by omega,HS.out.set (j:=j+1),HCL2.out (HCL.out.2 (by have:=HH.out;omega)),Ay (Bc HG.out 1 _) _⟩
    case measure=>
     show s.length-CZ (wr.setCell ⟨cb,1,none⟩ (.int .i64 ((j+1:Nat):Int))) ⟨cb,1,none⟩ < s.length-CZ wr ⟨cb,1,none⟩;rw[HM.out,HM2.out];omega
   have q9:((s[j].toNat:Int)==9)=false:=by simp;omega
   by_cases h10:s[j].toNat=10
   ·have q10:((s[j].toNat:Int)==10)=true:=by simp[h10]
    have HH:=zz h10;clear h10;go_wp2
    go_quiet (fail)
    go_wp2
    go_quiet (fail)
    go_wp2;go_roundw
    case rel=>exact⟨j+1,by omega,HS.out.set (j:=j+1),HCL2.out (HCL.out.2 (by have:=HH.out;omega)),Ay (Bc HG.out 1 _) _⟩
    case measure=>
     show s.length-CZ (wr.setCell ⟨cb,1,none⟩ (.int .i64 ((j+1:Nat):Int))) ⟨cb,1,none⟩ < s.length-CZ wr ⟨cb,1,none⟩;rw[HM.out,HM2.out];omega
   have q10:((s[j].toNat:Int)==10)=false:=by simp;omega
   by_cases h35:s[j].toNat=35
   ·have q35:((s[j].toNat:Int)==35)=true:=by simp[h35]
    have hc3:Hg.cls s[j]≠3:=fun h=>by have:=HCL.out.1 h;omega
    obtain⟨ht2,hpos⟩:=HCM.out hc3 h35;have HT2:=zz ht2;have HH:=zz (And.intro h32 (And.intro h9 (And.intro h10 h35)));have TR:=zz (fun(m:Nat)=>Vm cb s j (wr.drewN m) (show ScAt (wr.drewN m) cb s j from HS.out) hjl hl);clear h32 h9 h10 h35 hc3 ht2;go_wp2
    go_quiet (fail)
    go_wp2
    go_quiet (fail)
    go_wp2_with fail;refine(TR.out _).mono ?_;rintro e w1 ⟨rfl,hs1,hg1⟩;have HS1:=zz hs1;have HG1:=zz (BP (Ay HG.out _) hg1);have hm3:CZ w1 ⟨cb,1,none⟩=j+((s.drop j).takeWhile EX).length:=by unfold CZ;rw[hs1.read.2.1];simp;omega
    have HM3:=zz hm3;have hle:((s.drop j).takeWhile EX).length≤(s.drop j).length:=(List.takeWhile_sublist _).length_le;clear hs1 hg1 hm3 c0 c1 f0;generalize((s.drop j).takeWhile EX).length=m at HS1 HM3 HT2 hpos hle;go_wp2;go_roundw
    case rel=>exact⟨j+m,by omega,HS1.out,HT2.out,HG1.out⟩
    case measure=>rw[HM3.out,HM.out];omega
   ·have q35:((s[j].toNat:Int)==35)=false:=by simp;omega
    have hso:=HSOL.out (by omega) h35;have HSO:=zz hso;have HH:=zz (And.intro h32 (And.intro h9 (And.intro h10 h35)));clear h32 h9 h10 h35 hso;go_wp2
    go_quiet (fail)
    go_wp2
    go_quiet (fail)
    go_wp2;go_end0;exact⟨j,hkj,rfl,HS.out,HA.out,HSO.out,Ay HG.out _⟩
  ·have hso:OO s j:=fun h=>absurd h hlt
   have HSO:=zz hso;have hq:decide (j < s.length)=false:=by simpa using hlt
   have hq2:decide ((j:Int) < (s.length:Int))=false:=by simp;omega
   have HL:=zz hlt;clear hso hlt;go_wp2
   go_quiet (fail)
   go_wp2;go_end0;exact⟨j,hkj,rfl,HS.out,HA.out,HSO.out,Ay HG.out _⟩
def XK(l:List Hg.Tok):Prop:=∀t∈l,t.kind=2→∃n,n < 10∧t.text=[UInt8.ofNat (48+n)]
theorem GL:∀(f i:Nat) (s:List UInt8) (acc l:List Hg.Tok),Hg.Ak f i s acc=some l→∃m,l=acc++m
 |0,i,s,acc,l,h=>⟨[],by rw[Hg.Ak] at h;injection h with h;simp[h]⟩
 |f+1,i,[],acc,l,h=>⟨[],by rw[Hg.Ak] at h;injection h with h;simp[h]⟩
 |f+1,i,c::r,acc,l,h=>by
   rw[Hg.Ak] at h;have hadd:∀(k:Nat) (q:List UInt8) (t:Hg.Tok),Hg.Ak f k q (acc++[t])=some l→∃m,l=acc++m:=by
    intro k q t h;obtain⟨m,hm⟩:=GL f k q _ l h;exact⟨t::m,by rw[hm];simp⟩
   dsimp only at h
   split at h
   ·exact GL f _ _ acc l h
   ·split at h
    ·exact GL f _ _ acc l h
    ·split at h
     ·split at h
      ·exact hadd _ _ _ h
      ·split at h
       ·exact hadd _ _ _ h
       ·split at h
        ·exact hadd _ _ _ h
        ·cases h
     ·generalize(if Hg.inL Hg.signs ((c::r).take 2)=true∧2≤(c::r).length then(c::r).take 2 else(c::r).take 1)=q at h
      split at h
      ·exact hadd _ _ _ h
      ·cases h
theorem Tail.mem{s:List UInt8}{l acc:List Hg.Tok}{i:Nat}{t:Hg.Tok}(h:Tail s l (acc++[t]) i):t∈l:=by
 obtain⟨_,f,_,hr⟩:=h;obtain⟨m,hm⟩:=GL f _ _ _ _ hr;rw[hm];simp
inductive Nxt (s:List UInt8) (k:Nat):Hg.Tok→Prop
 |word (w:List UInt8) (hp:∀h:k < s.length,Hg.Ab s[k]=true) (hw:(s.drop k).takeWhile Hg.Ab=w) (h:Hg.inL Hg.words w=true):Nxt s k ⟨3,w,k⟩
 |name (w:List UInt8) (hp:∀h:k < s.length,Hg.Ab s[k]=true) (hw:(s.drop k).takeWhile Hg.Ab=w) (h:Hg.inL Hg.words w=false) (hn:Hg.Bz w=true):Nxt s k ⟨1,w,k⟩
 |num (w:List UInt8) (hp:∀h:k < s.length,Hg.Ab s[k]=true) (hw:(s.drop k).takeWhile Hg.Ab=w) (h:Hg.inL Hg.words w=false) (hn:Hg.Bz w=false):Nxt s k ⟨2,w,k⟩
 |two (hp:∀h:k < s.length,Hg.Ab s[k]=false) (h:Hg.inL Hg.signs ((s.drop k).take 2)=true) (hl:k+2≤s.length):Nxt s k ⟨4,(s.drop k).take 2,k⟩
 |one (hp:∀h:k < s.length,Hg.Ab s[k]=false) (h2:Hg.inL Hg.signs ((s.drop k).take 2)=false∨s.length < k+2) (h:Hg.inL Hg.signs ((s.drop k).take 1)=true):Nxt s k ⟨4,(s.drop k).take 1,k⟩
theorem Pq(c:UInt8)(h:Hg.cls c≠3):0 < Hg.cls c↔Hg.Ab c=true:=by
 have:=Rx c;unfold Hg.Ab;simp only[Bool.or_eq_true,beq_iff_eq];omega
theorem Tail.next{s:List UInt8}{l acc:List Hg.Tok}{k:Nat}(hT:Tail s l acc k)(hS:OO s k)(hk:k < s.length):
 ∃t,Nxt s k t∧Tail s l (acc++[t]) (k+t.text.length)∧0 < t.text.length:=by
 obtain⟨_,f,hf,hr⟩:=hT;obtain⟨h3,h35⟩:=hS hk;cases f with
 |zero=>omega
 |succ f=>
   have hd:=List.drop_eq_getElem_cons hk;have hlen:(s.drop k).length=s.length-k:=by simp
   rw[hd,Hg.Ak,if_neg h3,if_neg h35] at hr;dsimp only at hr;rw[←hd] at hr;have hfin:∀(t:Hg.Tok),Nxt s k t→t.pos=k→0 < t.text.length→t.text.length≤s.length-k→Hg.Ak f (k+t.text.length) ((s.drop k).drop t.text.length) (acc++[t])=some l→∃t,Nxt s k t∧Tail s l (acc++[t]) (k+t.text.length)∧0 < t.text.length:=by
    intro t h1 _ h2 h4 h5;rw[List.drop_drop] at h5;exact⟨t,h1,⟨by omega,f,by omega,h5⟩,h2⟩
   by_cases h0:0 < Hg.cls s[k]
   ·have hp:=(Pq _ h3).1 h0
    rw[if_pos h0] at hr;have hpos:0 < ((s.drop k).takeWhile Hg.Ab).length:=by rw[hd,List.takeWhile_cons,if_pos hp];simp
    have hle:((s.drop k).takeWhile Hg.Ab).length≤s.length-k:=by rw[←hlen];exact(List.takeWhile_sublist _).length_le
    by_cases a1:Hg.inL Hg.words ((s.drop k).takeWhile Hg.Ab)=true
    ·rw[if_pos a1] at hr
     exact hfin _ (.word _ (fun _=>hp) rfl a1) rfl hpos hle hr
    ·rw[if_neg a1] at hr
     have a1':Hg.inL Hg.words ((s.drop k).takeWhile Hg.Ab)=false:=by simpa using a1
     by_cases a2:Hg.Bz ((s.drop k).takeWhile Hg.Ab)=true
     ·rw[if_pos a2] at hr
      exact hfin _ (.name _ (fun _=>hp) rfl a1' a2) rfl hpos hle hr
     ·rw[if_neg a2] at hr
      split at hr
      ·exact hfin _ (.num _ (fun _=>hp) rfl a1' (by simpa using a2)) rfl hpos hle hr
      ·cases hr
   ·have hp:Hg.Ab s[k]=false:=by
     cases h:Hg.Ab s[k] with
     |false=>rfl
     |true=>exact absurd ((Pq _ h3).2 h) h0
    rw[if_neg h0] at hr;by_cases a1:Hg.inL Hg.signs ((s.drop k).take 2)=true∧2≤(s.drop k).length
    ·rw[if_pos a1,if_pos a1.1] at hr
     have hl2:((s.drop k).take 2).length=2:=by rw[List.length_take];omega
     exact hfin _ (.two (fun _=>hp) a1.1 (by omega)) rfl (by show 0 < ((s.drop k).take 2).length;omega) (by show((s.drop k).take 2).length≤_;omega) hr
    ·rw[if_neg a1] at hr
     split at hr
     ·rename_i a2
      have hl1:((s.drop k).take 1).length=1:=by rw[List.length_take];omega
      refine hfin _ (.one (fun _=>hp) ?_ a2) rfl (by show 0 < ((s.drop k).take 1).length;omega) (by show((s.drop k).take 1).length≤_;omega) hr;cases hin:Hg.inL Hg.signs ((s.drop k).take 2) with
      |false=>exact .inl rfl
      |true=>
        refine .inr ?_;rcases Nat.lt_or_ge (s.drop k).length 2 with hx|hx
        ·omega
        ·exact absurd ⟨hin,hx⟩ a1
     ·cases hr
@[reducible] def tokV(t:Hg.Tok):Value:= .agg #[.int .u8 (t.kind:Int),strV t.text,.int .i64 (t.pos:Int)]
def EU(w:World)(cb:Nat)(s:List UInt8)(t:Hg.Tok)(i:Nat)(e:Ending)(w':World):Prop:=
 e= .returned (.tuple #[tokV t,.bool true])∧ScAt w' cb s i∧w.grownBy w' (some cb)
theorem CG{w w2:World}{row:Option Nat}(h:w.grownBy w2 row){p:Addr}(hp:w.heap.size≤p.block)(u:Value):w.grownBy (w2.setCell p u) row:=
 ⟨h.os,h.tape,h.output,by simpa using h.size,fun j hj hne=>(Below.heap_setCell w2 p u j (by omega)).trans (h.block j hj hne)⟩
theorem ScAt.Q9{w:World}{cb k:Nat}{s:List UInt8}(h:ScAt w cb s k){p:Addr}(hp:cb < p.block)(u:Value):ScAt (w.setCell p u) cb s k:=
 h.keep (Below.heap_setCell w p u cb (by omega))
theorem Br{w w1 w2:World}{row:Option Nat}(h:w.grownBy w1 row)(hb:Below w1.heap.size w1 w2):w.grownBy w2 row:=
 ⟨hb.os.trans h.os,hb.tape.trans h.tape,hb.output.trans h.output,Nat.le_trans h.size hb.size,fun j hj hne=>(hb.block j (Nat.lt_of_lt_of_le hj h.size)).trans (h.block j hj hne)⟩
theorem EU.of{w w2:World}{cb j:Nat}{s:List UInt8}{t:Hg.Tok}(hcb:cb < w.heap.size)(hs:ScAt w2 cb s j)(hg:w.grownBy w2 (some cb))(u0 u1 u2:Value):
 EU w cb s t j (.returned (.tuple #[tokV t,.bool true])) (((w2.setCell ⟨w.heap.size,0,none⟩ u0).setCell ⟨w.heap.size,1,none⟩ u1).setCell ⟨w.heap.size,2,none⟩ u2):=
 ⟨rfl,((hs.Q9 (p:=⟨w.heap.size,0,none⟩) hcb _).Q9 (p:=⟨w.heap.size,1,none⟩) hcb _).Q9 (p:=⟨w.heap.size,2,none⟩) hcb _,
  CG (CG (CG hg (p:=⟨w.heap.size,0,none⟩) (Nat.le_refl _) _) (p:=⟨w.heap.size,1,none⟩) (Nat.le_refl _) _) (p:=⟨w.heap.size,2,none⟩) (Nat.le_refl _) _⟩
theorem Ub(cb:Nat)(s W:List UInt8)(k:Nat)(w:World)(hC:ScAt w cb s k)(hl:s.length≤1000000)(hk:k < s.length)(hTab:Bl w)(hcb:0 < cb)
 (hp:Hg.Ab s[k]=true) (hw:(s.drop k).takeWhile Hg.Ab=W) (hin:Hg.inL Hg.words W=true):
 Calls Tryz.prog 66 #[.pointer (some ⟨cb,0,none⟩)] w (EU w cb s ⟨3,W,k⟩ (k+W.length)):=by
 obtain⟨c0,c1,f0⟩:=hC.read;have hlt:=hC.lt;have TP:=IR s[k];rw[hp] at TP;have hg0:w.grownBy (w.alloc (.cells #[.int .u8 0,.string ⟨#[]⟩,.int .i64 0] 122)) (some cb):=World.grownBy_alloc w _ _;have hC0:ScAt (w.alloc (.cells #[.int .u8 0,.string ⟨#[]⟩,.int .i64 0] 122)) cb s k:=hC.keep ((World.grownBy_alloc w _ none).block cb hlt (by simp));have TR:=zz (MF cb s k _ hC0 (Nat.le_of_lt hk) hl);have hnew:∀w1,(w.alloc (.cells #[.int .u8 0,.string ⟨#[]⟩,.int .i64 0] 122)).grownBy w1 (some cb)→w1.heap[w.heap.size]? =some (.cells #[.int .u8 0,.string ⟨#[]⟩,.int .i64 0] 122 (0,0)):=
  fun w1 h=>(h.block w.heap.size (by simp) (fun e=>by injection e;omega)).trans (heap_alloc_new w _)
 have HNEW:=zz hnew;have HG0:=zz hg0;have HTAB:=zz (show∀w1,w.grownBy w1 (some cb)→Bl w1 from fun w1 h=>hTab.block (h.block _ hTab.lt (fun e=>by injection e with e;omega)));have HIN:=zz hin;clear hC hp hg0 hC0 hnew hTab hin;go_enter Tryz.func66,Tryz.ntmps66
 go_wp2_with (go_at_call 96;refine(TP _).mono ?_;rintro e w' ⟨rfl,rfl⟩)
 refine TR.out.mono ?_;rintro e w1 ⟨rfl,hs1,hg1⟩;rw[hw] at hs1⊢;have hgw1:=BP HG0.out hg1;have hh1:=HNEW.out w1 hg1;have HS1:=zz hs1;have TW:=Hm W w1 (HTAB.out w1 hgw1);rw[HIN.out] at TW;have TW:=zz TW;have HG1:=zz hgw1;have HH1:=zz hh1;clear hs1 hg1 hgw1 hh1 TP c0 c1 f0 hw TR HNEW HG0;go_wp2_with fail;refine TW.out.mono ?_;rintro e w2 ⟨rfl,hb2⟩;have hs2:=zz (HS1.out.keep (hb2.block cb HS1.out.lt));have hg2:=zz (Br HG1.out hb2);have hh2:w2.heap[w.heap.size]? =some (.cells #[.int .u8 0,.string ⟨#[]⟩,.int .i64 0] 122 (0,0)):=(hb2.block _ (Array.getElem?_eq_some_iff.1 HH1.out).1).trans HH1.out;have cc:=fun i=>cell_of_row w2 w.heap.size i _ _ (0,0) hh2;have z0:=cc 0;have z1:=cc 1;have z2:=cc 2;simp at z0 z1 z2;have f2:∀i,w2.frozen? ⟨w.heap.size,i,none⟩=false:=fun i=>by simp[World.frozen?,hh2]
 clear cc hh2 hb2;go_wp2;exact bodyPost_ret (v:= .tuple #[tokV ⟨3,W,k⟩,.bool true]) (by simp[results,Tryz.results66,go_sem,z0,z1,z2,f2]) rfl (EU.of hlt hs2.out hg2.out _ _ _)
theorem Ud(cb:Nat)(s W:List UInt8)(k:Nat)(w:World)(hC:ScAt w cb s k)(hl:s.length≤1000000)(hk:k < s.length)(hTab:Bl w)(hcb:0 < cb)
 (hp:Hg.Ab s[k]=true) (hw:(s.drop k).takeWhile Hg.Ab=W) (hin:Hg.inL Hg.words W=false) (hn:Hg.Bz W=true):
 Calls Tryz.prog 66 #[.pointer (some ⟨cb,0,none⟩)] w (EU w cb s ⟨1,W,k⟩ (k+W.length)):=by
 obtain⟨c0,c1,f0⟩:=hC.read;have hlt:=hC.lt;have TP:=IR s[k];rw[hp] at TP;have hg0:w.grownBy (w.alloc (.cells #[.int .u8 0,.string ⟨#[]⟩,.int .i64 0] 122)) (some cb):=World.grownBy_alloc w _ _;have hC0:ScAt (w.alloc (.cells #[.int .u8 0,.string ⟨#[]⟩,.int .i64 0] 122)) cb s k:=hC.keep ((World.grownBy_alloc w _ none).block cb hlt (by simp));have TR:=zz (MF cb s k _ hC0 (Nat.le_of_lt hk) hl);have hnew:∀w1,(w.alloc (.cells #[.int .u8 0,.string ⟨#[]⟩,.int .i64 0] 122)).grownBy w1 (some cb)→w1.heap[w.heap.size]? =some (.cells #[.int .u8 0,.string ⟨#[]⟩,.int .i64 0] 122 (0,0)):=
  fun w1 h=>(h.block w.heap.size (by simp) (fun e=>by injection e;omega)).trans (heap_alloc_new w _)
 have HNEW:=zz hnew;have HG0:=zz hg0;have HTAB:=zz (show∀w1,w.grownBy w1 (some cb)→Bl w1 from fun w1 h=>hTab.block (h.block _ hTab.lt (fun e=>by injection e with e;omega)));have HIN:=zz hin;have HNM:=zz hn;have hWL:=zz (show W.length≤1000000 from by rw[←hw];have:=(List.takeWhile_sublist (l:=s.drop k) Hg.Ab).length_le;simp at this;omega);clear hn hC hp hg0 hC0 hnew hTab hin;go_enter Tryz.func66,Tryz.ntmps66
 go_wp2_with (go_at_call 96;refine(TP _).mono ?_;rintro e w' ⟨rfl,rfl⟩)
 refine TR.out.mono ?_;rintro e w1 ⟨rfl,hs1,hg1⟩;rw[hw] at hs1⊢;have hgw1:=BP HG0.out hg1;have hh1:=HNEW.out w1 hg1;have HS1:=zz hs1;have TW:=Hm W w1 (HTAB.out w1 hgw1);rw[HIN.out] at TW;have TW:=zz TW;have HG1:=zz hgw1;have HH1:=zz hh1;clear hs1 hg1 hgw1 hh1 TP c0 c1 f0 hw TR HNEW HG0;go_wp2_with fail;refine TW.out.mono ?_;rintro e w2 ⟨rfl,hb2⟩;have hs2:=zz (HS1.out.keep (hb2.block cb HS1.out.lt));have hg2:=zz (Br HG1.out hb2);have hh2:w2.heap[w.heap.size]? =some (.cells #[.int .u8 0,.string ⟨#[]⟩,.int .i64 0] 122 (0,0)):=(hb2.block _ (Array.getElem?_eq_some_iff.1 HH1.out).1).trans HH1.out;have hWl:W.length≤1000000000:=by have:=HS1.out;have:=hWL.out;omega
 have TS:=JV W w2 hWl;rw[HNM.out] at TS;have TS:=zz TS;clear hb2;go_wp2_with fail;refine TS.out.mono ?_;rintro e w3 ⟨rfl,rfl⟩;have cc:=fun i=>cell_of_row w2 w.heap.size i _ _ (0,0) hh2;have z0:=cc 0;have z1:=cc 1;have z2:=cc 2;simp at z0 z1 z2;have f2:∀i,w2.frozen? ⟨w.heap.size,i,none⟩=false:=fun i=>by simp[World.frozen?,hh2]
 clear cc hh2;go_wp2;exact bodyPost_ret (v:= .tuple #[tokV ⟨1,W,k⟩,.bool true]) (by simp[results,Tryz.results66,go_sem,z0,z1,z2,f2]) rfl (EU.of hlt hs2.out hg2.out _ _ _)
theorem Pd:∀n,n < 10→Go.Lib.parseIntB 64 [UInt8.ofNat (48+n)]= .ok (n:Int):=by decide+kernel
theorem Od(n:Nat)(h:n < 10):Go.Lib.decDigits n=[UInt8.ofNat (48+n)]:=by unfold Go.Lib.decDigits;rw[dif_pos h]
theorem LG(n:Nat)(h:n < 10)(W:List UInt8)(hW:W=[UInt8.ofNat (48+n)])(w:World):
 Calls Tryz.prog 99 #[.string ⟨W.toArray⟩,.int .i64 10,.int .i64 64] w fun e w'=>e= .returned (.tuple #[.int .i64 (n:Int),.nilIface])∧Below w.heap.size w w':=by
 have h1:=Tryz.strconv_ParseInt_10_at64_ok ⟨W.toArray⟩ (by rw[hW];simp[ByteArray.size]) (n:Int) (by rw[hW];simpa using Pd n h) w;refine h1.mono ?_;rintro e w' ⟨rfl,hw⟩;refine⟨rfl, ?_⟩;rcases hw with rfl|⟨t,rfl⟩
 ·exact Below.refl _ _
 ·exact Go.Lib.bytesWorld_below _ _ _
theorem O8(n:Nat)(h:n < 10)(W:List UInt8)(hW:W=[UInt8.ofNat (48+n)])(w:World):
 Calls Tryz.prog 100 #[.int .i64 (n:Int),.int .i64 10] w fun e w'=>e= .returned (strV W)∧w=w':=by
 refine(Tryz.strconv_FormatInt_10_small n (by omega) w).mono ?_;rintro e w' ⟨rfl,rfl⟩;exact⟨by rw[Od n h,hW],rfl⟩
theorem V5(cb:Nat)(s W:List UInt8)(k:Nat)(w:World)(hC:ScAt w cb s k)(hl:s.length≤1000000)(hk:k < s.length)(hTab:Bl w)(hcb:0 < cb)
 (hp:Hg.Ab s[k]=true) (hw:(s.drop k).takeWhile Hg.Ab=W) (hin:Hg.inL Hg.words W=false) (hn:Hg.Bz W=false) (n:Nat) (hn10:n < 10) (hnW:W=[UInt8.ofNat (48+n)]):
 Calls Tryz.prog 66 #[.pointer (some ⟨cb,0,none⟩)] w (EU w cb s ⟨2,W,k⟩ (k+W.length)):=by
 obtain⟨c0,c1,f0⟩:=hC.read;have hlt:=hC.lt;have TP:=IR s[k];rw[hp] at TP;have hg0:w.grownBy (w.alloc (.cells #[.int .u8 0,.string ⟨#[]⟩,.int .i64 0] 122)) (some cb):=World.grownBy_alloc w _ _;have hC0:ScAt (w.alloc (.cells #[.int .u8 0,.string ⟨#[]⟩,.int .i64 0] 122)) cb s k:=hC.keep ((World.grownBy_alloc w _ none).block cb hlt (by simp));have TR:=zz (MF cb s k _ hC0 (Nat.le_of_lt hk) hl);have hnew:∀w1,(w.alloc (.cells #[.int .u8 0,.string ⟨#[]⟩,.int .i64 0] 122)).grownBy w1 (some cb)→w1.heap[w.heap.size]? =some (.cells #[.int .u8 0,.string ⟨#[]⟩,.int .i64 0] 122 (0,0)):=
  fun w1 h=>(h.block w.heap.size (by simp) (fun e=>by injection e;omega)).trans (heap_alloc_new w _)
 have HNEW:=zz hnew;have HG0:=zz hg0;have HTAB:=zz (show∀w1,w.grownBy w1 (some cb)→Bl w1 from fun w1 h=>hTab.block (h.block _ hTab.lt (fun e=>by injection e with e;omega)));have HIN:=zz hin;have HNM:=zz hn;have hWL:=zz (show W.length≤1000000 from by rw[←hw];have:=(List.takeWhile_sublist (l:=s.drop k) Hg.Ab).length_le;simp at this;omega);have HNW:=zz hnW;clear hn hnW hC hp hg0 hC0 hnew hTab hin;go_enter Tryz.func66,Tryz.ntmps66
 go_wp2_with (go_at_call 96;refine(TP _).mono ?_;rintro e w' ⟨rfl,rfl⟩)
 refine TR.out.mono ?_;rintro e w1 ⟨rfl,hs1,hg1⟩;rw[hw] at hs1⊢;have hgw1:=BP HG0.out hg1;have hh1:=HNEW.out w1 hg1;have HS1:=zz hs1;have TW:=Hm W w1 (HTAB.out w1 hgw1);rw[HIN.out] at TW;have TW:=zz TW;have HG1:=zz hgw1;have HH1:=zz hh1;clear hs1 hg1 hgw1 hh1 TP c0 c1 f0 hw TR HNEW HG0;go_wp2_with fail;refine TW.out.mono ?_;rintro e w2 ⟨rfl,hb2⟩;have hs2:=zz (HS1.out.keep (hb2.block cb HS1.out.lt));have hg2:=zz (Br HG1.out hb2);have hh2:w2.heap[w.heap.size]? =some (.cells #[.int .u8 0,.string ⟨#[]⟩,.int .i64 0] 122 (0,0)):=(hb2.block _ (Array.getElem?_eq_some_iff.1 HH1.out).1).trans HH1.out;have hWl:W.length≤1000000000:=by have:=HS1.out;have:=hWL.out;omega
 have TS:=JV W w2 hWl;rw[HNM.out] at TS;have TS:=zz TS;clear hb2;go_wp2_with fail;refine TS.out.mono ?_;rintro e w3 ⟨rfl,rfl⟩;have TPI:=zz (LG n hn10 W HNW.out w2);have TFI:=fun W0=>zz (O8 n hn10 W HNW.out W0);go_wp2_with fail;refine TPI.out.mono ?_;rintro e w3 ⟨rfl,hb3⟩;have hs2:=zz (hs2.out.keep (hb3.block cb hs2.out.lt));have hg2:=zz (Br hg2.out hb3);have hh2:w3.heap[w.heap.size]? =some (.cells #[.int .u8 0,.string ⟨#[]⟩,.int .i64 0] 122 (0,0)):=(hb3.block _ (Array.getElem?_eq_some_iff.1 hh2).1).trans hh2;have hqe:(W==W)=true:=by simp
 have cc:=fun i=>cell_of_row w3 w.heap.size i _ _ (0,0) hh2;have z0:=cc 0;have z1:=cc 1;have z2:=cc 2;simp at z0 z1 z2;have f2:∀i,w3.frozen? ⟨w.heap.size,i,none⟩=false:=fun i=>by simp[World.frozen?,hh2]
 clear cc hh2
 go_wp2_with (go_at_call 100;refine(TFI _).out.mono ?_;rintro e w4 ⟨rfl,rfl⟩)
 exact bodyPost_ret (v:= .tuple #[tokV ⟨2,W,k⟩,.bool true]) (by simp[results,Tryz.results66,go_sem,z0,z1,z2,f2]) rfl (EU.of hlt hs2.out hg2.out _ _ _)
def sgT(s:List UInt8)(k m:Nat):List UInt8:=(s.drop k).take m
theorem Ki(cb:Nat)(s T:List UInt8)(k mt:Nat)(w:World)(hC:ScAt w cb s k)(hl:s.length≤1000000)(hk:k < s.length)(hTab:Bl w)(hcb:0 < cb)
 (hp:Hg.Ab s[k]=false) (hmt:(mt=2∧Hg.inL Hg.signs (sgT s k 2)=true)∨(mt=1∧Hg.inL Hg.signs (sgT s k 2)=false∧Hg.inL Hg.signs (sgT s k 1)=true)) (hT:T=sgT s k mt):
 Calls Tryz.prog 66 #[.pointer (some ⟨cb,0,none⟩)] w (EU w cb s ⟨4,T,k⟩ (k+T.length)):=by
 obtain⟨c0,c1,f0⟩:=hC.read;have hlt:=hC.lt;have TP:=IR s[k];rw[hp] at TP;have hg0:w.grownBy (w.alloc (.cells #[.int .u8 0,.string ⟨#[]⟩,.int .i64 0] 122)) (some cb):=World.grownBy_alloc w _ _;have hC0:ScAt (w.alloc (.cells #[.int .u8 0,.string ⟨#[]⟩,.int .i64 0] 122)) cb s k:=hC.keep ((World.grownBy_alloc w _ none).block cb hlt (by simp));have hh0:(w.alloc (.cells #[.int .u8 0,.string ⟨#[]⟩,.int .i64 0] 122)).heap[w.heap.size]? =some (.cells #[.int .u8 0,.string ⟨#[]⟩,.int .i64 0] 122 (0,0)):=heap_alloc_new w _;have HTAB:=zz (show∀w1,w.grownBy w1 (some cb)→Bl w1 from fun w1 h=>hTab.block (h.block _ hTab.lt (fun e=>by injection e with e;omega)));have HMT:=zz hmt;have HT:=zz hT;clear hC hp hTab hmt hT;go_enter Tryz.func66,Tryz.ntmps66
 go_wp2_with (go_at_call 96;refine(TP _).mono ?_;rintro e w' ⟨rfl,rfl⟩)
 generalize World.alloc w _=w0 at hg0 hC0 hh0⊢
 go_loopw [8] (fun p wr=>∃m:Nat,p= .int .i64 (m:Int)∧(m=2∨(m=1∧mt=1))∧ScAt wr cb s k∧w.grownBy wr (some cb)∧wr.heap[w.heap.size]? =some (.cells #[.int .u8 0,.string ⟨#[]⟩,.int .i64 0] 122 (0,0))) (fun p wr=>(intOf p).toNat)
 case atStart=>exact⟨2,rfl,.inl rfl,hC0,hg0,hh0⟩
 case round=>
  obtain⟨m,rfl,hm,hs1,hg1,hh1⟩:=hrel;clear c0 c1 f0 hg0 hC0 hh0 TP;obtain⟨c0,c1,f0⟩:=hs1.read;have HS:=zz hs1;have HG:=zz hg1;have HH:=zz hh1;have hm1:1≤m∧m≤2:=by omega
  have HM:=zz hm;clear hs1 hg1 hh1 hm;obtain⟨hm1,hm2⟩:=hm1;have hq:decide (0 < (m:Int))=true:=by simp;omega
  have hq':decide (0 < m)=true:=by simp;omega
  have hw1:IntKind.i64.wrap ((k:Int)+(m:Int))=(k:Int)+(m:Int):=IntWalk.i64_in _ (by omega);have HTAB2:=zz (fun n=>HTAB.out (wr.drewN n) (Ay HG.out n));go_wp2
  go_quiet (fail)
  have hT1:(List.take ((min ((k:Int)+(m:Int)) (s.length:Int)).toNat-k) (List.drop k s))=sgT s k m:=by
   unfold sgT;rcases Nat.le_total (k+m) s.length with h|h
   ·rw[show(min ((k:Int)+(m:Int)) (s.length:Int)).toNat-k=m by omega]
   ·rw[show(min ((k:Int)+(m:Int)) (s.length:Int)).toNat-k=s.length-k by omega,List.take_of_length_le (by simp),List.take_of_length_le (by simp;omega)]
  rw[hT1];have hTl:(sgT s k m).length≤2:=by unfold sgT;rw[List.length_take];omega
  clear hT1;have TS:=zz (fun n=>Q6 (wr.drewN n) (HTAB2.out n));cases hin:Hg.inL Hg.signs (sgT s k m) with
  |true=>
    have hmm:T=sgT s k m:=by
     rcases HMT.out with⟨h1,h2⟩|⟨h1,h2,h3⟩
     ·rcases HM.out with h|⟨_,h⟩
      ·rw[HT.out,h,h1]
      ·omega
     ·rcases HM.out with h|⟨h,_⟩
      ·rw[h,h2] at hin;cases hin
      ·rw[HT.out,h,h1]
    rw[←hmm] at hin hTl⊢;have HIN:=zz hin;clear hin hmm;have hw2:IntKind.i64.wrap ((k:Int)+(T.length:Int))=(k:Int)+(T.length:Int):=IntWalk.i64_in _ (by omega);go_wp2_with fail;refine(TS.out _).mono ?_;rintro e w1 ⟨a1,rfl,hx1,hb1⟩;have TC:=Gc _ _ Hg.signs T w1 hx1 (by decide);rw[HIN.out] at TC;have TC:=zz TC;have hg1:=Br (Ay HG.out _) hb1;have hs1:ScAt w1 cb s k:=HS.out.keep (hb1.block cb HS.out.lt);have hh1:w1.heap[w.heap.size]? =some (.cells #[.int .u8 0,.string ⟨#[]⟩,.int .i64 0] 122 (0,0)):=(hb1.block _ (Array.getElem?_eq_some_iff.1 HH.out).1).trans HH.out;clear c0 c1 f0 hx1 hb1;obtain⟨c0,c1,f0⟩:=hs1.read;have cc:=fun i=>cell_of_row w1 w.heap.size i _ _ (0,0) hh1;have z0:=cc 0;have z1:=cc 1;have z2:=cc 2;simp at z0 z1 z2;have f2:∀i,w1.frozen? ⟨w.heap.size,i,none⟩=false:=fun i=>by simp[World.frozen?,hh1]
    have hs2:=zz (hs1.set (j:=k+T.length));have hg2:=zz (Bc hg1 1 (.int .i64 ((k+T.length:Nat):Int)));have hne:¬cb=w.heap.size:=by omega
    have hne2:¬w.heap.size=cb:=by omega
    clear cc hh1 hg1 hs1
    go_wp2_with (go_at_call 101;refine TC.out.mono ?_;rintro e w' ⟨rfl,rfl⟩)
    exact bodyPost_ret (v:= .tuple #[tokV ⟨4,T,k⟩,.bool true]) (by simp[results,Tryz.results66,go_sem,z0,z1,z2,f2,hne,hne2]) rfl (EU.of hlt hs2.out hg2.out _ _ _)
  |false=>
    have hm12:m=2∧mt=1:=by
     rcases HM.out with h|⟨h,h'⟩
     ·rcases HMT.out with⟨h1,h2⟩|⟨h1,_⟩
      ·rw[h,h2] at hin;cases hin
      ·exact⟨h,h1⟩
     ·rcases HMT.out with⟨h1,h2⟩|⟨h1,h2,h3⟩
      ·omega
      ·rw[h,h3] at hin;cases hin
    have HIN:=zz hin;have HM12:=zz hm12;clear hin hm12;go_wp2_with fail;refine(TS.out _).mono ?_;rintro e w1 ⟨a1,rfl,hx1,hb1⟩;have TC:=Gc _ _ Hg.signs (sgT s k m) w1 hx1 (by decide);rw[HIN.out] at TC;have TC:=zz TC;have hg1:=zz (Br (Ay HG.out _) hb1);have hs1:ScAt w1 cb s k:=HS.out.keep (hb1.block cb HS.out.lt);have hs1:=zz hs1;have hh1:w1.heap[w.heap.size]? =some (.cells #[.int .u8 0,.string ⟨#[]⟩,.int .i64 0] 122 (0,0)):=(hb1.block _ (Array.getElem?_eq_some_iff.1 HH.out).1).trans HH.out;have hh1:=zz hh1;clear c0 c1 f0 hx1 hb1
    go_wp2_with (go_at_call 101;refine TC.out.mono ?_;rintro e w' ⟨rfl,rfl⟩)
    go_roundw
    case rel=>exact⟨1,by have:=HM12.out.1;subst this;rfl,.inr ⟨rfl,HM12.out.2⟩,hs1.out,hg1.out,hh1.out⟩
    case measure=>simp[intOf];omega
end Go.Proofs.YtljmibnfmilfbaaGreatDoor
