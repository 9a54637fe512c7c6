/-
  Part of the proof of CheckLists.
-/
import Derived.Test.YtljmibnfmilfbaaGreatDoorKeBB
import Derived.Test.YtljmibnfmilfbaaGreatDoorKeAQ
import Derived.DeepKeys3
import Derived.Test.YtljmibnfmilfbaaGreatDoorKeAT
set_option linter.all false
set_option maxHeartbeats 32000000
set_option maxRecDepth 100000
namespace Hg
variable {L:List Tok}
theorem OB{stop:Str}{item:Nat→Option (GT×Nat)}(hi:∀k a k1,item k=some (a,k1)→k < k1∧k < L.length):∀n k l k2,EC L stop item n k=some (l,k2)→k≤k2:=by
 intro n
 induction n with
 |zero=>intro k l k2 h;cases h
 |succ n ih=>
   intro k l k2 h;rcases Hr h with⟨_,_,h⟩|⟨_,_,a,k1,m,h3,h4,_⟩
   ·omega
   ·have:=ih _ _ _ h4;have:=(hi _ _ _ h3).1;omega
theorem Wj{f k k':Nat}{a:GT}(h:gF L f k=some (a,k')):k < k'∧k < L.length:=by
 obtain⟨c1,_,_,ps,k1,t,ss,k2,e,k3,e1,_,_,e3,e4,_,_,_,h2⟩:=Wi h;have:=Uu (fun k a k1=>QZ) e1;have:=OB (fun k a k1=>Go.Proofs.YtljmibnfmilfbaaGreatDoor.Yb f 0 k a k1) _ _ _ _ e3;have:=(Wm _ _ _ _ _ e4).1;exact⟨by omega,Db c1⟩
theorem Wh{f k k':Nat}{a:GT}(h:gMod L f k=some (a,k')):tkB L k Bn=true∧Fw L (k+1)=true∧tkB L (k+2) [123]=true∧
 ∃l k1,EC L [125] (gF L f) L.length (k+3)=some (l,k1)∧a= .mk 0 ⟨2,(tkAt L (k+1)).text,0,0,0,[]⟩ [] [] l∧k'=k1+1:=by
 unfold gMod at h;by_cases c1:(tkB L k Bn && (Fw L (k+1) && tkB L (k+2) [123]))=true
 ·rw[if_pos c1] at h
  simp only[Bool.and_eq_true] at c1;refine⟨c1.1,c1.2.1,c1.2.2, ?_⟩;cases e1:EC L [125] (gF L f) L.length (k+3) with
  |none=>rw[e1] at h;cases h
  |some x=>
    obtain⟨l,k1⟩:=x;rw[e1] at h;injection h with h;injection h with h1 h2;exact⟨l,k1,rfl,h1.symm,h2.symm⟩
 ·rw[if_neg c1] at h;cases h
theorem Us{f n k:Nat}{l:List GT}(h:KC L f (n+1) k=some l):(L.length≤k∧l=[])∨(k < L.length∧∃a k1 m,gMod L f k=some (a,k1)∧KC L f n k1=some m∧l=a::m):=by
 unfold KC at h;by_cases hk:L.length≤k
 ·rw[if_pos hk] at h
  injection h with h;exact .inl ⟨hk,h.symm⟩
 ·rw[if_neg hk] at h
  refine .inr ⟨by omega, ?_⟩;cases e1:gMod L f k with
  |none=>rw[e1] at h;cases h
  |some x=>
    obtain⟨a,k1⟩:=x;rw[e1] at h;dsimp only at h;cases e2:KC L f n k1 with
    |none=>rw[e2] at h;cases h
    |some m=>
      rw[e2] at h;injection h with h;exact⟨a,k1,m,rfl,e2,h.symm⟩
end Hg
namespace Go.Proofs.YtljmibnfmilfbaaGreatDoor
open Go.RowKit
open Hg (GT tkAt tkIs EJ tkB Db EB)
theorem Pp(pb:Nat)(L:List Hg.Tok)(hL:L.length≤1000000)(t0:GT)(w:World)(hP:PaAt w pb L 0 0)(h:Hg.OC L=some t0):
 Calls Tryz.prog 41 #[.pointer (some ⟨pb,0,none⟩)] w fun e w'=>∃k,JQ w pb L k 0 t0 e w':=by
 unfold Hg.OC at h;cases hm:Hg.KC L 40 L.length 0 with
 |none=>rw[hm] at h;cases h
 |some l=>
 rw[hm] at h;injection h with h;subst h;have HM:=zz (show∃m,Hg.KC L 40 m 0=some l from⟨_,hm⟩);have HT:=zz (show TrAt w pb w.heap.size (Hg.ndK 1) [] [] (w.alloc (.cells #[.int .u8 1,.string ⟨#[]⟩,.int .i64 0,.int .u8 0,.int .u64 0,.slice none 0 0,.string ⟨#[]⟩,.string ⟨#[]⟩,.slice none 0 0,.int .u64 0] 126)) (.slice none 0 0) [] from TrAt.new hP.lt);have HP:=zz (hP.fresh (.cells #[.int .u8 1,.string ⟨#[]⟩,.int .i64 0,.int .u8 0,.int .u64 0,.slice none 0 0,.string ⟨#[]⟩,.string ⟨#[]⟩,.slice none 0 0,.int .u64 0] 126));obtain⟨j0,hj,hj0,hj1,hj2⟩:=info_parts Lx;clear hP hm;go_enter Tryz.func41,Tryz.ntmps41;go_wp2;generalize World.alloc w _=w0 at HT HP⊢;generalize w.heap.size=b0 at HT⊢
 go_loopw [] (fun wr=>∃m k v G l1,G.length≤k∧k≤L.length∧PaAt wr pb L k 0∧TrAt w pb b0 (Hg.ndK 1) [] [] wr v G∧Hg.KC L 40 m k=some l1∧GT.eraL G++l1=l) (fun wr=>L.length-paK wr pb)
 case atStart=>
  obtain⟨m,hm⟩:=HM.out;exact⟨m,0,_,[],l,Nat.le_refl _,Nat.zero_le _,HP.out,HT.out,hm,rfl⟩
 case round=>
  obtain⟨m,k,v,G,l1,hGk,hkL,hp,ht,hu,hll⟩:=hrel;have HLL:=zz hll;clear HM HP HT hll;cases m with
  |zero=>cases hu
  |succ m=>
    have hPR:=hp.read;obtain⟨pa,pc,c0,c1,-,p3,-,-⟩:=hPR;have HK:=zz hp.paK;have HTR:=zz ht;have HPR:=zz hp;rcases Hg.Us hu with⟨hk,rfl⟩|⟨hk,a,k4,l2,hit,hu2,rfl⟩
    ·have hq:decide ((k:Int) < (L.length:Int))=false:=by simp;omega
     have hq2:decide (k < L.length)=false:=by simp;omega
     clear hp ht hu hk hkL hGk;go_wp2
     go_quiet (fail)
     have HTF:=zz (HTR.out.keep (AJ (below_drewN (Below.refl _ _) nq) (some pb)));have HPF:=zz (HPR.out.keep (below_drewN (Below.refl _ _) nq));clear c0 c1 p3 HTR HPR;go_wp2;go_ret;exact⟨k,HTF.out.res HPF.out (by have:=HLL.out;simp at this;rw[this];rfl)⟩
    ·have hq:decide ((k:Int) < (L.length:Int))=true:=by simp;omega
     have hq2:decide (k < L.length)=true:=by simp;omega
     obtain⟨d1,n1,d2,fs,k5,hfs,rfl,rfl⟩:=Hg.Wh hit;have hend:=Hg.Ml _ _ _ _ hfs;have hk5:=Hg.OB (fun k a k1 h=>Hg.Wj h) _ _ _ _ hfs;have hk5L:=Db hend;have T1:=zz (fun X (hp:PaAt X pb L k 0)=>LB pb 0 L hL k Hg.Bn X X.heap.size rfl hp d1);have TN:=zz (fun X (hp:PaAt X pb L (k+1) 0)=>QH pb (k+1) 0 L X hp (Hg.QI n1) hL (Hg.MN n1));have T2:=zz (fun X (hp:PaAt X pb L (k+2) 0)=>LB pb 0 L hL (k+2) [123] X X.heap.size rfl hp d2);have HFS:=zz hfs;have HEND:=zz hend;have HU2:=zz hu2;have HG:=zz (show G.length≤1000000 by omega);have HLN:=zz (And.intro hGk hk5);generalize(tkAt L (k+1)).text=nm at TN HLL;clear hp ht hu hit hu2 hfs d1 n1 d2 hend hk5 hGk hkL;go_wp2
     go_quiet (fail)
     have HT1:=zz (HTR.out.keep (AJ (below_drewN (Below.refl _ _) nq) (some pb)));have HP1:=zz (HPR.out.keep (below_drewN (Below.refl _ _) nq));clear c0 c1 p3 HTR HPR hq hq2;generalize World.drewN wr nq=w1 at HT1 HP1⊢;go_wp2_with fail;refine(T1.out _ HP1.out).mono ?_;rintro e' w2 ⟨rfl,hp2,hg2⟩;have HT2:=zz (HT1.out.keep hg2);have HP2:=zz hp2;clear hp2 hg2 T1 HT1 HP1;go_wp2_with fail;refine(TN.out _ HP2.out).mono ?_;rintro e' w3 ⟨rfl,hp3,hg3⟩;have HT3:=zz (HT2.out.keep hg3);have HM4:=zz (show TrAt w3 pb w3.heap.size ⟨2,nm,0,0,0,[]⟩ [] [] (w3.alloc (.cells #[.int .u8 2,strV nm,.int .i64 0,.int .u8 0,.int .u64 0,.slice none 0 0,.string ⟨#[]⟩,.string ⟨#[]⟩,.slice none 0 0,.int .u64 0] 126)) (.slice none 0 0) [] from TrAt.new hp3.lt);have HP4:=zz (hp3.fresh (.cells #[.int .u8 2,strV nm,.int .i64 0,.int .u8 0,.int .u64 0,.slice none 0 0,.string ⟨#[]⟩,.string ⟨#[]⟩,.slice none 0 0,.int .u64 0] 126));clear hp3 hg3 TN HT2 HP2;go_upto_region 5 with fail;generalize World.alloc w3 _=w4 at HM4 HP4⊢;generalize w3.heap.size=mb at HM4⊢;go_wp2_with fail;refine(T2.out _ HP4.out).mono ?_;rintro e' w5 ⟨rfl,hp5,hg5⟩;have HM5:=zz (HM4.out.keep hg5);have HP5:=zz hp5;clear hp5 hg5 T2 HM4 HP4;go_wp2
     go_loopw [] (fun wi=>∃m k v2 F l1,F.length≤k∧PaAt wi pb L k 0∧TrAt w3 pb mb ⟨2,nm,0,0,0,[]⟩ [] [] wi v2 F∧Hg.EC L [125] (Hg.gF L 40) m k=some (l1,k5)∧GT.eraL F++l1=fs) (fun wi=>L.length-paK wi pb)
     case atStart=>exact⟨_,k+3,_,[],fs,Nat.zero_le _,HP5.out,HM5.out,HFS.out,rfl⟩
     case round=>
      obtain⟨m2,k2,v2,F,l3,hFk,hpi,hti,hui,hlli⟩:=hrel;have HLI:=zz hlli;clear HFS HP5 HM5 hlli;cases m2 with
      |zero=>cases hui
      |succ m2=>
        have hPR:=hpi.read;obtain⟨pa,pc,-,-,-,p3,-,-⟩:=hPR;have HKI:=zz hpi.paK;have HTI:=zz hti;have HPI:=zz hpi;rcases Hg.Hr hui with⟨hb,rfl,rfl⟩|⟨hb,hk2,a,k6,l4,hit,hu4,rfl⟩
        ·have TY:=zz (Ep pb k5 0 L [125] wr hpi (Db hb) hL (EB hb))
         clear hpi hti hui hb;go_wp2_with fail;refine TY.out.mono ?_;rintro e' w6 ⟨rfl,hp6,hg6⟩;have HM6:=zz (HTI.out.keep hg6);have HR6:=zz (HT3.out.keep HM6.out.gr);have HP6:=zz hp6;have hbl:=HR6.out.kd.lt;have hme:w3.heap.size=mb:=HM6.out.eq;have hsb:=HM6.out.gr.size;have h3b:=HT3.out.kd.sz;clear hp6 hg6 TY HTI HPI p3;obtain⟨c8,f8⟩:=HR6.out.cells;have hvr:=HR6.out.kd.own
         go_wp2_with (at_builtin;refine wpList_append_own_at _ rfl (.tmp 61) (.tmp 63) _ rfl (b0+1) 83 j0 _ 1 8 Tryz.underlying88 hj hj0 hj1 hj2 rfl (by decide) v G.length (G.map ptrV) rfl (hvr.alloc _) ⟨w6.heap.size,0,none⟩ 1 1 [.pointer (some ⟨mb,0,none⟩)] rfl rfl (Af _ _ _) ?_ ?_ ?_ ?_ ?_)
         ·intro u hu;simp only[List.mem_singleton] at hu;subst hu;rfl
         ·have:=HG.out;unfold maxLen;omega
         ·have:=HG.out;omega
         ·simp;omega
         ·intro v3 W3 own3 g3 _ at3
          obtain⟨y3,z3,rfl⟩:=ownsRow_succ own3;have hol:∀q,v.ownBlock=some q→b0+1≤q:=fun q e=>(hvr.lt q e).1;have hbn:Below w6.heap.size w6 (w6.alloc (.cells #[.pointer (some ⟨mb,0,none⟩)] 83)):=(Below.refl _ _).alloc (Nat.le_refl _) _;have hb3:=(g3.block b0 (by simp;omega) (fun e=>by have:=hol _ e.symm;omega)).trans ((hbn.block _ hbl).trans HR6.out.kd.hh);have HK6:=zz (HT3.out.grow (W1:=w6) HM6.out.gr (t:=GT.mk mb ⟨2,nm,0,0,0,[]⟩ [] [] F) (by rw[hme];exact HM6.out.kd.tree) hbn own3 g3 (by simpa using at3));have HPF:=zz ((HR6.out.keep (AJ hbn (some pb))).pa (HP6.out.keep (hbn.mono HP6.out.lt)) g3 (.slice (some ⟨y3,0,none⟩) (G.length+1) z3));have f8:∀i,W3.frozen? ⟨b0,i,none⟩=false:=fun i=>by simp[World.frozen?,hb3]
          have c8:=cell_of_row W3 b0 8 _ _ (0,0) hb3;simp at c8;clear own3 g3 at3 hb3 hbn hvr hol HR6 HP6 HM6 hsb h3b hbl;go_wp2;go_roundw
          case rel=>exact⟨m,k5+1,_,G++[GT.mk mb ⟨2,nm,0,0,0,[]⟩ [] [] F],l2,by have:=HLN.out;simp;omega,hk5L,HPF.out,HK6.out,HU2.out,by have h1:=HLI.out;simp only[List.append_nil] at h1;rw[Dl];show GT.eraL G++[GT.mk 0 _ [] [] (GT.eraL F)]++l2=l;rw[h1,←HLL.out,List.append_assoc];rfl⟩
          case measure=>have h1:=HPF.out.paK;have h2:=HLN.out;rw[h1,HK.out];omega
        ·have TN2:=zz (FK pb k2 0 L [125] wr hpi hk2 hL (SK hb hk2))
         have TS:=zz (fun X (hx:PaAt X pb L k2 0)=>O5 pb 40 k2 k6 L hL a X hx hit);have hA1:=(Hg.Wj hit).1;have HU4:=zz hu4;have HG2:=zz (show F.length≤1000000 by omega);clear hpi hti hui hb hit hu4;go_wp2_with fail;refine TN2.out.mono ?_;rintro e' w11 ⟨rfl,hb11⟩;have HT:=zz (HTI.out.keep (AJ hb11 (some pb))).drew;have HP:=zz (HPI.out.keep (hb11.mono HPI.out.lt)).drew;clear hb11 TN2 HTI HPI p3;obtain⟨hHeld,f0⟩:=HT.out.cells;go_upto_region 7 with fail;refine AR (fun w'=>w'.cell? ⟨mb,8,none⟩=some v2) 9 (by kernel_rfl) ?_;refine tz 0 _ _ _ ?_;refine tz 1 _ _ _ ?_;refine tz 2 _ _ _ ?_;refine tz 3 _ _ _ ?_;refine tz 4 _ _ _ ?_;refine tz 5 _ _ _ ?_;refine AB (i:=6) rfl (by kernel_rfl) (fun K hK=> ?_);go_simp;refine(TS.out w11.drew HP.out).mono ?_;rintro e w5 ⟨t,rfl,hera,hF5,hp5,hg5⟩;have HT5:=zz (HT.out.keep hg5);have HP5:=zz hp5;have HG5:=zz hg5;have HF5:=zz hF5;have HER:=zz hera;have hc5:=HT5.out.cells;clear hp5 hg5 hF5 hera TS HP;refine hK.out _ _ (hc5.1) (fun hHeld=> ?_);clear hK K
         try simp only[Act.put,sA,sB,sC,sD,sE,sF]
         refine AB (i:=7) rfl (by kernel_rfl) (fun K hK=> ?_);go_simp;generalize hWa:World.alloc _ _=Wa;obtain⟨hBa,hha,hza⟩:=C8 hWa;have HTa:=zz (HT5.out.keep (AJ hBa (some pb)));have hca:=HTa.out.cells;have HBa:=zz hBa;clear hza hWa hBa hc5;refine hK.out _ _ (hca.1) (fun hHeld=> ?_);clear hK K
         try simp only[Act.put,sA,sB,sC,sD,sE,sF]
         refine AB (i:=8) rfl (by kernel_rfl) (fun K hK=> ?_);have hsz:=HTa.out.kd.sz;refine Ac rfl (.tmp 50) (.tmp 53) _ rfl (mb+1) 83 j0 _ 1 8 Tryz.underlying88 hj hj0 hj1 hj2 rfl (by decide) v2 F.length (List.map ptrV F) rfl HTa.out.kd.own ⟨w5.heap.size,0,none⟩ 1 1 [ptrV t] rfl rfl ?_ (by intro u hu;simp only[List.mem_singleton] at hu;subst hu;rfl) ?_ ?_ ?_ ?_
         ·exact Ij hha
         ·have:=HG2.out;unfold maxLen;omega
         ·have:=HG2.out;omega
         ·exact hsz
         intro v3 W3 own3 g3 at3;obtain⟨y3,z3,rfl⟩:=ownsRow_succ own3;have g3':Wa.grownBy W3 v2.ownBlock:=⟨g3.os,g3.tape,g3.output,g3.size,g3.block⟩;have HK6:=zz (HT.out.grow (W1:=w5) (Wd:=Wa) HG5.out HF5.out HBa.out own3 g3' at3);have HP6:=zz (HTa.out.pa (HP5.out.keep (HBa.out.mono HP5.out.lt)) g3' (.slice (some ⟨y3,0,none⟩) (F.length+1) z3));have hX:∀q,v2.ownBlock=some q→mb+1≤q:=fun q e=>(HTa.out.kd.own.lt q e).1;have hk3:∀i,i < mb+1→W3.heap[i]? =Wa.heap[i]? :=fun i hi=>g3.block i (by omega) (fun e=>by have:=hX i e.symm;omega);have y2:=cell_of_row W3 mb 8 _ _ (0,0) ((hk3 _ (by omega)).trans HTa.out.kd.hh);have HF3:=zz (show∀i,W3.frozen? ⟨mb,i,none⟩=false from fun i=>by simp[World.frozen?,(hk3 _ (by omega)).trans HTa.out.kd.hh]);clear own3 g3 at3 g3' hX hk3 hca hsz hha;refine hK.out _ _ (y2) (fun hHeld=> ?_);clear hK K
         try simp only[Act.put,sA,sB,sC,sD,sE,sF]
         refine AL (by kernel_rfl) ?_;simp only[List.drop_succ_cons,List.drop_zero];have y2:=hHeld;have f3:=HF3.out;clear f0;go_wp2;go_roundw
         case rel=>exact⟨m2,k6,_,F++[t],l4,by simp;omega,HP6.out,HK6.out,HU4.out,by rw[Dl];show GT.eraL F++[GT.era t]++l4=fs;rw[HER.out,←HLI.out,List.append_assoc];rfl⟩
         case measure=>have:=HP6.out.paK;rw[this,HKI.out];omega
end Go.Proofs.YtljmibnfmilfbaaGreatDoor
namespace Go.Proofs.YtljmibnfmilfbaaGreatDoor
open Go.RowKit
open Hg (GT)
structure Fr (D:Nat→Prop) (w w':World):Prop where
 os:w'.os=w.os
 tape:w'.tape=w.tape
 output:w'.output=w.output
 size:w.heap.size≤w'.heap.size
 block:∀i,i < w.heap.size→¬D i→w'.heap[i]? =w.heap[i]?
namespace Fr
variable {D D':Nat→Prop} {w w1 w2 w':World}
theorem refl(D:Nat→Prop)(w:World):Fr D w w:=⟨rfl,rfl,rfl,Nat.le_refl _,fun _ _ _=>rfl⟩
theorem trans(h:Fr D w w1)(h':Fr D w1 w2):Fr D w w2:=
 ⟨h'.os.trans h.os,h'.tape.trans h.tape,h'.output.trans h.output,Nat.le_trans h.size h'.size,fun i hi hd=>(h'.block i (Nat.lt_of_lt_of_le hi h.size) hd).trans (h.block i hi hd)⟩
theorem imp(h:Fr D w w')(hd:∀q,q < w.heap.size→D q→D' q):Fr D' w w':=⟨h.os,h.tape,h.output,h.size,fun i hi hn=>h.block i hi (fun e=>hn (hd i hi e))⟩
theorem Cn{row:Option Nat}(h:w.grownBy w' row)(hd:∀q,row=some q→D q):Fr D w w':=⟨h.os,h.tape,h.output,h.size,fun i hi hn=>h.block i hi (fun e=>hn (hd i e.symm))⟩
theorem of_below(h:Below w.heap.size w w'):Fr D w w':=⟨h.os,h.tape,h.output,h.size,fun i hi _=>h.block i hi⟩
theorem step(h:Fr D w w1){row:Option Nat}(h':w1.grownBy w2 row)(hd:∀q,row=some q→D q∨w.heap.size≤q):Fr D w w2:=
 ⟨h'.os.trans h.os,h'.tape.trans h.tape,h'.output.trans h.output,Nat.le_trans h.size h'.size,fun i hi hn=>(h'.block i (Nat.lt_of_lt_of_le hi h.size) (fun e=>by
  rcases hd i e.symm with h|h
  ·exact hn h
  ·omega)).trans (h.block i hi hn)⟩
theorem DU(h:Fr D w w1)(h':Fr D' w1 w2)(hd:∀q,q < w.heap.size→D' q→D q):Fr D w w2:=
 ⟨h'.os.trans h.os,h'.tape.trans h.tape,h'.output.trans h.output,Nat.le_trans h.size h'.size,fun i hi hn=>(h'.block i (Nat.lt_of_lt_of_le hi h.size) (fun e=>hn (hd i hi e))).trans (h.block i hi hn)⟩
theorem set(h:Fr D w w1){p:Addr}(hp:D p.block∨w.heap.size≤p.block)(u:Value):Fr D w (w1.setCell p u):=
 ⟨h.os,h.tape,h.output,by simpa using h.size,fun i hi hn=>(Below.heap_setCell w1 p u i (fun e=>by
  rcases hp with hp|hp
  ·exact hn (e ▸ hp)
  ·omega)).trans (h.block i hi hn)⟩
theorem alloc(h:Fr D w w1)(o:Obj):Fr D w (w1.alloc o):=h.DU (D':=fun _=>False) (of_below ((Below.refl _ _).alloc (Nat.le_refl _) o)) (fun _ _ h=>h.elim)
theorem drew(h:Fr D w w1):Fr D w w1.drew:=⟨h.os,h.tape,h.output,h.size,h.block⟩
theorem below(h:Fr D w w')(hd:∀q,q < w.heap.size→¬D q):Below w.heap.size w w':=⟨h.os,h.tape,h.output,h.size,fun i hi=>h.block i hi (hd i hi)⟩
theorem at_(h:Fr D w w'){i:Nat}{o:Obj}(hh:w.heap[i]? =some o)(hd:¬D i):w'.heap[i]? =some o:=(h.block i (Array.getElem?_eq_some_iff.1 hh).1 hd).trans hh
theorem cell(h:Fr D w w'){p:Addr}(hp:p.block < w.heap.size)(hd:¬D p.block):w'.cell? p=w.cell? p:=World.cell?_of_block (h.block _ hp hd)
end Fr
theorem Sl.fr{D:Nat→Prop}{w w':World}{B:Nat}{v:Value}{n:Nat}{xs:List Value}(h:Sl w B v n xs)(hB:B≤w.heap.size)(hf:Fr D w w')(hd:∀q,v.ownBlock=some q→¬D q):Sl w' B v n xs:=by
 obtain⟨a,c,hv,hc⟩:=h;refine⟨a,c,hv,fun hn=> ?_⟩;obtain⟨b,o,ha,hb,hx⟩:=hc hn;have hnd:¬D b:=hd b (by rw[hv,ha];rfl);exact⟨b,o,ha,hb,fun j hj=>(hf.cell (p:=⟨b,o+j,none⟩) (Nat.lt_of_lt_of_le hb hB) hnd).trans (hx j hj)⟩
theorem RQ{P:Program}{k:TypeId}{R:Value→Option (DataW Value×List MemPlace)}{w w':World}{b n:Nat}{D:DataW Value}{S:Nat→Prop}(h:w.ownsMap P k R b n D)(hf:Fr S w w')(hb:¬S b):w'.ownsMap P k R b n D:=by
 have hlt:=h.lt;obtain⟨es,clock,hh,F,hs,hD⟩:=h;exact⟨es,clock,(hf.block b hlt hb).trans hh,F,hs,hD⟩
theorem Sl.mapAt{α:Type}{f:α→Value}{w:World}{B n c:Nat}{a:Option Addr}{l:List α}(h:Sl w B (.slice a n c) l.length (l.map f)){k:Nat}(hk:k < l.length):
 ∃b o,a=some ⟨b,o,none⟩∧b < B∧w.cell? ⟨b,o+k,none⟩=some (f l[k]):=by
 obtain⟨a',c',hv,hc⟩:=h;injection hv with h1 h2 h3;subst h1;obtain⟨b,o,ha,hb,hx⟩:=hc (by simp;omega);refine⟨b,o,ha,hb, ?_⟩;have:=hx k (by simpa using hk);simpa using this
theorem Bt.lt{w:World}{ids:Nat→Nat}{κ:Nat→Value}{Z:Nat→Prop}{s:GT}(h:Bt w ids κ Z s):s.b < w.heap.size:=by
 obtain⟨a,c,hh,_⟩:=h;exact(Array.getElem?_eq_some_iff.1 hh).1
theorem Bt.fr{D:Nat→Prop}{w w':World}{ids:Nat→Nat}{κ:Nat→Value}{Z:Nat→Prop}{s:GT}(h:Bt w ids κ Z s)(hf:Fr D w w')(h1:¬D s.b)(h2:∀q,Z q→¬D q):Bt w' ids κ Z s:=by
 obtain⟨a,c,hh,hs,hz⟩:=h;exact⟨a,c,hf.at_ hh h1,(hs.fr (Nat.le_refl _) hf (fun q e=>h2 q (hz q e))).more hf.size,hz⟩
def upd{α:Type}(f:Nat→α)(b:Nat)(v:α):Nat→α:=fun i=>if i=b then v else f i
theorem upd_same{α:Type}(f:Nat→α)(b:Nat)(v:α):upd f b v b=v:=by simp[upd]
theorem FX{α:Type}(f:Nat→α){b i:Nat}(v:α)(h:i≠b):upd f b v i=f i:=by simp[upd,h]
theorem Bt.setId{w:World}{ids:Nat→Nat}{κ:Nat→Value}{Z:Nat→Prop}{s:GT}(h:Bt w ids κ Z s){b:Nat}(id:Nat)(hz:¬Z b):Bt (w.setCell ⟨b,9,none⟩ (.int .u64 (id:Int))) (upd ids b id) κ Z s:=by
 obtain⟨a,c,hh,hs,hq⟩:=h;have hsl:=Bp (p:=⟨b,9,none⟩) hs (fun e=>hz (hq _ e)) (.int .u64 (id:Int));refine⟨a,c, ?_,by simpa using hsl,hq⟩;by_cases e:s.b=b
 ·subst e
  rw[upd_same];exact heap_setCell_same hh _
 ·rw[FX _ _ e]
  exact(Below.heap_setCell w _ _ s.b e).trans hh
theorem Bt.setK{w:World}{ids:Nat→Nat}{κ:Nat→Value}{Z:Nat→Prop}{s:GT}(h:Bt w ids κ Z s){b:Nat}(v:Value)(hz:¬Z b):Bt (w.setCell ⟨b,5,none⟩ v) ids (upd κ b v) Z s:=by
 obtain⟨a,c,hh,hs,hq⟩:=h;have hsl:=Bp (p:=⟨b,5,none⟩) hs (fun e=>hz (hq _ e)) v;refine⟨a,c, ?_,by simpa using hsl,hq⟩;by_cases e:s.b=b
 ·subst e
  rw[upd_same];exact heap_setCell_same hh _
 ·rw[FX _ _ e]
  exact(Below.heap_setCell w _ _ s.b e).trans hh
def setN(ids:Nat→Nat)(n:Nat):List Nat→Nat→Nat
 |[]=>ids
 |b::bs=>setN (upd ids b n) (n+1) bs
theorem LD:∀(l m:List Nat) (ids:Nat→Nat) (n:Nat),setN ids n (l++m)=setN (setN ids n l) (n+l.length) m
 |[],m,ids,n=>rfl
 |b::l,m,ids,n=>by
   show setN (upd ids b n) (n+1) (l++m)=setN (setN (upd ids b n) (n+1) l) (n+(l.length+1)) m;rw[LD l m,Nat.add_assoc,Nat.add_comm 1]
theorem GT.CV{l:List GT}{j:Nat}(h:j < l.length):GT.AP (l.take (j+1))=GT.AP (l.take j)++l[j].blocks:=by
 rw[List.take_succ_eq_append_getElem h];unfold GT.AP GT.blocks;rw[GT.Dq,GT.BH,GT.BQ,List.append_nil,List.map_append]
theorem GT.DN(t:GT):t.blocks.length=t.subs.length:=by simp[GT.blocks]
theorem GT.Bf(l:List GT):(GT.AP l).length=(GT.DF l).length:=by simp[GT.AP]
theorem GT.CY(l:List GT)(j:Nat):(GT.AP (l.take j)).length≤(GT.AP l).length:=by
 have h:GT.AP l=GT.AP (l.take j)++GT.AP (l.drop j):=by
  conv=>lhs;rw[←List.take_append_drop j l]
  unfold GT.AP;rw[GT.Dq,List.map_append]
 rw[h,List.length_append];omega
theorem GT.Jd:∀(l:List GT),l.length≤(GT.AP l).length
 |[]=>Nat.zero_le _
 |t::l=>by
   have:=GT.Jd l;rw[GT.Bf] at this⊢;rw[GT.BH,List.length_append,GT.Aq];simp;omega
@[reducible] def Du(av:Value)(next:Nat)(fv mv cv uv sv:Value):Array Value:= #[av,.int .u64 (next:Int),fv,mv,cv,uv,sv]
def NmAt(w:World)(nb:Nat)(av:Value)(next:Nat)(fv mv cv uv sv:Value):Prop:=w.heap[nb]? =some (.cells (Du av next fv mv cv uv sv) 91 (0,0))
theorem NmAt.lt{w:World}{nb next:Nat}{av fv mv cv uv sv:Value}(h:NmAt w nb av next fv mv cv uv sv):nb < w.heap.size:=(Array.getElem?_eq_some_iff.1 h).1
end Go.Proofs.YtljmibnfmilfbaaGreatDoor
namespace Go.Proofs.YtljmibnfmilfbaaGreatDoor
open Go.RowKit
open Hg (GT)
structure Amb (l:List GT) (nb:Nat) (Z:Nat→Prop):Prop where
 kids:∀s∈l,∀k∈s.ks,k∈l
 nz:∀s∈l,¬Z s.b
 nbz:¬Z nb
 ne:∀s∈l,s.b≠nb
def InB(l:List GT)(nb:Nat):Nat→Prop:=fun q=>q=nb∨∃s∈l,q=s.b
theorem RU(l:List GT)(nb:Nat)(Z:Nat→Prop)(hA:Amb l nb Z)(κ:Nat→Value)(av fv mv cv uv sv:Value):∀(n:Nat) (t:GT),t∈l→t.subs.length≤n→∀(ids:Nat→Nat) (next:Nat) (w:World),(∀s∈l,Bt w ids κ Z s)→NmAt w nb av next fv mv cv uv sv→next+t.subs.length≤1000000→
 Calls Tryz.prog 42 #[.pointer (some ⟨nb,0,none⟩),ptrV t] w fun e w'=>e= .returned (.tuple #[])∧(∀s∈l,Bt w' (setN ids next t.blocks) κ Z s)∧NmAt w' nb av (next+t.subs.length) fv mv cv uv sv∧Fr (InB l nb) w w':=by
 intro n
 induction n with
 |zero=>intro t ht hn;rw[GT.Aq] at hn;simp at hn
 |succ n ih=>
   intro t ht hn ids next w hG hM hb;have hlenk:t.subs.length=(GT.AP t.ks).length+1:=by rw[GT.Aq,GT.Bf];rfl
   have hble:∀j,(GT.AP (t.ks.take j)).length≤(GT.AP t.ks).length:=GT.CY t.ks;have hkl:t.ks.length≤1000000:=by have:=GT.Jd t.ks;omega
   have IH:=zz ih;obtain⟨a,c,hh,hsl,hq⟩:=hG t ht;have hIn:InB l nb t.b:= .inr ⟨t,ht,rfl⟩;have hIn2:InB l nb nb:= .inl rfl;have hne:¬t.b=nb:=hA.ne t ht;have hne2:¬nb=t.b:=fun e=>hne e.symm;have hw1:IntKind.u64.wrap ((next:Int)+1)=((next+1:Nat):Int):=by rw[IntWalk.u64_in _ (by omega)];push_cast;rfl
   have hG2:∀s∈l,Bt ((w.setCell ⟨t.b,9,none⟩ (.int .u64 (next:Int))).setCell ⟨nb,1,none⟩ (.int .u64 ((next+1:Nat):Int))) (upd ids t.b next) κ Z s:=fun s hs=>
    ((hG s hs).setId next (hA.nz t ht)).fr (D:=fun q=>q=nb) ((Fr.refl (fun q=>q=nb) _).set (p:=⟨nb,1,none⟩) (.inl rfl) _) (hA.ne s hs) (fun q hz e=>hA.nbz (e ▸ hz))
   have hM2:NmAt ((w.setCell ⟨t.b,9,none⟩ (.int .u64 (next:Int))).setCell ⟨nb,1,none⟩ (.int .u64 ((next+1:Nat):Int))) nb av (next+1) fv mv cv uv sv:=by
    have h1:(w.setCell ⟨t.b,9,none⟩ (.int .u64 (next:Int))).heap[nb]? =some (.cells (Du av next fv mv cv uv sv) 91 (0,0)):=(Below.heap_setCell w _ _ nb hne2).trans hM;exact heap_setCell_same h1 _
   have hF2:Fr (InB l nb) w ((w.setCell ⟨t.b,9,none⟩ (.int .u64 (next:Int))).setCell ⟨nb,1,none⟩ (.int .u64 ((next+1:Nat):Int))):=((Fr.refl _ _).set (.inl hIn) _).set (.inl hIn2) _;have c1:=cell_of_row w nb 1 _ _ (0,0) hM;have f1:∀i,w.frozen? ⟨nb,i,none⟩=false:=fun i=>by simp[World.frozen?,show w.heap[nb]? =_ from hM]
   have c9:=cell_of_row w t.b 9 _ _ (0,0) hh;have f9:∀i,w.frozen? ⟨t.b,i,none⟩=false:=fun i=>by simp[World.frozen?,hh]
   have c8:=cell_of_row w t.b 8 _ _ (0,0) hh;simp at c1 c9 c8;have HG:=zz hG2;have HM:=zz hM2;have HF:=zz hF2;have HS:=zz (show Sl ((w.setCell ⟨t.b,9,none⟩ (.int .u64 (next:Int))).setCell ⟨nb,1,none⟩ (.int .u64 ((next+1:Nat):Int))) w.heap.size (.slice a t.ks.length c) t.ks.length (t.ks.map ptrV) from hsl.fr (Nat.le_refl _) hF2 (fun q e=>by
    have hz:=hq q e;rintro(h|⟨s,hs,h⟩)
    ·exact hA.nbz (h ▸ hz)
    ·exact hA.nz s hs (h ▸ hz)))
   have hBl:∃B,B=w.heap.size∧B≤((w.setCell ⟨t.b,9,none⟩ (.int .u64 (next:Int))).setCell ⟨nb,1,none⟩ (.int .u64 ((next+1:Nat):Int))).heap.size:=⟨_,rfl,by simp⟩;have hQ:∀q,(Value.slice a t.ks.length c).ownBlock=some q→¬InB l nb q:=fun q e=>by
    have hz:=hq q e;rintro(h|⟨s,hs,h⟩)
    ·exact hA.nbz (h ▸ hz)
    ·exact hA.nz s hs (h ▸ hz)
   have HQ:=zz hQ;obtain⟨B,hB,hBl⟩:=hBl;rw[←hB] at HS;have HB:=zz hBl;have HA:=zz hA;have HT:=zz ht;clear hG hM hh hsl hq hG2 hM2 hF2 hA hIn hIn2 hQ ih hB hBl ht;go_enter Tryz.func42,Tryz.ntmps42;go_wp2
   push_cast at HG HM HF HS HB
   generalize World.setCell (World.setCell w _ _) _ _=w2 at HG HM HF HS HB⊢;clear c1 c8 c9 f1 f9
   go_loopw [25] (fun p wr=>∃j:Nat,p= .int .i64 (j:Int)∧j≤t.ks.length∧(∀s∈l,Bt wr (setN (upd ids t.b next) (next+1) (GT.AP (t.ks.take j))) κ Z s)∧NmAt wr nb av (next+1+(GT.AP (t.ks.take j)).length) fv mv cv uv sv∧Fr (InB l nb) w2 wr) (fun p wr=>t.ks.length-(intOf p).toNat)
   case atStart=>exact⟨0,rfl,Nat.zero_le _,by simpa[GT.AP,GT.BQ,setN] using HG.out,by simpa[GT.AP,GT.BQ] using HM.out,Fr.refl _ _⟩
   case round=>
    obtain⟨j,rfl,hj,hGj,hMj,hFj⟩:=hrel;by_cases hlt:j < t.ks.length
    ·have hsj:=HS.out.fr HB.out hFj HQ.out
     obtain⟨b,o,rfl,_,kc⟩:=hsj.mapAt hlt;have hkm:t.ks[j]∈t.ks:=List.getElem_mem hlt;have hk:t.ks[j]∈l:=HA.out.kids t HT.out _ hkm;have htk:GT.AP (t.ks.take (j+1))=GT.AP (t.ks.take j)++t.ks[j].blocks:=GT.CV hlt;have hsz:(GT.AP (t.ks.take (j+1))).length=(GT.AP (t.ks.take j)).length+t.ks[j].subs.length:=by rw[htk,List.length_append,GT.DN]
     have TI:=zz (IH.out t.ks[j] hk (by have:=GT.F6 hkm;omega) _ _ wr hGj hMj (by have:=hble (j+1);omega));have HFj:=zz hFj;have HTK:=zz htk;have HSZ:=zz hsz;clear hsj hGj hMj hFj hk hkm htk hsz hble hlenk;go_wp2_with fail;refine TI.out.mono ?_;rintro e w3 ⟨rfl,hG3,hM3,hF3⟩;have HG3:=zz hG3;have HM3:=zz hM3;have HF3:=zz (HFj.out.trans hF3);clear hG3 hM3 hF3;go_wp2;go_roundw
     case rel=>
      refine⟨j+1,by go_num,by omega, ?_, ?_,HF3.out⟩
      ·rw[HTK.out,LD];exact HG3.out
      ·rw[HSZ.out,←Nat.add_assoc];exact HM3.out
     case measure=>simp[intOf];omega
    ·obtain rfl:j=t.ks.length:=by omega
     rw[List.take_length] at hGj hMj;have HGj:=zz hGj;have HMj:=zz hMj;have HFj:=zz (HF.out.trans hFj);have HL:=zz hlenk;clear hGj hMj hFj hlenk hble;go_wp2;go_end0;refine⟨rfl, ?_, ?_,HFj.out⟩
     ·rw[GT.Dx];exact HGj.out
     ·rw[HL.out,Nat.add_comm _ 1,←Nat.add_assoc];exact HMj.out
end Go.Proofs.YtljmibnfmilfbaaGreatDoor
namespace Hg
def gl{α β:Type} [BEq α](M:List (α×β))(x:α):Option β:=(M.find? (·.1==x)).map (·.2)
theorem JB{α β:Type} [BEq α](k:α)(v:β)(M:List (α×β))(x:α):gl ((k,v)::M) x=if k==x then some v else gl M x:=by
 unfold gl;rw[List.find?_cons];by_cases h:(k==x)=true
 ·simp[h]
 ·simp[h]
theorem Rh{α β γ:Type} [BEq α](f:β→γ)(M:List (α×β))(x:α):gl (M.map fun p=>(p.1,f p.2)) x=(gl M x).map f:=by
 induction M with
 |nil=>rfl
 |cons p M ih=>
   rw[List.map_cons,JB,ih];obtain⟨k,v⟩:=p;rw[JB];by_cases h:(k==x)=true
   ·simp[h]
   ·simp[h]
theorem Ri{α β:Type} [BEq α] [LawfulBEq α](v:β)(K:List α)(x:α):gl (K.map fun k=>(k,v)) x=if x∈K then some v else none:=by
 induction K with
 |nil=>rfl
 |cons k K ih=>
   rw[List.map_cons,JB,ih];by_cases h:k=x
   ·subst h;simp
   ·have h2:(k==x)=false:=by simpa using h
    rw[h2]
    simp[List.mem_cons,show x≠k from fun e=>h e.symm]
end Hg
namespace Hg.GT
def rf(ρ:Nat→Nat):GT→GT| .mk b nd md tt ks=> .mk b {nd with ref:=ρ b} md tt ks
theorem rf_b(ρ:Nat→Nat)(s:GT):(s.rf ρ).b=s.b:=by cases s;rfl
theorem Pj(ρ:Nat→Nat)(s:GT):(s.rf ρ).ks=s.ks:=by cases s;rfl
theorem YF(ρ:Nat→Nat)(s:GT):(s.rf ρ).md=s.md:=by cases s;rfl
theorem YD(ρ:Nat→Nat)(s:GT):(s.rf ρ).tt=s.tt:=by cases s;rfl
theorem YE(ρ:Nat→Nat)(s:GT):(s.rf ρ).nd={s.nd with ref:=ρ s.b}:=by cases s;rfl
theorem Xe{s:GT}(h:s.nd.ref=0):s.rf (fun _=>0)=s:=by
 cases s with
 |mk b nd md tt ks=>
   obtain⟨x1,x2,x3,x4,x5,x6⟩:=nd;have h:x5=0:=h;subst h;rfl
end Hg.GT
namespace Go.Proofs.YtljmibnfmilfbaaGreatDoor
open Go.RowKit
open Hg (GT gl)
def XMap{α:Type} [BEq α](k:TypeId)(enc:α→Value)(w:World)(b:Nat)(M:List (α×Value)):Prop:=
 ∃n D,n≤M.length∧w.ownsMap Tryz.prog k rawR b n D∧∀x l,keyOf Tryz.prog k (enc x)=some l→match gl M x with|none=>Maps.has D l=false|some v=>∀z,D.atKey l z= .held v
section
variable {α:Type} [BEq α] [LawfulBEq α] {k t e:TypeId} {enc:α→Value} {w w':World} {b:Nat} {M:List (α×Value)}
theorem XMap.made(k:TypeId)(enc:α→Value)(w:World):XMap k enc (w.alloc (.map #[] 0)) w.heap.size []:=
 ⟨0,_,Nat.le_refl _,World.ownsMap_made w _ _ _,fun _ _ _=>rfl⟩
theorem XMap.lt(h:XMap k enc w b M):b < w.heap.size:=by
 obtain⟨_,D,_,ho,_⟩:=h;exact ho.lt
theorem XMap.keep(h:XMap k enc w b M)(hh:w'.heap[b]? =w.heap[b]?):XMap k enc w' b M:=by
 obtain⟨n,D,hn,ho,hs⟩:=h;obtain⟨es,clock,hb,F,hs',hD⟩:=ho;exact⟨n,D,hn,⟨es,clock,hh.trans hb,F,hs',hD⟩,hs⟩
theorem XMap.obj(h:XMap k enc w b M):∃es clock,w.heap[b]? =some (.map es clock):=by
 obtain⟨_,D,_,ho,_⟩:=h;exact IU ho
theorem XMap.fr{D:Nat→Prop}(h:XMap k enc w b M)(hf:Fr D w w')(hd:¬D b):XMap k enc w' b M:=h.keep (hf.block b h.lt hd)
theorem XMap.look(h:XMap k enc w b M)(hk:Maps.Keyed Tryz.prog k)(ht:(Tryz.prog).underlying t=some (.map k e)){z:Value}(hz:(zeroValue e).run Tryz.prog w= .ok z w){x:α}(hl:∃l,keyOf Tryz.prog k (enc x)=some l):
 (Instr.lookup t (.map (some b)) (enc x) false).run Tryz.prog w= .ok ((gl M x).getD z) w:=by
 obtain⟨n,D,hn,ho,hs⟩:=h;obtain⟨l,hl⟩:=hl;obtain⟨v,ps,hrun,hv⟩:=ho.lookup hk ht hz (zd:= .held z) (zp:=[]) rfl hl;have hx:=hs x l hl;simp only[rawR,Option.some.injEq,Prod.mk.injEq] at hv;cases hg:gl M x with
 |none=>
   rw[hg] at hx;rw[Maps.atKey_of_not_has hx] at hv;have e:v=z:=by simpa using hv.1
   rw[hrun,e];rfl
 |some u=>
   rw[hg] at hx;rw[hx] at hv;have e:v=u:=by simpa using hv.1
   rw[hrun,e];rfl
theorem XMap.look_ok(h:XMap k enc w b M)(hk:Maps.Keyed Tryz.prog k)(ht:(Tryz.prog).underlying t=some (.map k e)){z:Value}(hz:(zeroValue e).run Tryz.prog w= .ok z w){x:α}(hl:∃l,keyOf Tryz.prog k (enc x)=some l):
 (Instr.lookup t (.map (some b)) (enc x) true).run Tryz.prog w= .ok (.tuple #[(gl M x).getD z,.bool (gl M x).isSome]) w:=by
 obtain⟨n,D,hn,ho,hs⟩:=h;obtain⟨l,hl⟩:=hl;obtain⟨v,ps,hrun,hv⟩:=ho.look_ok hk ht hz (zd:= .held z) (zp:=[]) rfl hl;have hx:=hs x l hl;simp only[rawR,Option.some.injEq,Prod.mk.injEq] at hv;cases hg:gl M x with
 |none=>
   rw[hg] at hx;have hx':Maps.has D l=false:=hx;rw[Maps.atKey_of_not_has hx'] at hv;have e:v=z:=by simpa using hv.1
   rw[hrun,hx',e];rfl
 |some u=>
   rw[hg] at hx;have hx':∀z,D.atKey l z= .held u:=hx;rw[hx'] at hv;have e:v=u:=by simpa using hv.1
   rw[hrun,Maps.has_true_of_atKey hx',e];rfl
theorem XMap.put(h:XMap k enc w b M)(hk:Maps.Keyed Tryz.prog k)(ht:(Tryz.prog).underlying t=some (.map k e))(hinj:∀x y,enc x=enc y→x=y)(hM:M.length≤1000000)(x:α)(hl:∃l,keyOf Tryz.prog k (enc x)=some l)(v:Value):
 ∃w',(Instr.mapUpdate t (.map (some b)) (enc x) v).run Tryz.prog w= .ok () w'∧XMap k enc w' b ((x,v)::M)∧w.grownBy w' (some b):=by
 obtain⟨n,D,hn,ho,hs⟩:=h;obtain⟨l,hl⟩:=hl;obtain⟨w',hrun,ho',hg⟩:=ho.update hk ht (by unfold maxLen;omega) hl (val:=v) (d:= .held v) (ps:=[]) rfl;have hkey:WideAt.IsKeyLit l:=hk.key hl;have htid:=ho.tidy hk;refine⟨w',hrun,⟨_,_, ?_,ho',fun y ly hly=> ?_⟩,hg⟩
 ·simp;omega
 ·rw[Hg.JB]
  by_cases e:x=y
  ·subst e
   have:ly=l:=by rw[hly] at hl;exact Option.some.inj hl
   subst this;rw[if_pos (by simp)];exact fun z=>Maps.atKey_put_same htid.isMap hkey _ _
  ·rw[if_neg (by simpa using e)]
   have hne:ly≠l:=fun e2=>e (hinj _ _ (hk.inj (e2 ▸ hly) hl)).symm;have hx:=hs y ly hly;cases hg:gl M y with
   |none=>
     rw[hg] at hx;show Maps.has _ _=false;rw[Maps.has_put_other hne];exact hx
   |some u=>
     rw[hg] at hx;intro z;rw[Maps.atKey_put_other hne];exact hx z
end
theorem Mr:Maps.Keyed Tryz.prog 131:=Maps.Keyed.of_law (deep_law (m:=2) (by omega) (by kernel_rfl) (by kernel_rfl) (by kernel_rfl))
theorem Vf:∃n,(Tryz.prog).types.size=n+1:=⟨(Tryz.prog).types.size-1,by kernel_rfl⟩
theorem NA:(Tryz.prog).cellsOf 131=2:=by kernel_rfl
theorem VF:(Tryz.prog).cellsOf 9=1:=by kernel_rfl
theorem Tq:(Tryz.prog).keyType 131=true:=by kernel_rfl
theorem Mc{P:Program}{d:Nat}{t:TypeId}{fs:Array Field}{cs:List Value}(hu:P.underlying t=some (.struct fs)):P.keyLits (d+1) t cs=if cs.length=P.cellsOf t∧fs.all (·.name != "_")=true then(fs.toList.mapM fun f=>P.keyLits d f.type ((cs.drop f.offset).take (P.cellsOf f.type))).map List.flatten else none:=by
 simp only[Program.keyLits,hu]
theorem RZ(a b:List UInt8)(ha:a.length≤1000000)(hb:b.length≤1000000):∃l,keyOf Tryz.prog 131 (.agg #[strV a,strV b])=some l:=by
 have hu:=Tryz.underlying131;have hs:=Tryz.underlying9;obtain⟨n,hn⟩:=Vf;have h1:∀s:List UInt8,s.length≤1000000→(Tryz.prog).keyLits (n+1) 9 [strV s]=some [.string s]:=by
  intro s h;simp only[Program.keyLits,hs];rw[if_pos];show s.length≤maxLen;unfold maxLen;omega
 unfold keyOf;rw[hu];simp only[Tq,Value.formed,hu,NA,Bool.true_and];rw[if_pos (by rfl),hn,Mc hu,if_pos ⟨by rw[NA];rfl,by kernel_rfl⟩];have e1:((Value.agg #[strV a,strV b]).cells.toList.drop 0).take 1=[strV a]:=rfl;have e2:((Value.agg #[strV a,strV b]).cells.toList.drop 1).take 1=[strV b]:=rfl;simp only[List.mapM_cons,List.mapM_nil,VF,e1,e2,h1 a ha,h1 b hb];exact⟨_,rfl⟩
theorem NZ:Maps.Keyed Tryz.prog 9:=Maps.string_keyed Tryz.underlying9
theorem Ma(a:List UInt8)(ha:a.length≤1000000):∃l,keyOf Tryz.prog 9 (strV a)=some l:=by
 have hs:=Tryz.underlying9;refine⟨.string a, ?_⟩;unfold keyOf;rw[hs];simp only[mapKey,hs];rw[if_pos];show a.length≤maxLen;unfold maxLen;omega
def Qa(x:List UInt8×List UInt8):Value:= .agg #[strV x.1,strV x.2]
theorem L6{a b:List UInt8}(h:strV a=strV b):a=b:=by
 injection h with h;injection h with h;simpa using congrArg Array.toList h
theorem Uw(x y:List UInt8×List UInt8)(h:Qa x=Qa y):x=y:=by
 unfold Qa at h;injection h with h;have h:=congrArg Array.toList h;simp only[List.cons.injEq] at h;exact Prod.ext (L6 h.1) (L6 h.2.1)
abbrev DJ(w:World)(ids ρ:Nat→Nat)(κ:Nat→Value)(Z:Nat→Prop)(s:GT):Prop:=Bt w ids κ Z (s.rf ρ)
theorem DJ.frr{D:Nat→Prop}{w w':World}{ids ρ:Nat→Nat}{κ:Nat→Value}{Z:Nat→Prop}{s:GT}(h:DJ w ids ρ κ Z s)(hf:Fr D w w')(h1:¬D s.b)(h2:∀q,Z q→¬D q):DJ w' ids ρ κ Z s:=
 Bt.fr h hf (by rw[GT.rf_b];exact h1) h2
theorem DJ.open_{w:World}{ids ρ:Nat→Nat}{κ:Nat→Value}{Z:Nat→Prop}{s:GT}(h:DJ w ids ρ κ Z s):∃a c,w.heap[s.b]? =some (.cells (Cq {s.nd with ref:=ρ s.b} s.md s.tt (κ s.b) (.slice a s.ks.length c) (ids s.b)) 126 (0,0))∧Sl w w.heap.size (.slice a s.ks.length c) s.ks.length (s.ks.map ptrV)∧
 ∀q,(Value.slice a s.ks.length c).ownBlock=some q→Z q:=by
 obtain⟨a,c,hh,hs,hq⟩:=h;rw[GT.rf_b,GT.YE,GT.YF,GT.YD,GT.Pj] at hh;rw[GT.Pj] at hs hq;exact⟨a,c,hh,hs,hq⟩
theorem DJ.of{w:World}{ids ρ:Nat→Nat}{κ:Nat→Value}{Z:Nat→Prop}{s:GT}{a:Option Addr}{c:Nat}(hh:w.heap[s.b]? =some (.cells (Cq {s.nd with ref:=ρ s.b} s.md s.tt (κ s.b) (.slice a s.ks.length c) (ids s.b)) 126 (0,0)))(hs:Sl w w.heap.size (.slice a s.ks.length c) s.ks.length (s.ks.map ptrV))
 (hq:∀q,(Value.slice a s.ks.length c).ownBlock=some q→Z q):DJ w ids ρ κ Z s:=
 ⟨a,c,by rw[GT.rf_b,GT.YE,GT.YF,GT.YD,GT.Pj];exact hh,by rw[GT.Pj];exact hs,by rw[GT.Pj];exact hq⟩
theorem DJ.setRef{w:World}{ids ρ:Nat→Nat}{κ:Nat→Value}{Z:Nat→Prop}{s:GT}(h:DJ w ids ρ κ Z s){b:Nat}(id:Nat)(hz:¬Z b):DJ (w.setCell ⟨b,4,none⟩ (.int .u64 (id:Int))) ids (upd ρ b id) κ Z s:=by
 obtain⟨a,c,hh,hs,hq⟩:=h.open_;have hsl:=Bp (p:=⟨b,4,none⟩) hs (fun e=>hz (hq _ e)) (.int .u64 (id:Int));refine DJ.of (a:=a) (c:=c) ?_ (by simpa using hsl) hq;by_cases e:s.b=b
 ·subst e
  rw[upd_same];exact heap_setCell_same hh _
 ·rw[FX _ _ e]
  exact(Below.heap_setCell w _ _ s.b e).trans hh
abbrev SMap:=XMap (α:=List UInt8) 9 strV
abbrev FMap:=XMap (α:=List UInt8×List UInt8) 131 Qa
@[reducible] def ptrB(b:Nat):Value:= .pointer (some ⟨b,0,none⟩)
def lvlM(m:List (List UInt8×Nat)):List (List UInt8×Value):=m.map fun p=>(p.1,ptrB p.2)
def PS(l:List (List UInt8)):List (List UInt8×Value):=l.map fun k=>(k,.bool true)
def Sc(w:World)(B ub:Nat):List Nat→List (List (List UInt8×Nat))→Prop
 |[],[]=>True
 |q::qs,m::ms=>SMap w q (lvlM m)∧B≤q∧q≠ub∧q∉qs∧Sc w B ub qs ms
 |_,_=>False
@[reducible] def mapV(q:Nat):Value:= .map (some q)
structure NS (l:List GT) (nb:Nat) (Z:Nat→Prop) (B:Nat) (ids:Nat→Nat) (av:Value) (next:Nat) (fv mv:Value) (ub:Nat) (cv sv:Value) (qs:List Nat) (ρ:Nat→Nat) (σ:Hg.NmSt) (w:World):Prop where
 nm:NmAt w nb av next fv mv cv (.map (some ub)) sv
 us:SMap w ub (PS σ.used)
 ul:B≤ub
 cs:w.ownsRow B 83 1 cv σ.calls.length (σ.calls.map ptrV)
 ss:w.ownsRow B 157 1 sv qs.length (qs.reverse.map mapV)
 sc:Sc w B ub qs σ.scope
 node:∀s∈l,DJ w ids ρ nilK Z s
 here:∀m∈σ.scope,∀p∈m,∃s∈l,s.b=p.2
 ref:∀b,ρ b=((gl σ.refs b).map ids).getD 0
 kin:∀c∈σ.calls,c∈l
theorem Di{w:World}{base n q size:Nat}{e:TypeId}{v:Value}{xs:List Value}(h:w.ownsRow base e size v n xs){es:Array MapEntry}{ck:Nat}(hh:w.heap[q]? =some (.map es ck)):v.ownBlock=none∨v.ownBlock≠some q:=by
 obtain⟨_,h2⟩:=h;rcases h2 with⟨h0,_⟩|⟨g,cap,cur,hv,hg,hh',_⟩
 ·exact .inl (by rw[h0];rfl)
 ·refine .inr (fun e=> ?_)
  rw[hv] at e;injection e with e;have e:g=q:=e;subst e;rw[hh] at hh';cases hh'
theorem Sc.keep{w w':World}{B ub:Nat}:∀{qs:List Nat} {ms:List (List (List UInt8×Nat))},Sc w B ub qs ms→(∀q∈qs,w'.heap[q]? =w.heap[q]?)→Sc w' B ub qs ms
 |[],[],_,_=>trivial
 |q::qs,m::ms,⟨h1,h2,h3,h4,h5⟩,hk=>⟨h1.keep (hk q (by simp)),h2,h3,h4,Sc.keep h5 (fun q hq=>hk q (by simp[hq]))⟩
theorem Sc.get{w:World}{B ub:Nat}:∀{qs:List Nat} {ms:List (List (List UInt8×Nat))},Sc w B ub qs ms→qs.length=ms.length∧(∀q∈qs,B≤q∧q≠ub∧q < w.heap.size∧∃es ck,w.heap[q]? =some (.map es ck))∧∀(j:Nat) (h1:j < qs.length) (h2:j < ms.length),SMap w qs[j] (lvlM ms[j])
 |[],[],_=>⟨rfl,fun q hq=>by simp at hq,fun j h=>by simp at h⟩
 |q::qs,m::ms,⟨h1,h2,h3,h4,h5⟩=>by
   obtain⟨g1,g2,g3⟩:=Sc.get h5;refine⟨by simp[g1],fun x hx=> ?_,fun j=> ?_⟩
   ·rcases List.mem_cons.1 hx with hx|hx
    ·subst hx;exact⟨h2,h3,h1.lt,h1.obj⟩
    ·exact g2 x hx
   ·cases j with
    |zero=>intro _ _;exact h1
    |succ j=>intro k1 k2;exact g3 j (by simpa using k1) (by simpa using k2)
section
variable {l:List GT} {nb:Nat} {Z:Nat→Prop} {B:Nat} {ids:Nat→Nat} {av:Value} {next:Nat} {fv mv:Value} {ub:Nat} {cv sv:Value} {qs:List Nat} {ρ:Nat→Nat} {σ:Hg.NmSt} {w w':World}
end
def NOwn(l:List GT)(nb B:Nat):Nat→Prop:=fun q=>InB l nb q∨B≤q
def EF(k:Nat):Nat:=if k=1 then 10 else 9
end Go.Proofs.YtljmibnfmilfbaaGreatDoor
namespace Hg
structure Bd (σ:NmSt) (n:Nat):Prop where
 us:σ.used.length≤n
 lv:∀m∈σ.scope,m.length≤n
 sc:σ.scope.length≤n
 ca:σ.calls.length≤n
theorem Bd.more{σ:NmSt}{n m:Nat}(h:Bd σ n)(hm:n≤m):Bd σ m:=⟨Nat.le_trans h.us hm,fun x hx=>Nat.le_trans (h.lv x hx) hm,Nat.le_trans h.sc hm,Nat.le_trans h.ca hm⟩
theorem Bd.declare{σ σ':NmSt}{n:Nat}{t:GT}(h:Bd σ n)(hd:σ.declare t= .ok σ'):Bd σ' (n+1):=by
 unfold NmSt.declare at hd;by_cases hu:t.nd.name∈σ.used
 ·rw[if_pos hu] at hd;cases hd
 rw[if_neg hu] at hd;cases hsc:σ.scope with
 |nil=>rw[hsc] at hd;cases hd
 |cons m ms=>
   rw[hsc] at hd;injection hd with hd;subst hd;have h1:=h.us;have h2:=h.lv;have h3:=h.sc;have h4:=h.ca;rw[hsc] at h2 h3;refine⟨by simp;omega,fun x hx=> ?_,by simpa using Nat.le_succ_of_le h3,by show σ.calls.length≤n+1;omega⟩;rcases List.mem_cons.1 hx with hx|hx
   ·subst hx
    have:=h2 m (by simp)
    simp;omega
   ·have:=h2 x (by simp[hx]);omega
end Hg
namespace Go.Proofs.YtljmibnfmilfbaaGreatDoor
open Go.RowKit
open Hg (GT gl Bd)
section
variable {l:List GT} {nb:Nat} {Z:Nat→Prop} {B:Nat} {ids:Nat→Nat} {av:Value} {next:Nat} {fv mv:Value} {ub:Nat} {cv sv:Value} {qs:List Nat} {ρ:Nat→Nat} {σ:Hg.NmSt} {w w':World}
theorem NS.below(h:NS l nb Z B ids av next fv mv ub cv sv qs ρ σ w)(hb:Below w.heap.size w w'):NS l nb Z B ids av next fv mv ub cv sv qs ρ σ w':=by
 have hg:=AJ hb none;have hor:∀v:Value,v.ownBlock=none∨v.ownBlock≠none:=fun v=>by cases v.ownBlock <;>simp
 exact⟨(hb.block nb h.nm.lt).trans h.nm,h.us.keep (hb.block ub h.us.lt),h.ul,h.cs.kept hg (hor cv),h.ss.kept hg (hor sv),h.sc.keep (fun q hq=>hb.block q ((Sc.get h.sc).2.1 q hq).2.2.1),fun s hs=>(h.node s hs).frr (D:=fun _=>False) (Fr.Cn hg (fun q e=>by cases e)) (fun e=>e) (fun q _ e=>e),h.here,h.ref,h.kin⟩
theorem NS.drew(h:NS l nb Z B ids av next fv mv ub cv sv qs ρ σ w):NS l nb Z B ids av next fv mv ub cv sv qs ρ σ w.drew:=h.below ((Below.refl _ _).drew)
end
def NRes(l:List GT)(nb:Nat)(Z:Nat→Prop)(B:Nat)(ids:Nat→Nat)(av:Value)(next:Nat)(fv mv:Value)(ub:Nat)(qs:List Nat)(r:Except Nat Hg.NmSt)(w:World)(e:Ending)(w':World):Prop:=
 Fr (NOwn l nb B) w w'∧match r with
 | .ok σ'=>e= .returned (.int .i64 0)∧∃cv sv ρ,NS l nb Z B ids av next fv mv ub cv sv qs ρ σ' w'
 | .error k=>e= .returned (.int .i64 (EF k:Int))
theorem Aa{S:Nat→Prop}{w w':World}{base:Nat}{e:TypeId}{size:Nat}{v:Value}{n:Nat}{xs:List Value}(h:w.ownsRow base e size v n xs)(hf:Fr S w w')(hb:∀q,v.ownBlock=some q→¬S q):w'.ownsRow base e size v n xs:=by
 obtain⟨h1,h2⟩:=h;refine⟨h1, ?_⟩;rcases h2 with h2|⟨g,cap,cur,hv,hg,hh,h3⟩
 ·exact .inl h2
 ·exact .inr ⟨g,cap,cur,hv,hg,hf.at_ hh (hb g (by rw[hv];rfl)),h3⟩
theorem own_ne{w:World}{b1 b2 n1 n2 s1 s2:Nat}{e1 e2:TypeId}{v1 v2:Value}{x1 x2:List Value}(h1:w.ownsRow b1 e1 s1 v1 n1 x1)(h2:w.ownsRow b2 e2 s2 v2 n2 x2)(he:e1≠e2):∀q,v1.ownBlock=some q→v2.ownBlock≠some q:=by
 intro q k1 k2;rcases h1.2 with⟨h0,_⟩|⟨g,cap,cur,hv,hg,hh,_⟩
 ·rw[h0] at k1;cases k1
 rcases h2.2 with⟨h0,_⟩|⟨g',cap',cur',hv',hg',hh',_⟩
 ·rw[h0] at k2;cases k2
 rw[hv] at k1;rw[hv'] at k2;injection k1 with k1;injection k2 with k2;have k1:g=q:=k1;have k2:g'=q:=k2;subst k1;subst k2;rw[hh] at hh';injection hh' with hh';injection hh' with _ hh' _;exact he hh'
theorem VW:(83:TypeId)≠157:=by decide
structure Low (l:List GT) (nb:Nat) (Z:Nat→Prop) (B:Nat):Prop where
 tree:∀s∈l,s.b < B
 nb:nb < B
 z:∀q,Z q→q < B
section
variable {l:List GT} {nb:Nat} {Z:Nat→Prop} {B:Nat} {ids:Nat→Nat} {av:Value} {next:Nat} {fv mv:Value} {ub:Nat} {cv sv:Value} {qs:List Nat} {ρ:Nat→Nat} {σ:Hg.NmSt} {w w':World}
theorem NS.size(h:NS l nb Z B ids av next fv mv ub cv sv qs ρ σ w):B≤w.heap.size:=by have:=h.ul;have:=h.us.lt;omega
theorem NS.rest(h:NS l nb Z B ids av next fv mv ub cv sv qs ρ σ w)(hL:Low l nb Z B)(hA:Amb l nb Z){D:Nat→Prop}(hf:Fr D w w')(hD:∀q,D q→q=nb∨B≤q∧∀es ck,w.heap[q]?≠some (.map es ck)):
 SMap w' ub (PS σ.used)∧Sc w' B ub qs σ.scope∧∀s∈l,DJ w' ids ρ nilK Z s:=by
 have hnB:=hL.nb;have hu:=h.ul;have hq:=(Sc.get h.sc).2.1;refine⟨h.us.fr hf (fun e=> ?_),h.sc.keep (fun q hq'=> ?_),fun s hs=>(h.node s hs).frr hf (fun e=> ?_) (fun q hz e=> ?_)⟩
 ·obtain⟨es,ck,hum⟩:=h.us.obj
  rcases hD _ e with e|e
  ·omega
  ·exact e.2 es ck hum
 ·obtain⟨q1,q2,q3,es,ck,q4⟩:=hq q hq'
  refine hf.block q q3 (fun e=> ?_);rcases hD _ e with e|e
  ·omega
  ·exact e.2 es ck q4
 ·have:=hL.tree s hs
  rcases hD _ e with e|e
  ·exact hA.ne s hs e
  ·omega
 ·have:=hL.z q hz
  rcases hD _ e with e|e
  ·exact hA.nbz (e ▸ hz)
  ·omega
theorem NS.push(h:NS l nb Z B ids av next fv mv ub cv sv qs ρ σ w)(hL:Low l nb Z B)(hA:Amb l nb Z){W3:World}{sv':Value}
 (own3:W3.ownsRow B 157 1 sv' (qs.length+1) (qs.reverse.map mapV++[mapV w.heap.size])) (g3:((w.alloc (.map #[] 0)).alloc (.cells #[.map (some w.heap.size)] 157)).grownBy W3 sv.ownBlock):
 NS l nb Z B ids av next fv mv ub cv sv' (w.heap.size::qs) ρ {σ with scope:=[]::σ.scope} (W3.setCell ⟨nb,6,none⟩ sv')∧Fr (NOwn l nb B) w (W3.setCell ⟨nb,6,none⟩ sv'):=by
 have hnB:=hL.nb;have hBs:=h.size;have hb1:Below w.heap.size w (w.alloc (.map #[] 0)):=(Below.refl _ _).alloc (Nat.le_refl _) _;have hb:Below w.heap.size w ((w.alloc (.map #[] 0)).alloc (.cells #[.map (some w.heap.size)] 157)):=hb1.alloc (by simp) _;have hcl:∀q,sv.ownBlock=some q→B≤q∧q < w.heap.size:=h.ss.lt;have hf0:Fr (fun q=>sv.ownBlock=some q) w W3:=(Fr.of_below (D:=fun q=>sv.ownBlock=some q) hb).step g3 (fun q e=> .inl e);have hf:Fr (fun q=>q=nb∨sv.ownBlock=some q) w (W3.setCell ⟨nb,6,none⟩ sv'):=(hf0.imp (fun q _ e=> .inr e)).set (p:=⟨nb,6,none⟩) (.inl (.inl rfl)) _;have hnm:W3.heap[nb]? =some (.cells (Du av next fv mv cv (.map (some ub)) sv) 91 (0,0)):=hf0.at_ h.nm (fun e=>by have:=(hcl nb e).1;omega);obtain⟨r1,r2,r3⟩:=h.rest hL hA hf (fun q e=>by
  rcases e with e|e
  ·exact .inl e
  ·refine .inr ⟨(hcl q e).1,fun es ck hm=> ?_⟩
   rcases Di h.ss hm with e'|e'
   ·rw[e'] at e;cases e
   ·exact e' e)
 have hq:=(Sc.get h.sc).2.1;have hmade:=XMap.made 9 strV w;have hm2:SMap (W3.setCell ⟨nb,6,none⟩ sv') w.heap.size (lvlM []):=by
  refine hmade.keep ?_;refine(Below.heap_setCell W3 ⟨nb,6,none⟩ _ w.heap.size (by show¬w.heap.size=nb;have:=h.nm.lt;omega)).trans ?_;exact(g3.block w.heap.size (by simp;omega) (fun e=>by have:=(hcl _ e.symm).2;omega)).trans (heap_alloc_old _ _ (by simp))
 refine⟨⟨heap_setCell_same hnm _,r1,h.ul,Aa h.cs hf (fun q e e'=> ?_), ?_,⟨hm2,hBs,fun e=>by have:=h.us.lt;omega,fun hm=>by have:=(hq _ hm).2.2.1;omega,r2⟩,r3,fun m hm p hp=> ?_,h.ref,h.kin⟩,hf.imp (fun q _ e=> ?_)⟩
 ·rcases e' with e'|e'
  ·have:=(h.cs.lt q e).1;omega
  ·exact own_ne h.cs h.ss VW q e e'
 ·show World.ownsRow _ B _ 1 sv' (qs.length+1) ((w.heap.size::qs).reverse.map mapV)
  rw[List.reverse_cons,List.map_append];refine own3.kept (Bc (Bo W3 (some nb)) 6 sv') ?_;cases hv:sv'.ownBlock with
  |none=>exact .inl rfl
  |some q=>exact .inr (fun e=>by injection e with e;have:=(own3.lt q hv).1;omega)
 ·rcases List.mem_cons.1 hm with hm|hm
  ·subst hm;simp at hp
  ·exact h.here m hm p hp
 ·rcases e with e|e
  ·exact .inl (.inl e)
  ·exact .inr (hcl q e).1
theorem NS.pop{g k z q0:Nat}(h:NS l nb Z B ids av next fv mv ub cv (.slice (some ⟨g,0,none⟩) (k+1) z) (q0::qs) ρ σ w)(hL:Low l nb Z B)(hA:Amb l nb Z)(hk:qs.length=k):
 NS l nb Z B ids av next fv mv ub cv (.slice (some ⟨g,0,none⟩) k z) qs ρ {σ with scope:=σ.scope.drop 1} (w.setCell ⟨nb,6,none⟩ (.slice (some ⟨g,0,none⟩) k z))∧Fr (NOwn l nb B) w (w.setCell ⟨nb,6,none⟩ (.slice (some ⟨g,0,none⟩) k z)):=by
 have hnB:=hL.nb;have hf:Fr (fun q=>q=nb) w (w.setCell ⟨nb,6,none⟩ (.slice (some ⟨g,0,none⟩) k z)):=(Fr.refl (fun q=>q=nb) w).set (p:=⟨nb,6,none⟩) (.inl rfl) _;have hss:=h.ss;rw[List.reverse_cons,List.map_append,List.length_cons,hk] at hss;have h2:=ownsRow_pop (n:=k) (size:=1) (xs:=qs.reverse.map mapV) (by simpa using hk) hss;obtain⟨r1,r2,r3⟩:=h.rest hL hA hf (fun q e=> .inl e);cases hsc:σ.scope with
 |nil=>rw[hsc] at r2;exact r2.elim
 |cons m ms=>
   rw[hsc] at r2;obtain⟨s1,s2,s3,s4,s5⟩:=r2;refine⟨⟨heap_setCell_same h.nm _,r1,h.ul,Aa h.cs hf (fun q e e'=>by have:=(h.cs.lt q e).1;omega), ?_,s5,r3,fun m' hm p hp=> ?_,h.ref,h.kin⟩,hf.imp (fun q _ e=> .inl (.inl e))⟩
   ·rw[hk]
    exact Aa h2 hf (fun q e e'=>by have:=(h2.lt q e).1;omega)
   ·have hh:=h.here
    rw[hsc] at hh;exact hh m' (by simp at hm;simp[hm]) p hp
end
end Go.Proofs.YtljmibnfmilfbaaGreatDoor
namespace Hg
def IY(σ:NmSt)(t:GT):Except Nat NmSt:=
 if t.nd.kind=7∨t.nd.kind=15∨t.nd.kind=19∨t.nd.kind=6 then .error 0
 else if t.nd.kind=5 then .ok {σ with scope:=[]::σ.scope}
 else .ok σ
def IE(σ:NmSt)(t:GT):Except Nat NmSt:=if t.nd.kind=5 then .ok {σ with scope:=σ.scope.drop 1} else .ok σ
theorem I7(σ:NmSt)(t:GT):CJ σ t=match IY σ t with
 | .error e=> .error e
 | .ok σ1=>match CF σ1 t.ks with
   | .error e=> .error e
   | .ok σ2=>IE σ2 t:=by
 cases t with
 |mk b nd md tt ks=>rw[CJ];rfl
theorem Eu(σ:NmSt):CF σ []= .ok σ:=by rw[CF]
theorem EM(σ:NmSt)(t:GT)(ts:List GT):CF σ (t::ts)=match CJ σ t with
 | .error e=> .error e
 | .ok σ1=>CF σ1 ts:=by rw[CF];rfl
theorem Bd.head{σ σ':NmSt}{n:Nat}{t:GT}(h:Bd σ n)(hh:IY σ t= .ok σ'):Bd σ' (n+1):=by
 have h1:=h.us;have h2:=h.lv;have h3:=h.sc;have h4:=h.ca;unfold IY at hh;by_cases k1:t.nd.kind=7∨t.nd.kind=15∨t.nd.kind=19∨t.nd.kind=6
 ·rw[if_pos k1] at hh;cases hh
 rw[if_neg k1] at hh;by_cases k3:t.nd.kind=5
 ·rw[if_pos k3] at hh
  injection hh with hh;subst hh;refine⟨by show σ.used.length≤n+1;omega,fun m hm=> ?_,by simp;omega,by show σ.calls.length≤n+1;omega⟩;rcases List.mem_cons.1 hm with hm|hm
  ·subst hm;simp
  ·have:=h2 m hm;omega
 rw[if_neg k3] at hh;injection hh with hh;subst hh;exact h.more (by omega)
theorem Bd.tail{σ σ':NmSt}{n:Nat}{t:GT}(h:Bd σ n)(hh:IE σ t= .ok σ'):Bd σ' (n+1):=by
 have h1:=h.us;have h2:=h.lv;have h3:=h.sc;have h4:=h.ca;unfold IE at hh;by_cases k1:t.nd.kind=5
 ·rw[if_pos k1] at hh
  injection hh with hh;subst hh;exact⟨by show σ.used.length≤n+1;omega,fun m hm=>by have:=h2 m (List.mem_of_mem_drop hm);omega,by simp;omega,by show σ.calls.length≤n+1;omega⟩
 rw[if_neg k1] at hh;injection hh with hh;subst hh;exact h.more (by omega)
theorem Kk:∀n t,t.subs.length≤n→∀σ N σ',Bd σ N→CJ σ t= .ok σ'→Bd σ' (N+2*t.subs.length):=by
 intro n
 induction n with
 |zero=>intro t h;rw[GT.Aq] at h;simp at h
 |succ n ih=>
   intro t ht σ N σ' hB hv;have key:∀(ks:List GT),(∀k∈ks,k.subs.length≤n)→∀σ N σ',Bd σ N→CF σ ks= .ok σ'→Bd σ' (N+2*(GT.DF ks).length):=by
    intro ks
    induction ks with
    |nil=>
      intro _ σ N σ' hB hv;rw[Eu] at hv;injection hv with hv;subst hv;exact hB.more (by omega)
    |cons k ks ihk=>
      intro hk σ N σ' hB hv;rw[EM] at hv;cases h1:CJ σ k with
      |error e=>rw[h1] at hv;cases hv
      |ok σ1=>
        rw[h1] at hv;have b1:=ih k (hk k (by simp)) σ N σ1 hB h1;have b2:=ihk (fun x hx=>hk x (by simp[hx])) σ1 _ σ' b1 hv;rw[GT.BH,List.length_append];exact b2.more (by omega)
   rw[I7] at hv;cases hh:IY σ t with
   |error e=>rw[hh] at hv;cases hv
   |ok σ1=>
     rw[hh] at hv;dsimp only at hv;cases hl:CF σ1 t.ks with
     |error e=>rw[hl] at hv;cases hv
     |ok σ2=>
       rw[hl] at hv;have b1:=hB.head hh;have b2:=key t.ks (fun k hk=>by have:=GT.F6 hk;omega) σ1 _ σ2 b1 hl;have b3:=b2.tail hv;rw[GT.Aq t];exact b3.more (by simp;omega)
end Hg
namespace Go.Proofs.YtljmibnfmilfbaaGreatDoor
open Go.RowKit
open Hg (GT gl Bd)
theorem UM:(Tryz.prog.info? 157).map (fun i=>(i.zero,i.size,i.bytes))=some (some (.map none),1,8):=by kernel_rfl
theorem Tj(l:List GT)(nb:Nat)(Z:Nat→Prop)(B:Nat)(hL:Low l nb Z B)(hA:Amb l nb Z)(ids:Nat→Nat)(av:Value)(next:Nat)(fv mv:Value)(ub:Nat)(hlen:∀s∈l,s.nd.name.length≤1000000∧s.tt.length≤1000000):
 ∀(n:Nat) (t:GT),t∈l→t.subs.length≤n→∀(cv sv:Value) (qs:List Nat) (ρ:Nat→Nat) (σ:Hg.NmSt) (N:Nat) (w:World),Hg.CJ σ t≠ .error 0→Bd σ N→N+2*t.subs.length≤1000000→NS l nb Z B ids av next fv mv ub cv sv qs ρ σ w→
 Calls Tryz.prog 111 #[.pointer (some ⟨nb,0,none⟩),ptrV t] w (NRes l nb Z B ids av next fv mv ub qs (Hg.CJ σ t) w):=by
 intro n
 induction n with
 |zero=>intro t ht hn;rw[GT.Aq] at hn;simp at hn
 |succ n ih=>
   intro t ht hn cv sv qs ρ σ N w h0 hB hN hS;have hlenk:t.subs.length=(GT.AP t.ks).length+1:=by rw[GT.Aq,GT.Bf];rfl
   have hkl:t.ks.length≤1000000:=by have:=GT.Jd t.ks;omega
   have IH:=zz ih;have HLW:=zz hL;have HAM:=zz hA;have HT:=zz ht;have HLEN:=zz hlen;have HS:=zz hS;have HB:=zz hB;have HN:=zz hN;generalize hr:Hg.CJ σ t=r at h0⊢;have H0:=zz h0;rw[Hg.I7] at hr;obtain⟨a,c,hh,-,-⟩:=(hS.node t ht).open_;have c0:=cell_of_row w t.b 0 _ _ (0,0) hh;have k2:=cell_of_row w t.b 7 _ _ (0,0) hh;have x4:=cell_of_row w t.b 4 _ _ (0,0) hh;have fz:∀i,w.frozen? ⟨t.b,i,none⟩=false:=fun i=>by simp[World.frozen?,hh]
   have htl:t.b < w.heap.size:=(Array.getElem?_eq_some_iff.1 hh).1;simp at c0 k2 x4;clear ih hL hA ht hlen hS hB hN h0 hh;by_cases hbad:t.nd.kind=7∨t.nd.kind=15∨t.nd.kind=19∨t.nd.kind=6
   ·unfold Hg.IY at hr
    rw[if_pos hbad] at hr;exact absurd hr.symm H0.out
   have hn6:¬t.nd.kind=6:=by omega
   have g7:((t.nd.kind:Int)==7)=false:=by simpa using(show¬(t.nd.kind:Int)=7 by omega)
   have g15:((t.nd.kind:Int)==15)=false:=by simpa using(show¬(t.nd.kind:Int)=15 by omega)
   have hnm:=HS.out.nm;have c4:=cell_of_row w nb 4 _ _ (0,0) hnm;have c6:=cell_of_row w nb 6 _ _ (0,0) hnm;simp at c4 c6;have hnl:=hnm.lt;obtain⟨j0,hj,hj0,hj1,hj2⟩:=info_parts Lx;obtain⟨i0,hi,hz0,hz1,hz2⟩:=info_parts UM;have hmm:= @run_makeMap Tryz.prog;have hhd:Hg.IY σ t=if t.nd.kind=5 then .ok {σ with scope:=[]::σ.scope} else .ok σ:=by unfold Hg.IY;rw[if_neg hbad]
   have HHD:=zz hhd;rw[hhd] at hr;clear hhd hnm;have g19:((t.nd.kind:Int)==19)=false:=by simpa using(show¬(t.nd.kind:Int)=19 by omega)
   by_cases hk5:t.nd.kind=5
   ·have g5:((t.nd.kind:Int)==5)=true:=by simpa using(show(t.nd.kind:Int)=5 by omega)
    rw[if_pos hk5] at hr;dsimp only at hr;have HR:=zz hr;have HB1:=zz (show Bd {σ with scope:=[]::σ.scope} (N+1) from HB.out.head (t:=t) (by rw[HHD.out,if_pos hk5]));have hcl:=HB.out.sc;have hql0:=(Sc.get HS.out.sc).1;have hNN:=HN.out;have hql1:qs.length≤1000000:=by omega
    clear hql0 hcl;clear hr k2 x4 fz HHD;go_enter Tryz.func111,Tryz.ntmps111
    go_wp2_with (at_builtin;refine wpList_append_own_at _ rfl (.tmp 51) (.tmp 53) _ rfl B 157 i0 _ 1 8 Tryz.underlying89 hi hz0 hz1 hz2 rfl (by decide) sv qs.length (qs.reverse.map mapV) rfl ((HS.out.ss.alloc _).alloc _) ⟨w.heap.size+1,0,none⟩ 1 1 [.map (some w.heap.size)] rfl rfl ?_ ?_ ?_ ?_ ?_ ?_)
    all_goals first
     |intro v3 W3 own3 g3 _ at3
     |exact GD _ _ _ _
     |rfl
     |(unfold maxLen;omega)
     |omega
     |(have:=HS.out.size;simp;omega)
     |(intro u hu;simp only[List.mem_singleton] at hu;subst hu;rfl)
    ·skip
     have hbn:Below w.heap.size w ((w.alloc (.map #[] 0)).alloc (.cells #[.map (some w.heap.size)] 157)):=((Below.refl _ _).alloc (Nat.le_refl _) _).alloc (by simp) _;rw[←List.map_reverse] at own3;obtain⟨hs1,hf1⟩:=HS.out.push HLW.out HAM.out own3 g3;have hn3:NmAt W3 nb av next fv mv cv (.map (some ub)) sv:=(g3.block nb (by simp;omega) (fun e=>by have:=(HS.out.ss.lt nb e.symm).1;have:=HLW.out.nb;omega)).trans ((hbn.block nb hnl).trans HS.out.nm);have c6:=cell_of_row W3 nb 6 _ _ (0,0) hn3;have f6:∀i,W3.frozen? ⟨nb,i,none⟩=false:=fun i=>by simp[World.frozen?,show W3.heap[nb]? =_ from hn3]
     simp at c6;obtain⟨y3,z3,rfl⟩:=ownsRow_succ own3;have HS1:=zz hs1;have HF1:=zz hf1;clear own3 g3 at3 hbn hs1 hf1 hn3;go_upto_region 12 with fail;clear c0 c6 f6 htl c4;generalize World.setCell W3 _ _=w1 at HS1 HF1⊢;generalize w.heap.size=q0 at HS1⊢;have HRL0:=zz (show Hg.CF {σ with scope:=[]::σ.scope} t.ks≠ .error 0 from fun e=>H0.out (by rw[←HR.out,e]));obtain⟨a1,cc1,hh1,hs1,hq1⟩:=(HS1.out.node t HT.out).open_;have HQ:=zz (show∀q,(Value.slice a1 t.ks.length cc1).ownBlock=some q→¬NOwn l nb B q from fun q e e'=>by
      have hz:=hq1 q e;rcases e' with(e'|⟨s,hs,e'⟩)|e'
      ·exact HAM.out.nbz (e' ▸ hz)
      ·exact HAM.out.nz s hs (e' ▸ hz)
      ·have:=HLW.out.z q hz;omega)
     have HSL:=zz hs1;have c8:=cell_of_row w1 t.b 8 _ _ (0,0) hh1;simp at c8;clear hh1 hs1 hq1;go_wp2
     go_loopw [62] (fun p wr=>∃(j:Nat) (cvj svj:Value) (ρj:Nat→Nat) (σj:Hg.NmSt),p= .int .i64 (j:Int)∧j≤t.ks.length∧NS l nb Z B ids av next fv mv ub cvj svj (q0::qs) ρj σj wr∧Bd σj (N+1+2*(GT.AP (t.ks.take j)).length)∧Fr (NOwn l nb B) w1 wr∧Hg.CF σj (t.ks.drop j)=Hg.CF {σ with scope:=[]::σ.scope} t.ks) (fun p wr=>t.ks.length-(intOf p).toNat)
     case atStart=>exact⟨0,_,_,_,_,rfl,Nat.zero_le _,HS1.out,by simpa[GT.AP,GT.BQ] using HB1.out,Fr.refl _ _,rfl⟩
     case round=>
      obtain⟨j,cvj,svj,ρj,σj,rfl,hj,hSj,hBj,hFj,hvj⟩:=hrel;have HFJ:=zz hFj;have HBJ:=zz hBj;by_cases hlt:j < t.ks.length
      ·obtain⟨b,o,rfl,_,kc⟩:=(HSL.out.fr (Nat.le_refl _) hFj HQ.out).mapAt hlt
       have hkm:t.ks[j]∈t.ks:=List.getElem_mem hlt;have hk:t.ks[j]∈l:=HAM.out.kids t HT.out _ hkm;have hsz:(GT.AP (t.ks.take (j+1))).length=(GT.AP (t.ks.take j)).length+t.ks[j].subs.length:=by rw[GT.CV hlt,List.length_append,GT.DN]
       have hsz2:=GT.CY t.ks (j+1);rw[List.drop_eq_getElem_cons hlt,Hg.EM] at hvj;have h0k:Hg.CJ σj t.ks[j]≠ .error 0:=fun e=>by rw[e] at hvj;exact HRL0.out hvj.symm
       have TI:=zz (IH.out t.ks[j] hk (by have:=GT.F6 hkm;omega) cvj svj _ ρj σj _ wr h0k hBj (by have:=HN.out;omega) hSj);have HVJ:=zz hvj;have HSZ:=zz hsz;clear hkm hk hsz hsz2 h0k hSj hBj hFj hvj;go_wp2_with fail;refine TI.out.mono ?_;rintro e w3 ⟨hF3,hres⟩;have HF3:=zz (HFJ.out.trans hF3);have hvj:=HVJ.out;cases hrk:Hg.CJ σj t.ks[j] with
       |error ek=>
         rw[hrk] at hres hvj;replace hres:e= .returned (.int .i64 (EF ek:Int)):=hres;subst hres;have hre:r= .error ek:=by rw[←HR.out,←hvj]
         have hq:((EF ek:Int) !=0)=true:=by unfold EF;split <;>rfl
         subst hre;clear TI HVJ hF3 hvj hrk;go_wp2;go_ret;exact⟨HF1.out.trans HF3.out,rfl⟩
       |ok σ'=>
         rw[hrk] at hres hvj;obtain⟨rfl,cv',sv',ρ',hS'⟩:=hres;have HS':=zz hS';have HVK:=zz hvj;have HBK:=zz (Hg.Kk _ _ (Nat.le_refl _) _ _ _ HBJ.out hrk);clear TI HVJ hF3 hS' hvj hrk;go_wp2;go_roundw
         case rel=>exact⟨j+1,cv',sv',ρ',σ',by go_num,by omega,HS'.out,by rw[HSZ.out];exact HBK.out.more (by omega),HF3.out,HVK.out⟩
         case measure=>simp[intOf];omega
      ·obtain rfl:j=t.ks.length:=by omega
       rw[List.drop_length,Hg.Eu] at hvj;have hfin:Hg.IE σj t=r:=by rw[←HR.out,←hvj]
       have HFIN:=zz hfin;have HSJ:=zz hSj;have HFW:=zz (HF1.out.trans hFj);obtain⟨a2,cc2,hh2,-,-⟩:=(hSj.node t HT.out).open_;have c0:=cell_of_row wr t.b 0 _ _ (0,0) hh2;simp at c0;clear hh2 hSj hBj hFj hvj hfin;have hre:r= .ok {σj with scope:=σj.scope.drop 1}:=by rw[←HFIN.out];unfold Hg.IE;rw[if_pos hk5]
       subst hre;obtain⟨g5',z5,rfl⟩:=ownsRow_succ (k:=qs.length) HSJ.out.ss;have hss:=HSJ.out.ss;have hnm5:=HSJ.out.nm;have c6:=cell_of_row wr nb 6 _ _ (0,0) hnm5;have f6:∀i,wr.frozen? ⟨nb,i,none⟩=false:=fun i=>by simp[World.frozen?,show wr.heap[nb]? =_ from hnm5]
       simp at c6;have hcap:qs.length+1≤z5:=(by obtain⟨c9,e,h,_⟩:=Gl hss rfl;injection e with _ _ e;simp at h;omega);have hks:IntKind.i64.wrap (((qs.length+1:Nat):Int)-1)=(qs.length:Int):=by rw[IntWalk.i64_in _ (by omega)];omega
       have hks2:IntKind.i64.wrap (qs.length:Int)=(qs.length:Int):=IntWalk.i64_in _ (by omega);have hcap2:qs.length≤z5:=by omega
       obtain⟨hp1,hp2⟩:=HSJ.out.pop HLW.out HAM.out rfl;have HP1:=zz hp1.drew;have HP2:=zz (HFW.out.trans hp2).drew;have hHeld:(fun w'=>w'.cell? ⟨nb,6,none⟩=some (.slice (some ⟨g5',0,none⟩) (qs.length+1) z5)) wr.drew:=c6;clear hss hnm5 hp1 hp2;go_upto_region 21 with fail;refine AR (fun w'=>w'.cell? ⟨nb,6,none⟩=some (.slice (some ⟨g5',0,none⟩) (qs.length+1) z5)) 12 (by kernel_rfl) ?_;refine tz 0 _ _ _ ?_;refine tz 1 _ _ _ ?_;refine tz 2 _ _ _ ?_;refine tz 3 _ _ _ ?_;refine tz 4 _ _ _ ?_;refine tz 5 _ _ _ ?_;refine tz 6 _ _ _ ?_;refine tz 7 _ _ _ ?_;refine tz 8 _ _ _ ?_;refine tz 9 _ _ _ ?_;refine tz 10 _ _ _ ?_;refine tz 11 _ _ _ ?_;refine AL (by kernel_rfl) ?_;simp only[List.drop_succ_cons,List.drop_zero];go_wp2;go_ret;have HP3:=HP1.out;rw[List.drop_one] at HP3;exact⟨HP2.out,rfl,_,_,_,HP3⟩
   have e5:((t.nd.kind:Int)==5)=false:=by simpa using(show¬(t.nd.kind:Int)=5 by omega)
   rw[if_neg hk5] at hr;dsimp only at hr;have HR:=zz hr;have HS1:=HS;have HF1:=zz (Fr.refl (NOwn l nb B) w);have HB1:=zz (HB.out.more (Nat.le_succ N));clear hr k2 x4 fz HHD;have e6:((t.nd.kind:Int)==6)=false:=by simpa using(show¬(t.nd.kind:Int)=6 by omega)
   have hn5:=hk5;go_enter Tryz.func111,Tryz.ntmps111;go_upto_region 12 with fail;clear c4 c6 c0 htl;have HRL0:=zz (show Hg.CF σ t.ks≠ .error 0 from fun e=>H0.out (by rw[←HR.out,e]));obtain⟨a1,cc1,hh1,hs1,hq1⟩:=(HS1.out.node t HT.out).open_;have HQ:=zz (show∀q,(Value.slice a1 t.ks.length cc1).ownBlock=some q→¬NOwn l nb B q from fun q e e'=>by
    have hz:=hq1 q e;rcases e' with(e'|⟨s,hs,e'⟩)|e'
    ·exact HAM.out.nbz (e' ▸ hz)
    ·exact HAM.out.nz s hs (e' ▸ hz)
    ·have:=HLW.out.z q hz;omega)
   have HSL:=zz hs1;have c8:=cell_of_row w t.b 8 _ _ (0,0) hh1;simp at c8;clear hh1 hs1 hq1;go_wp2
   go_loopw [62] (fun p wr=>∃(j:Nat) (cvj svj:Value) (ρj:Nat→Nat) (σj:Hg.NmSt),p= .int .i64 (j:Int)∧j≤t.ks.length∧NS l nb Z B ids av next fv mv ub cvj svj qs ρj σj wr∧Bd σj (N+1+2*(GT.AP (t.ks.take j)).length)∧Fr (NOwn l nb B) w wr∧Hg.CF σj (t.ks.drop j)=Hg.CF σ t.ks) (fun p wr=>t.ks.length-(intOf p).toNat)
   case atStart=>exact⟨0,_,_,_,_,rfl,Nat.zero_le _,HS1.out,by simpa[GT.AP,GT.BQ] using HB1.out,Fr.refl _ _,rfl⟩
   case round=>
    obtain⟨j,cvj,svj,ρj,σj,rfl,hj,hSj,hBj,hFj,hvj⟩:=hrel;have HFJ:=zz hFj;have HBJ:=zz hBj;by_cases hlt:j < t.ks.length
    ·obtain⟨b,o,rfl,_,kc⟩:=(HSL.out.fr (Nat.le_refl _) hFj HQ.out).mapAt hlt
     have hkm:t.ks[j]∈t.ks:=List.getElem_mem hlt;have hk:t.ks[j]∈l:=HAM.out.kids t HT.out _ hkm;have hsz:(GT.AP (t.ks.take (j+1))).length=(GT.AP (t.ks.take j)).length+t.ks[j].subs.length:=by rw[GT.CV hlt,List.length_append,GT.DN]
     have hsz2:=GT.CY t.ks (j+1);rw[List.drop_eq_getElem_cons hlt,Hg.EM] at hvj;have h0k:Hg.CJ σj t.ks[j]≠ .error 0:=fun e=>by rw[e] at hvj;exact HRL0.out hvj.symm
     have TI:=zz (IH.out t.ks[j] hk (by have:=GT.F6 hkm;omega) cvj svj _ ρj σj _ wr h0k hBj (by have:=HN.out;omega) hSj);have HVJ:=zz hvj;have HSZ:=zz hsz;clear hkm hk hsz hsz2 h0k hSj hBj hFj hvj;go_wp2_with fail;refine TI.out.mono ?_;rintro e w3 ⟨hF3,hres⟩;have HF3:=zz (HFJ.out.trans hF3);have hvj:=HVJ.out;cases hrk:Hg.CJ σj t.ks[j] with
     |error ek=>
       rw[hrk] at hres hvj;replace hres:e= .returned (.int .i64 (EF ek:Int)):=hres;subst hres;have hre:r= .error ek:=by rw[←HR.out,←hvj]
       have hq:((EF ek:Int) !=0)=true:=by unfold EF;split <;>rfl
       subst hre;clear TI HVJ hF3 hvj hrk;go_wp2;go_ret;exact⟨HF1.out.trans HF3.out,rfl⟩
     |ok σ'=>
       rw[hrk] at hres hvj;obtain⟨rfl,cv',sv',ρ',hS'⟩:=hres;have HS':=zz hS';have HVK:=zz hvj;have HBK:=zz (Hg.Kk _ _ (Nat.le_refl _) _ _ _ HBJ.out hrk);clear TI HVJ hF3 hS' hvj hrk;go_wp2;go_roundw
       case rel=>exact⟨j+1,cv',sv',ρ',σ',by go_num,by omega,HS'.out,by rw[HSZ.out];exact HBK.out.more (by omega),HF3.out,HVK.out⟩
       case measure=>simp[intOf];omega
    ·obtain rfl:j=t.ks.length:=by omega
     rw[List.drop_length,Hg.Eu] at hvj;have hfin:Hg.IE σj t=r:=by rw[←HR.out,←hvj]
     have HFIN:=zz hfin;have HSJ:=zz hSj;have HFW:=zz (HF1.out.trans hFj);obtain⟨a2,cc2,hh2,-,-⟩:=(hSj.node t HT.out).open_;have c0:=cell_of_row wr t.b 0 _ _ (0,0) hh2;simp at c0;clear hh2 hSj hBj hFj hvj hfin;have hre:r= .ok σj:=by rw[←HFIN.out];unfold Hg.IE;rw[if_neg (by omega)]
     subst hre;go_wp2;go_ret;exact⟨HFW.out,rfl,_,_,_,HSJ.out⟩
end Go.Proofs.YtljmibnfmilfbaaGreatDoor
