/-
  Part of the proof of CheckLists.
-/
import Derived.Test.YtljmibnfmilfbaaGreatDoorKeBA
import Derived.Test.YtljmibnfmilfbaaGreatDoorKeAT
set_option linter.all false
set_option maxHeartbeats 32000000
set_option maxRecDepth 100000
namespace Go.Proofs.YtljmibnfmilfbaaGreatDoor
open Go.RowKit
open Hg (GT tkAt tkIs EJ tkB Db EB)
def XL(w:World)(pb fb:Nat)(nd:Hg.Node)(md tt:List UInt8)(L:List Hg.Tok)(k d:Nat)(G:List GT)(a:GT)(e:Ending)(w':World):Prop:=
 e= .returned (.tuple #[])∧PaAt w' pb L k d∧∃v t,GT.era t=a∧BO w pb fb nd md tt w' v (G++[t])
def Te(L:List Hg.Tok)(pb d:Nat)(item:Nat→Option (GT×Nat)):Prop:=
 (∀W k a k1,PaAt W pb L k d→item k=some (a,k1)→Calls Tryz.prog 109 #[.pointer (some ⟨pb,0,none⟩)] W (JQ W pb L k1 d a))∧∀k a k1,item k=some (a,k1)→k < k1∧k < L.length
end Go.Proofs.YtljmibnfmilfbaaGreatDoor
namespace Hg
variable {L:List Tok}
theorem Ur{item:Nat→Option (GT×Nat)}(hi:∀k a k1,item k=some (a,k1)→k < k1∧k < L.length):∀n k l k2,II L item n k=some (l,k2)→k < k2:=by
 intro n
 induction n with
 |zero=>intro k l k2 h;cases h
 |succ n ih=>
   intro k l k2 h;unfold II at h;cases hit:item k with
   |none=>rw[hit] at h;cases h
   |some x=>
     obtain⟨a,k1⟩:=x;rw[hit] at h;have h1:=(hi k a k1 hit).1;dsimp only at h
     split at h
     ·simp only[Option.some.injEq,Prod.mk.injEq] at h;omega
     ·split at h
      ·cases hm:II L item n (k1+1) with
       |none=>rw[hm] at h;cases h
       |some y=>
         obtain⟨l',k3⟩:=y;rw[hm] at h;simp only[Option.some.injEq,Prod.mk.injEq] at h;have:=ih (k1+1) l' k3 hm;omega
      ·cases h
theorem Uu{item:Nat→Option (GT×Nat)}(hi:∀k a k1,item k=some (a,k1)→k < k1∧k < L.length){k k2:Nat}{l:List GT}(h:KD L item k=some (l,k2)):k < k2:=by
 unfold KD at h
 split at h
 ·simp only[Option.some.injEq,Prod.mk.injEq] at h;omega
 ·exact Ur hi _ _ _ _ h
theorem Wl{f d k k1:Nat}{a:GT}(h:gE L (f+1) d k=some (a,k1)):k < L.length∧
 (((tkAt L k).kind=2∧∃n,digit (tkAt L k).text=some n∧a=gmk 13 n [] []∧k1=k+1)∨
 (¬(tkAt L k).kind=2∧¬(tkAt L k).kind=1∧tkIs L k Eo=true∧a=gmk 14 1 [] []∧k1=k+1)∨
 (¬ (tkAt L k).kind = 2 ∧ ¬ (tkAt L k).kind = 1 ∧ tkIs L k Eo = false ∧ tkIs L k EI = false ∧ tkIs L k GJ = false ∧ tkIs L k [33] = false ∧ tkIs L k [45] = false ∧ tkIs L k [40] = true ∧ d < 60 ∧
  ∃x j b q,gE L f (d+1) (k+1)=some (x,j)∧j < L.length∧¬Ez (tkAt L j).text=0∧gE L f (d+1) (j+1)=some (b,q)∧tkB L q [41]=true∧a=gmk 18 (Ez (tkAt L j).text) [] [x,b]∧k1=q+1)):=by
 unfold gE at h;by_cases hk:L.length≤k
 ·rw[if_pos hk] at h;cases h
 rw[if_neg hk] at h;refine⟨by omega, ?_⟩;by_cases h2:(tkAt L k).kind=2
 ·rw[if_pos h2] at h
  refine .inl ⟨h2, ?_⟩;cases hd:digit (tkAt L k).text with
  |none=>rw[hd] at h;cases h
  |some n=>
    rw[hd] at h;injection h with h;injection h with h3 h4;exact⟨n,rfl,h3.symm,h4.symm⟩
 rw[if_neg h2] at h;refine .inr ?_;by_cases h1:(tkAt L k).kind=1
 ·rw[if_pos h1] at h;cases h
 rw[if_neg h1] at h;by_cases n1:tkIs L k Eo=true
 ·rw[if_pos n1] at h
  injection h with h;injection h with h3 h4;exact .inl ⟨h2,h1,n1,h3.symm,h4.symm⟩
 rw[if_neg n1] at h;refine .inr ?_;by_cases n2:tkIs L k EI=true
 ·rw[if_pos n2] at h;cases h
 rw[if_neg n2] at h;by_cases n3:tkIs L k GJ=true
 ·rw[if_pos n3] at h;cases h
 rw[if_neg n3] at h;by_cases n4:tkIs L k [33]=true
 ·rw[if_pos n4] at h;cases h
 rw[if_neg n4] at h;by_cases n5:tkIs L k [45]=true
 ·rw[if_pos n5] at h;cases h
 rw[if_neg n5] at h;by_cases n6:tkIs L k [40]=true
 ·rw[if_pos n6] at h
  by_cases hd:d < 60
  ·rw[if_pos hd] at h
   refine⟨h2,h1,by simpa using n1,by simpa using n2,by simpa using n3,by simpa using n4,by simpa using n5,n6,hd, ?_⟩;cases e1:gE L f (d+1) (k+1) with
   |none=>rw[e1] at h;cases h
   |some y=>
     obtain⟨x,j⟩:=y;rw[e1] at h;dsimp only at h;by_cases hj:L.length≤j
     ·rw[if_pos hj] at h;cases h
     rw[if_neg hj] at h;by_cases hs:Ez (tkAt L j).text=0
     ·rw[if_pos hs] at h;cases h
     rw[if_neg hs] at h;cases e2:gE L f (d+1) (j+1) with
     |none=>rw[e2] at h;cases h
     |some y=>
       obtain⟨b,q⟩:=y;rw[e2] at h;dsimp only at h;by_cases h4:tkB L q [41]=true
       ·rw[if_pos h4] at h
        injection h with h;injection h with h5 h6;exact⟨x,j,b,q,rfl,by omega,hs,e2,h4,h5.symm,h6.symm⟩
       ·rw[if_neg h4] at h;cases h
  ·rw[if_neg hd] at h;cases h
 ·rw[if_neg n6] at h;cases h
theorem Wm:∀f d k a k1,gE L f d k=some (a,k1)→k < k1∧k < L.length:=by
 intro f
 induction f with
 |zero=>intro d k a k1 h;cases h
 |succ f ih=>
   intro d k a k1 h;obtain⟨hk,h⟩:=Wl h;refine⟨?_,hk⟩;rcases h with⟨_,n,_,_,h⟩|⟨_,_,_,_,h⟩|⟨_,_,_,_,_,_,_,_,_,x,j,b,q,e1,_,_,e2,_,_,h⟩
   ·omega
   ·omega
   ·have:=(ih _ _ _ _ e1).1;have:=(ih _ _ _ _ e2).1;omega
end Hg
namespace Go.Proofs.YtljmibnfmilfbaaGreatDoor
open Go.RowKit
open Hg (GT tkAt tkIs EJ tkB Db EB)
theorem Xx(L:List Hg.Tok)(pb f d:Nat)(h:∀W k a k1,PaAt W pb L k d→Hg.gE L f d k=some (a,k1)→Calls Tryz.prog 109 #[.pointer (some ⟨pb,0,none⟩)] W (JQ W pb L k1 d a)):Te L pb d (Hg.gE L f d):=
 ⟨h,fun k a k1=>Hg.Wm f d k a k1⟩
theorem Vt{W:World}{cs:Array Value}{e:TypeId}{lo n:Nat}{xs:List Value}(hlo:lo≤W.heap.size)(hcs:cs.toList=xs)(hn:xs.length=n)(hm:n≤maxLen):(W.alloc (.cells cs e)).ownsRow lo e 1 (.slice (some ⟨W.heap.size,0,none⟩) n n) n xs:=
 ⟨by omega,.inr ⟨W.heap.size,n,cs,rfl,hlo,heap_alloc_new W _,Nat.le_refl _,hm,by rw[←Array.length_toList,hcs];omega,by rw[hcs,List.take_of_length_le (by omega)]⟩⟩
section
variable {W W':World} {b lo r:Nat} {nd:Hg.Node} {md tt:List UInt8} {l:List GT}
theorem CE.lit{n:Nat}{cs:Array Value}{W4:World}(h:CE W b lo nd md tt (.slice none 0 0) [])(F:Ao (fun _=>False) lo W l)(ha:W.alloc (.cells cs 83)=W4)(hcs:cs.toList=l.map ptrV)(hn:l.length=n)(hm:n≤maxLen):
 CE (W4.setCell ⟨b,8,none⟩ (.slice (some ⟨W.heap.size,0,none⟩) n n)) b lo nd md tt (.slice (some ⟨W.heap.size,0,none⟩) n n) l:=by
 subst ha;have hlt:=h.lt;have hlo:=h.gt;have hsz:=h.sz;have hb:Below W.heap.size W (W.alloc (.cells cs 83)):=(Below.refl _ _).alloc (Nat.le_refl _) _;have hF:Ao (fun q=>(Value.slice (some ⟨W.heap.size,0,none⟩) n n).ownBlock=some q) lo (W.alloc (.cells cs 83)) l:=
  (F.fresh (X':=fun q=>(Value.slice (some ⟨W.heap.size,0,none⟩) n n).ownBlock=some q) (Nat.le_refl _) (fun q hq=> .inr (.inr (by injection hq with hq;have hq:W.heap.size=q:=hq;omega)))).keep (AJ hb none) (fun q e=>by cases e)
 have hgs:=Bc (Bo (W.alloc (.cells cs 83)) (some b)) 8 (.slice (some ⟨W.heap.size,0,none⟩) n n);refine⟨heap_setCell_same ((heap_alloc_old W _ hlt).trans h.hh) _,hlo,by simp;omega, ?_,hF.keep hgs (fun q e=>by injection e with e;exact .inl (by omega))⟩;have own:(W.alloc (.cells cs 83)).ownsRow lo 83 1 (.slice (some ⟨W.heap.size,0,none⟩) n n) l.length (l.map ptrV):=by
  rw[hn];exact Vt hsz hcs (by simpa using hn) hm
 exact own.kept hgs (.inr (fun e=>by injection e with e;have e:W.heap.size=b:=e;omega))
end
section
variable {w W W':World} {pb fb:Nat} {nd:Hg.Node} {md tt:List UInt8} {l:List GT}
theorem BO.lit{n:Nat}{cs:Array Value}{W4:World}(h:BO w pb fb nd md tt W (.slice none 0 0) [])(F:Ao (fun _=>False) (fb+2) W l)(ha:W.alloc (.cells cs 83)=W4)(hcs:cs.toList=l.map ptrV)(hn:l.length=n)(hm:n≤maxLen):
 BO w pb fb nd md tt (W4.setCell ⟨fb,8,none⟩ (.slice (some ⟨W.heap.size,0,none⟩) n n)) (.slice (some ⟨W.heap.size,0,none⟩) n n) l:=by
 have h1:=h.lt;have h2:=h.gf;have hz:=h.kd.sz;have hk:=h.kd.lit F ha hcs hn hm;subst ha;have go:∀i o,i≠fb→i < fb+2→W.heap[i]? =some o→((W.alloc (.cells cs 83)).setCell ⟨fb,8,none⟩ (.slice (some ⟨W.heap.size,0,none⟩) n n)).heap[i]? =some o:=fun i o hi hl ho=>
  (Below.heap_setCell _ ⟨fb,8,none⟩ _ i (by show¬i=fb;omega)).trans ((heap_alloc_old W _ (by omega)).trans ho)
 have hg:w.grownBy (W.alloc (.cells cs 83)) (some pb):=BP h.gr (World.grownBy_alloc W _ _);exact⟨CG hg (p:=⟨fb,8,none⟩) (by show w.heap.size≤fb;omega) _,h1,h2,go _ _ (by omega) (by omega) h.box,go _ _ (by omega) (by omega) h.fp,hk⟩
end
def gsL:List UInt8:=[43,32,45,32,42,32,47,32,37,32,60,32,60,61,32,62,32,62,61,32,61,61,32,33,61,32,38,38,32,124,124]
theorem Uo:Go.Lib.fields gsL=Hg.FM:=by decide+kernel
theorem Ya:gsL.all (fun b=>decide (b.toNat < 128))=true:=by decide+kernel
theorem Q8(s:List UInt8):idxS Hg.FM s+1=((Hg.Ez s:Nat):Int)∧Hg.Ez s≤13:=by
 unfold idxS Hg.Ez;cases h:Hg.FM.findIdx? (·==s) with
 |none=>exact⟨rfl,by decide⟩
 |some k=>
   have:=(List.findIdx?_eq_some_iff_findIdx_eq.1 h).1;have h13:Hg.FM.length=13:=rfl;exact⟨by simp,by dsimp only;omega⟩
theorem YM(s:List UInt8)(w:World)(hT:Bl w):
 Calls Tryz.prog 146 #[strV s] w fun e w'=>e= .returned (.int .i64 (Hg.Ez s:Int))∧Below w.heap.size w w':=by
 obtain⟨hq,hb13⟩:=Q8 s;have TF:=zz (PD gsL Hg.FM Uo Ya (by decide) w hT);have TI:=zz (fun W a (hs:Sl W W.heap.size (.slice (some a) 13 13) 13 (Hg.FM.map strV))=>Md _ _ Hg.FM s W hs (by decide));generalize idxS Hg.FM s=q at TI hq;generalize Hg.Ez s=n at hq hb13⊢;have hw1:IntKind.i64.wrap (q+1)=(n:Int):=by rw[hq];exact IntWalk.i64_in _ (by omega)
 clear hT hq;go_enter Tryz.func146,Tryz.ntmps146;go_wp2_with fail;refine TF.out.mono ?_;rintro e w1 ⟨a,rfl,hs,hb⟩;have TI1:=zz (TI.out _ _ hs);clear TI TF hs;go_wp2_with fail;refine TI1.out.mono ?_;rintro e w' ⟨rfl,rfl⟩;go_wp2;go_ret;exact⟨rfl,hb⟩
theorem PaAt.fine{w:World}{pb k d:Nat}{L:List Hg.Tok}(h:PaAt w pb L k d):PaAt (w.setCell ⟨pb,3,none⟩ (.bool false)) pb L k d:=by
 obtain⟨⟨ht,hp⟩,a,c,h,hs⟩:=h;exact⟨⟨ht.block (Below.heap_setCell w ⟨pb,3,none⟩ _ _ (by show¬0=pb;omega)),hp⟩,a,c,heap_setCell_same h _,hs.setCell (Nat.le_refl _) _⟩
section
variable {w W:World} {pb fb k d lo:Nat} {nd:Hg.Node} {md tt:List UInt8} {v:Value} {G l:List GT} {L:List Hg.Tok} {X:Nat→Prop}
theorem BO.drew(h:BO w pb fb nd md tt W v G):BO w pb fb nd md tt W.drew v G:=h.keep (AJ ((Below.refl _ _).drew) (some pb))
theorem PaAt.drew(h:PaAt W pb L k d):PaAt W.drew pb L k d:=h.keep ((Below.refl _ _).drew)
theorem Ao.below{W':World}(h:Ao X lo W l)(hb:Below W.heap.size W W'):Ao X lo W' l:=h.keep (row:=none) (AJ hb none) (fun q e=>by cases e)
theorem Ao.drew(h:Ao X lo W l):Ao X lo W.drew l:=h.below ((Below.refl _ _).drew)
theorem Ao.field{b:Nat}(h:Ao X lo W l)(hb:b < lo)(i:Nat)(u:Value):Ao X lo (W.setCell ⟨b,i,none⟩ u) l:=h.keep (row:=some b) (Bc (Bo _ _) i u) (fun q e=>by injection e with e;exact .inl (by omega))
theorem PaAt.field{b:Nat}(h:PaAt W pb L k d)(hb:pb < b)(i:Nat)(u:Value):PaAt (W.setCell ⟨b,i,none⟩ u) pb L k d:=h.keep ((Below.refl _ _).setCell (p:=⟨b,i,none⟩) (show pb+1≤b by omega) _)
theorem BO.pfield(h:BO w pb fb nd md tt W v G)(i:Nat)(u:Value):BO w pb fb nd md tt (W.setCell ⟨pb,i,none⟩ u) v G:=h.keep (Bc (Bo _ _) i u)
end
theorem Q3(a0 a1 a2:Value)(w:World):(Instr.field 122 (.agg #[a0,a1,a2]) 1).run Tryz.prog w= .ok a1 w:=by kernel_rfl
attribute [simp, go_sem] Q3
def Hw(n:Nat):Hg.Node:=⟨18,[],(n:Int),0,0,[]⟩
theorem U8(pb fb d k k1 k2 sn:Nat)(L:List Hg.Tok)(hL:L.length≤1000000)(a b:GT)(w W:World)(item:Nat→Option (GT×Nat))(hT:BO w pb fb (Hg.ndK 18) [] [] W (.slice none 0 0) [])(hP:PaAt W pb L k d)(hi:Te L pb d item)
 (h1:item k=some (a,k1)) (hk1:k1 < L.length) (hsn:Hg.Ez (tkAt L k1).text=sn) (hs0:¬sn=0) (h2:item (k1+1)=some (b,k2)) (h3:tkB L k2 [41]=true):
 Calls Tryz.prog 145 #[.pointer (some ⟨w.heap.size,0,none⟩),.pointer (some ⟨fb+1,0,none⟩)] W fun e W'=>e= .returned (.tuple #[])∧PaAt W' pb L (k2+1) d∧∃v G,GT.eraL G=[a,b]∧BO w pb fb (Hw sn) [] [] W' v G:=by
 have hgf:=hT.gf;have hlw:=hT.lt;have FZ:=hT.kd.sz;have TE1:=zz (hi.1 W k a k1 hP h1);have TN:=zz (fun X (hp:PaAt X pb L k1 d)=>I6 pb k1 d L X hp hk1 hL);have TO:=zz (fun X (hp:PaAt X pb L k1 d)=>YM (tkAt L k1).text X hp.tab);rw[hsn] at TO;generalize tkAt L k1=t at TN TO hsn;have TE2:=zz (fun X (hp:PaAt X pb L (k1+1) d)=>hi.1 X (k1+1) b k2 hp h2);have TW:=zz (fun X (hp:PaAt X pb L k2 d)=>LB pb d L hL k2 [41] X X.heap.size rfl hp h3);have hw1:IntKind.i64.wrap ((k1:Int)+1)=(k1:Int)+1:=IntWalk.i64_in _ (by omega);have hsq:((sn:Int)==0)=false:=by simpa using(show¬(sn:Int)=0 by omega)
 have HT:=zz hT;obtain⟨c0,c1,-,-⟩:=hT.cells;generalize hDz:w.heap.size=b0 at c0 hgf hlw⊢;have HD:=zz hDz;clear hT hP hi h1 hk1 hsn hs0 h2 h3 hDz;go_enter Tryz.func145,Tryz.ntmps145;go_wp2_with fail;refine TE1.out.mono ?_;rintro e w1 ⟨ta,rfl,hera,hF1,hp1,hg1⟩;have HERA:=zz hera;have HT1:=zz (HT.out.keep hg1).drew;have HP1:=zz hp1.drew;have HF1:=zz (hF1.down FZ).drew;clear hera hF1 hp1 hg1 TE1 HT c0 c1;obtain⟨c0,c1,-,-⟩:=HT1.out.cells;rw[HD.out] at c0;go_upto_region 1 with fail;have hHeld:(fun w'=>w'.cell? ⟨fb+1,0,none⟩=some (.pointer (some ⟨fb,0,none⟩))∧w'.cell? ⟨b0,0,none⟩=some (.pointer (some ⟨pb,0,none⟩))) w1.drew:=⟨c1,c0⟩;clear c0 c1;refine AR (fun w'=>w'.cell? ⟨fb+1,0,none⟩=some (.pointer (some ⟨fb,0,none⟩))∧w'.cell? ⟨b0,0,none⟩=some (.pointer (some ⟨pb,0,none⟩))) 8 (by kernel_rfl) ?_;refine tz 0 _ _ _ ?_;refine tz 1 _ _ _ ?_;refine AB (i:=2) rfl (by kernel_rfl) (fun K hK=> ?_);go_simp;refine(TN.out w1.drew HP1.out).mono ?_;rintro e w2 ⟨rfl,hb2⟩;have HT2:=zz (HT1.out.keep (AJ hb2 (some pb)));have HP2:=zz (HP1.out.keep (hb2.mono HP1.out.lt));have HF2:=zz (HF1.out.below hb2);have hc2:=HT2.out.cells;rw[HD.out] at hc2;clear hb2 TN HT1 HP1 HF1;refine hK.out _ _ (⟨hc2.2.1,hc2.1⟩) (fun hHeld=> ?_);clear hK K
 try simp only[Act.put,sA,sB,sC,sD,sE,sF]
 refine tz 3 _ _ _ ?_;refine AB (i:=4) rfl (by kernel_rfl) (fun K hK=> ?_);go_simp;refine(TO.out w2 HP2.out).mono ?_;rintro e w3 ⟨rfl,hb3⟩;have HT3:=zz (HT2.out.keep (AJ hb3 (some pb)));have HP3:=zz (HP2.out.keep (hb3.mono HP2.out.lt));have HF3:=zz (HF2.out.below hb3);have hc3:=HT3.out.cells;rw[HD.out] at hc3;clear hb3 TO HT2 HP2 HF2 hc2;refine hK.out _ _ (⟨hc3.2.1,hc3.1⟩) (fun hHeld=> ?_);clear hK K
 try simp only[Act.put,sA,sB,sC,sD,sE,sF]
 refine tz 5 _ _ _ ?_;refine tz 6 _ _ _ ?_;refine tz 7 _ _ _ ?_;refine AL (by kernel_rfl) ?_;simp only[List.drop_succ_cons,List.drop_zero];have hf3:=HT3.out.cells.2.2.2;have z2:=cell_of_row w3 fb 2 _ _ (0,0) HT3.out.kd.hh;simp at z2;have HT4:=zz (show BO w pb fb (Hw sn) [] [] (w3.setCell ⟨fb,2,none⟩ (.int .i64 (sn:Int))) (.slice none 0 0) [] from HT3.out.set rfl);have HP4:=zz (show PaAt (w3.setCell ⟨fb,2,none⟩ (.int .i64 (sn:Int))) pb L k1 d from HP3.out.field (by omega) 2 _);have HF4:=zz (show D6 (fb+2) (w3.setCell ⟨fb,2,none⟩ (.int .i64 (sn:Int))) [ta] from HF3.out.field (by omega) 2 _);clear hc3 HT3 HP3 HF3;go_upto_region 2 with fail;clear z2 hf3 hHeld;generalize World.setCell w3 _ _=w4 at HT4 HP4 HF4⊢;obtain⟨c0,c1,-,-⟩:=HT4.out.cells;rw[HD.out] at c0;obtain⟨pa,pc,p0,p1,p2,p3,f0,hsl⟩:=HP4.out.read;clear hsl;have hpl:=HP4.out.lt;have HT5:=zz (show BO w pb fb (Hw sn) [] [] (w4.setCell ⟨pb,1,none⟩ (.int .i64 ((k1+1:Nat):Int))) (.slice none 0 0) [] from HT4.out.pfield 1 _);have HP5:=zz (show PaAt (w4.setCell ⟨pb,1,none⟩ (.int .i64 ((k1+1:Nat):Int))) pb L (k1+1) d from HP4.out.set);have HF5:=zz (show D6 (fb+2) (w4.setCell ⟨pb,1,none⟩ (.int .i64 ((k1+1:Nat):Int))) [ta] from HF4.out.field (by omega) 1 _);clear HT4 HP4 HF4
 push_cast at HT5 HP5 HF5
 go_upto_region 3 with fail;clear c0 c1 p0 p1 p2 p3 f0 hpl;generalize World.setCell w4 _ _=w5 at HT5 HP5 HF5⊢;obtain⟨c0,c1,-,-⟩:=HT5.out.cells;rw[HD.out] at c0;obtain⟨pa,pc,p0,p1,p2,p3,f0,hsl⟩:=HP5.out.read;clear hsl;have z2:=cell_of_row w5 fb 2 _ _ (0,0) HT5.out.kd.hh
 simp[Hw] at z2
 have hpl:=HP5.out.lt;have hHeld:(fun w'=>w'.cell? ⟨fb+1,0,none⟩=some (.pointer (some ⟨fb,0,none⟩))∧w'.cell? ⟨b0,0,none⟩=some (.pointer (some ⟨pb,0,none⟩))∧w'.cell? ⟨pb,3,none⟩=some (.bool false)∧w'.cell? ⟨fb,2,none⟩=some (.int .i64 (sn:Int))) w5.drew:=⟨c1,c0,p3,z2⟩;refine AR (fun w'=>w'.cell? ⟨fb+1,0,none⟩=some (.pointer (some ⟨fb,0,none⟩))∧w'.cell? ⟨b0,0,none⟩=some (.pointer (some ⟨pb,0,none⟩))∧w'.cell? ⟨pb,3,none⟩=some (.bool false)∧w'.cell? ⟨fb,2,none⟩=some (.int .i64 (sn:Int))) 15 (by kernel_rfl) ?_;refine tz 0 _ _ _ ?_;refine tz 1 _ _ _ ?_;refine tz 2 _ _ _ ?_;refine tz 3 _ _ _ ?_;refine tz 4 _ _ _ ?_;refine tz 5 _ _ _ ?_;refine tz 6 _ _ _ ?_;refine tz 7 _ _ _ ?_;refine tz 8 _ _ _ ?_;refine tz 9 _ _ _ ?_;refine tz 10 _ _ _ ?_;refine tz 11 _ _ _ ?_;refine tz 12 _ _ _ ?_;refine tz 13 _ _ _ ?_;refine tz 14 _ _ _ ?_;refine AL (by kernel_rfl) ?_;simp only[List.drop_succ_cons,List.drop_zero];have HT6:=zz (show BO w pb fb (Hw sn) [] [] (w5.setCell ⟨pb,3,none⟩ (.bool false)) (.slice none 0 0) [] from HT5.out.pfield 3 _);have HP6:=zz (show PaAt (w5.setCell ⟨pb,3,none⟩ (.bool false)) pb L (k1+1) d from HP5.out.fine);have HF6:=zz (show D6 (fb+2) (w5.setCell ⟨pb,3,none⟩ (.bool false)) [ta] from HF5.out.field (by omega) 3 _);clear HT5 HP5 HF5;go_upto_region 4 with fail;clear c0 c1 p0 p1 p2 p3 f0 hpl hHeld z2;generalize World.setCell w5 _ _=w6 at HT6 HP6 HF6⊢;have HT6:=zz HT6.out.drew.drew;have HP6:=zz HP6.out.drew.drew;have HF6:=zz HF6.out.drew.drew;obtain⟨c0,c1,-,-⟩:=HT6.out.cells;rw[HD.out] at c0;have hHeld:(fun w'=>w'.cell? ⟨fb+1,0,none⟩=some (.pointer (some ⟨fb,0,none⟩))∧w'.cell? ⟨b0,0,none⟩=some (.pointer (some ⟨pb,0,none⟩))) w6.drew.drew:=⟨c1,c0⟩;clear c0 c1;refine AR (fun w'=>w'.cell? ⟨fb+1,0,none⟩=some (.pointer (some ⟨fb,0,none⟩))∧w'.cell? ⟨b0,0,none⟩=some (.pointer (some ⟨pb,0,none⟩))) 7 (by kernel_rfl) ?_;refine tz 0 _ _ _ ?_;refine tz 1 _ _ _ ?_;refine tz 2 _ _ _ ?_;refine AB (i:=3) rfl (by kernel_rfl) (fun K hK=> ?_);go_simp;refine(TE2.out w6.drew.drew HP6.out).mono ?_;rintro e w7 ⟨tb,rfl,herb,hF7,hp7,hg7⟩;have HERB:=zz herb;have HF7:=zz (HF6.out.add hg7 (by omega) HT6.out.kd.sz hF7);have HT7:=zz (HT6.out.keep hg7);have HP7:=zz hp7;have hc7:=HT7.out.cells;rw[HD.out] at hc7;clear herb hF7 hp7 hg7 TE2 HT6 HP6 HF6;refine hK.out _ _ (⟨hc7.2.1,hc7.1⟩) (fun hHeld=> ?_);clear hK K
 try simp only[Act.put,sA,sB,sC,sD,sE,sF]
 refine AB (i:=4) rfl (by kernel_rfl) (fun K hK=> ?_);go_simp;generalize hWa:World.alloc _ _=Wa;have HT8:=zz (BO.lit (n:=2) HT7.out (l:=[ta,tb]) HF7.out hWa rfl rfl (by decide));obtain⟨hBa,hha,hza⟩:=C8 hWa;have HTa:=zz (HT7.out.keep (AJ hBa (some pb)));have HPa:=zz (HP7.out.keep (hBa.mono HP7.out.lt));have hca:=HTa.out.cells;rw[HD.out] at hca;clear hha hza hWa hBa hc7;refine hK.out _ _ (⟨hca.2.1,hca.1⟩) (fun hHeld=> ?_);clear hK K
 try simp only[Act.put,sA,sB,sC,sD,sE,sF]
 refine tz 5 _ _ _ ?_;refine tz 6 _ _ _ ?_;refine AL (by kernel_rfl) ?_;simp only[List.drop_succ_cons,List.drop_zero];have hfa:=HTa.out.cells.2.2.2;have z8:=HTa.out.cells.2.2.1;have HP8:=zz (show PaAt (Wa.setCell ⟨fb,8,none⟩ (.slice (some ⟨w7.heap.size,0,none⟩) 2 2)) pb L k2 d from HPa.out.field (by omega) 8 _);clear hca HTa HPa;go_upto_region 5 with fail;clear z8 hfa hHeld;generalize World.setCell Wa _ _=w8 at HT8 HP8⊢;obtain⟨c0,c1,-,-⟩:=HT8.out.cells;rw[HD.out] at c0;go_wp2_with fail;refine(TW.out _ HP8.out).mono ?_;rintro e w9 ⟨rfl,hp9,hg9⟩;have HE:=zz (And.intro hp9 (HT8.out.keep hg9));clear hp9 hg9 TW HT8 HP8;go_wp2;go_end0;exact⟨rfl,HE.out.1,_,[ta,tb],by show[GT.era ta,GT.era tb]=_;rw[HERA.out,HERB.out],HE.out.2⟩
theorem Wp(pb k d n:Nat)(L:List Hg.Tok)(w:World)(hP:PaAt w pb L k d)(hk:k < L.length)(hL:L.length≤1000000)(h2:(tkAt L k).kind=2)(hn:n < 10)(ht:(tkAt L k).text=[UInt8.ofNat (48+n)]):
 Calls Tryz.prog 109 #[.pointer (some ⟨pb,0,none⟩)] w (JQ w pb L (k+1) d (Hg.gmk 13 n [] [])):=by
 have hw1:IntKind.i64.wrap ((k:Int)+1)=(k:Int)+1:=IntWalk.i64_in _ (by omega);have TV:=zz (fun W=>Tk (tkAt L k) n hn ht h2 W);have hq2:(((tkAt L k).kind:Int)==2)=true:=by simp[h2]
 clear h2 ht;have hlt:=hP.lt;have TN:=fun X (hp:PaAt X pb L k d)=>I6 pb k d L X hp hk hL;obtain⟨g0,g1,g2,hbA,hzA⟩:=SF w (.cells #[.pointer (some ⟨pb,0,none⟩)] 80) (.cells (Cq (Hg.ndK 0) [] [] (.slice none 0 0) (.slice none 0 0) 0) 126) (.cells #[.pointer (some ⟨w.heap.size+1,0,none⟩)] 83);have HT:=zz (show BO w pb (w.heap.size+1) (Hg.ndK 0) [] [] _ (.slice none 0 0) [] from⟨AJ hbA (some pb),hlt,by omega,g0,g2,CE.new g1 (by omega) (by omega)⟩);have HP:=zz (hP.keep (hbA.mono hlt));have TN:=zz (TN _ HP.out);generalize tkAt L k=t at*;clear hbA hzA g0 g1 g2 hP;go_enter Tryz.func109,Tryz.ntmps109;go_wp2_with fail;refine TN.out.mono ?_;clear TN;generalize World.alloc (World.alloc (World.alloc w _) _) _=W3 at HT HP⊢;rintro e w1 ⟨rfl,hb1⟩;have HT1:=zz (HT.out.keep (AJ hb1 (some pb)));have HP1:=zz (HP.out.keep (hb1.mono HP.out.lt));clear hb1 HT HP;have hbt:Below w1.heap.size w1 (w1.alloc (.cells #[.int .u8 (t.kind:Int),strV t.text,.int .i64 (t.pos:Int)] 122)):=(Below.refl _ _).alloc (Nat.le_refl _) _;have HT2:=zz (HT1.out.keep (AJ hbt (some pb)));have HP2:=zz (HP1.out.keep (hbt.mono HP1.out.lt));have htk:=heap_alloc_new w1 (.cells #[.int .u8 (t.kind:Int),strV t.text,.int .i64 (t.pos:Int)] 122);have hbl:w.heap.size+1+1 < w1.heap.size:=by have:=HT1.out.kd.sz;omega
 clear hbt HT1 HP1;go_upto_region 4 with fail;generalize w1.heap.size=tb at htk hbl⊢;generalize World.alloc w1 _=w2 at HT2 HP2 htk⊢;have k0:=cell_of_row w2 tb 0 _ _ (0,0) htk;simp at k0;obtain⟨c0,c1,-,-⟩:=HT2.out.cells;generalize hDz:w.heap.size=b0 at c0 c1 hbl⊢;have HD:=zz hDz;clear hDz;have k1:=cell_of_row w2 tb 1 _ _ (0,0) htk;have k2:=cell_of_row w2 tb 2 _ _ (0,0) htk;simp at k1 k2;obtain⟨pa,pc,p0,p1,p2,p3,f0,hsl⟩:=HP2.out.read;have hpl:=HP2.out.lt;have htp:¬tb=pb:=by have:=HD.out;omega
 have HT3:=zz (show BO w pb (w.heap.size+1) (Hg.ndK 0) [] [] (w2.setCell ⟨pb,1,none⟩ (.int .i64 ((k+1:Nat):Int))) (.slice none 0 0) [] from HT2.out.pfield 1 _);have HP3:=zz (show PaAt (w2.setCell ⟨pb,1,none⟩ (.int .i64 ((k+1:Nat):Int))) pb L (k+1) d from HP2.out.set);have x0:=(EG (w:=w2) (p:=⟨pb,1,none⟩) (q:=⟨tb,0,none⟩) (fun e=>htp e.symm) (.int .i64 ((k+1:Nat):Int))).trans k0;have x1:=(EG (w:=w2) (p:=⟨pb,1,none⟩) (q:=⟨tb,1,none⟩) (fun e=>htp e.symm) (.int .i64 ((k+1:Nat):Int))).trans k1;have x2:=(EG (w:=w2) (p:=⟨pb,1,none⟩) (q:=⟨tb,2,none⟩) (fun e=>htp e.symm) (.int .i64 ((k+1:Nat):Int))).trans k2;clear hsl HT2 HP2 htk
 push_cast at HT3 HP3 x0 x1 x2
 go_upto_region 6 with fail;clear k0 k1 k2 p0 p1 p2 p3 f0 hpl c0 c1;generalize World.setCell w2 _ _=w3 at HT3 HP3 x0 x1 x2⊢;have HT3:=zz HT3.out.drew;have HP3:=zz HP3.out.drew;obtain⟨c0,c1,-,-⟩:=HT3.out.cells;rw[HD.out] at c0 c1;have hHeld:(fun w'=>w'.cell? ⟨b0+1+1,0,none⟩=some (.pointer (some ⟨b0+1,0,none⟩))∧w'.cell? ⟨tb,0,none⟩=some (.int .u8 (t.kind:Int))∧w'.cell? ⟨tb,1,none⟩=some (strV t.text)∧w'.cell? ⟨tb,2,none⟩=some (.int .i64 (t.pos:Int))) w3.drew:=⟨c1,x0,x1,x2⟩;have hnt:¬b0+1=tb:=by omega
 refine AR (fun w'=>w'.cell? ⟨b0+1+1,0,none⟩=some (.pointer (some ⟨b0+1,0,none⟩))∧w'.cell? ⟨tb,0,none⟩=some (.int .u8 (t.kind:Int))∧w'.cell? ⟨tb,1,none⟩=some (strV t.text)∧w'.cell? ⟨tb,2,none⟩=some (.int .i64 (t.pos:Int))) 11 (by kernel_rfl) ?_;refine tz 0 _ _ _ ?_;refine tz 1 _ _ _ ?_;refine tz 2 _ _ _ ?_;refine AB (i:=3) rfl (by kernel_rfl) (fun K hK=> ?_);go_simp;refine(TV.out w3.drew).mono ?_;rintro e w4 ⟨rfl,hb4⟩;have HT4:=zz (HT3.out.keep (AJ hb4 (some pb)));have HP4:=zz (HP3.out.keep (hb4.mono HP3.out.lt));have hc4:=HT4.out.cells;rw[HD.out] at hc4;have z0:=cell_of_row w4 (b0+1) 0 _ _ (0,0) (by have:=HT4.out.kd.hh;rw[HD.out] at this;exact this);simp at z0;have zf:=hc4.2.2.2;clear HT3 HP3 c0 c1;refine hK.out _ _ (⟨hc4.2.1,AC hb4 (Nat.le_refl _) hHeld.2.1,AC hb4 (Nat.le_refl _) hHeld.2.2.1,AC hb4 (Nat.le_refl _) hHeld.2.2.2⟩) (fun hHeld=> ?_);clear hK K
 try simp only[Act.put,sA,sB,sC,sD,sE,sF]
 refine tz 4 _ _ _ ?_;refine tz 5 _ _ _ ?_;refine tz 6 _ _ _ ?_;refine AB (i:=7) rfl (by kernel_rfl) (fun K hK=> ?_);go_simp;have HT5:=zz (show BO w pb (w.heap.size+1) (Hg.ndK 13) [] [] (w4.setCell ⟨b0+1,0,none⟩ (.int .u8 13)) (.slice none 0 0) [] from by rw[←HD.out];exact HT4.out.set rfl);have HP5:=zz (show PaAt (w4.setCell ⟨b0+1,0,none⟩ (.int .u8 13)) pb L (k+1) d from HP4.out.field (by have:=HD.out;omega) 0 _);have y:=(And.intro ((EG (w:=w4) (p:=⟨b0+1,0,none⟩) (q:=⟨tb,0,none⟩) hnt (.int .u8 13)).trans hHeld.2.1) (And.intro ((EG (w:=w4) (p:=⟨b0+1,0,none⟩) (q:=⟨tb,1,none⟩) hnt (.int .u8 13)).trans hHeld.2.2.1) ((EG (w:=w4) (p:=⟨b0+1,0,none⟩) (q:=⟨tb,2,none⟩) hnt (.int .u8 13)).trans hHeld.2.2.2)));generalize World.setCell w4 _ _=w5 at HT5 HP5 y⊢;have hc5:=HT5.out.cells;rw[HD.out] at hc5;clear HT4 HP4 z0 zf hc4;refine hK.out _ _ (⟨hc5.2.1,y.1,y.2.1,y.2.2⟩) (fun hHeld=> ?_);clear hK K
 try simp only[Act.put,sA,sB,sC,sD,sE,sF]
 refine tz 8 _ _ _ ?_;refine tz 9 _ _ _ ?_;refine tz 10 _ _ _ ?_;refine AL (by kernel_rfl) ?_;simp only[List.drop_succ_cons,List.drop_zero];have z2:=cell_of_row w5 (b0+1) 2 _ _ (0,0) (by have:=HT5.out.kd.hh;rw[HD.out] at this;exact this);simp at z2;have zf:=hc5.2.2.2;have HT6:=zz (show BO w pb (w.heap.size+1) ⟨13,[],(n:Int),0,0,[]⟩ [] [] (w5.setCell ⟨b0+1,2,none⟩ (.int .i64 (n:Int))) (.slice none 0 0) [] from by rw[←HD.out];exact HT5.out.set rfl);have HP6:=zz (show PaAt (w5.setCell ⟨b0+1,2,none⟩ (.int .i64 (n:Int))) pb L (k+1) d from HP5.out.field (by have:=HD.out;omega) 2 _);clear hc5 HT5 HP5 y;go_upto_region 27 with fail;clear z2 zf hHeld;generalize World.setCell w5 _ _=w6 at HT6 HP6⊢;obtain⟨c0,c1,-,-⟩:=HT6.out.cells;rw[HD.out] at c0 c1;go_wp2;go_ret;exact⟨GT.mk (b0+1) ⟨13,[],(n:Int),0,0,[]⟩ [] [] [],rfl,rfl,by rw[←HD.out];exact HT6.out.kd.tree.down (by omega),HP6.out,HT6.out.gr⟩
theorem U0(pb k d:Nat)(L:List Hg.Tok)(w:World)(hP:PaAt w pb L k d)(hk:k < L.length)(hL:L.length≤1000000)(h2:¬(tkAt L k).kind=2)(h1:¬(tkAt L k).kind=1)(ht:tkIs L k Hg.Eo=true):
 Calls Tryz.prog 109 #[.pointer (some ⟨pb,0,none⟩)] w (JQ w pb L (k+1) d (Hg.gmk 14 1 [] [])):=by
 have TT:=zz (fun X (hp:PaAt X pb L k d)=>Ep pb k d L Hg.Eo X hp hk hL ht);have hq1:(((tkAt L k).kind:Int)==2)=false:=by simpa using(show¬((tkAt L k).kind:Int)=2 by omega)
 have hq2:(((tkAt L k).kind:Int)==1)=false:=by simpa using(show¬((tkAt L k).kind:Int)=1 by omega)
 clear h1 h2 ht;have hlt:=hP.lt;have TN:=fun X (hp:PaAt X pb L k d)=>I6 pb k d L X hp hk hL;obtain⟨g0,g1,g2,hbA,hzA⟩:=SF w (.cells #[.pointer (some ⟨pb,0,none⟩)] 80) (.cells (Cq (Hg.ndK 0) [] [] (.slice none 0 0) (.slice none 0 0) 0) 126) (.cells #[.pointer (some ⟨w.heap.size+1,0,none⟩)] 83);have HT:=zz (show BO w pb (w.heap.size+1) (Hg.ndK 0) [] [] _ (.slice none 0 0) [] from⟨AJ hbA (some pb),hlt,by omega,g0,g2,CE.new g1 (by omega) (by omega)⟩);have HP:=zz (hP.keep (hbA.mono hlt));have TN:=zz (TN _ HP.out);generalize tkAt L k=t at*;clear hbA hzA g0 g1 g2 hP;go_enter Tryz.func109,Tryz.ntmps109;go_wp2_with fail;refine TN.out.mono ?_;clear TN;generalize World.alloc (World.alloc (World.alloc w _) _) _=W3 at HT HP⊢;rintro e w1 ⟨rfl,hb1⟩;have HT1:=zz (HT.out.keep (AJ hb1 (some pb)));have HP1:=zz (HP.out.keep (hb1.mono HP.out.lt));clear hb1 HT HP;have hbt:Below w1.heap.size w1 (w1.alloc (.cells #[.int .u8 (t.kind:Int),strV t.text,.int .i64 (t.pos:Int)] 122)):=(Below.refl _ _).alloc (Nat.le_refl _) _;have HT2:=zz (HT1.out.keep (AJ hbt (some pb)));have HP2:=zz (HP1.out.keep (hbt.mono HP1.out.lt));have htk:=heap_alloc_new w1 (.cells #[.int .u8 (t.kind:Int),strV t.text,.int .i64 (t.pos:Int)] 122);have hbl:w.heap.size+1+1 < w1.heap.size:=by have:=HT1.out.kd.sz;omega
 clear hbt HT1 HP1;go_upto_region 4 with fail;generalize w1.heap.size=tb at htk hbl⊢;generalize World.alloc w1 _=w2 at HT2 HP2 htk⊢;have k0:=cell_of_row w2 tb 0 _ _ (0,0) htk;simp at k0;obtain⟨c0,c1,-,-⟩:=HT2.out.cells;generalize hDz:w.heap.size=b0 at c0 c1 hbl⊢;have HD:=zz hDz;clear hDz;go_wp2_with fail;refine(TT.out _ HP2.out).mono ?_;rintro e w4 ⟨rfl,hp,hg⟩;have HT4:=zz (HT2.out.keep hg);have HP4:=zz hp;clear hp hg TT HT2 HP2 c0 c1;obtain⟨c0,c1,-,-⟩:=HT4.out.cells;rw[HD.out] at c0 c1;clear c0 c1;obtain⟨c0,c1,-,-⟩:=HT4.out.cells;rw[HD.out] at c0 c1;have z0:=cell_of_row w4 (b0+1) 0 _ _ (0,0) (by have:=HT4.out.kd.hh;rw[HD.out] at this;exact this);simp at z0;have zf:∀i,w4.frozen? ⟨b0+1,i,none⟩=false:=by have:=HT4.out.cells.2.2.2;rw[HD.out] at this;exact this
 go_upto_region 13 with fail;have hHeld:(fun w'=>w'.cell? ⟨b0+1+1,0,none⟩=some (.pointer (some ⟨b0+1,0,none⟩))) w4.drew:=c1;refine AR (fun w'=>w'.cell? ⟨b0+1+1,0,none⟩=some (.pointer (some ⟨b0+1,0,none⟩))) 9 (by kernel_rfl) ?_;refine tz 0 _ _ _ ?_;refine tz 1 _ _ _ ?_;refine tz 2 _ _ _ ?_;refine tz 3 _ _ _ ?_;refine tz 4 _ _ _ ?_;refine AB (i:=5) rfl (by kernel_rfl) (fun K hK=> ?_);go_simp;have HT5:=zz (show BO w pb (w.heap.size+1) (Hg.ndK 14) [] [] (w4.setCell ⟨b0+1,0,none⟩ (.int .u8 14)) (.slice none 0 0) [] from by rw[←HD.out];exact HT4.out.set rfl);have HP5:=zz (show PaAt (w4.setCell ⟨b0+1,0,none⟩ (.int .u8 14)) pb L (k+1) d from HP4.out.field (by have:=HD.out;omega) 0 _);generalize World.setCell w4 _ _=w5 at HT5 HP5⊢;have hc5:=HT5.out.cells;rw[HD.out] at hc5;clear HT4 HP4 z0 zf c0 c1;refine hK.out _ _ (hc5.2.1) (fun hHeld=> ?_);clear hK K
 try simp only[Act.put,sA,sB,sC,sD,sE,sF]
 refine tz 6 _ _ _ ?_;refine tz 7 _ _ _ ?_;refine tz 8 _ _ _ ?_;refine AL (by kernel_rfl) ?_;simp only[List.drop_succ_cons,List.drop_zero];have z2:=cell_of_row w5 (b0+1) 2 _ _ (0,0) (by have:=HT5.out.kd.hh;rw[HD.out] at this;exact this)
 simp[Hg.ndK] at z2
 have zf:=hc5.2.2.2;have HT6:=zz (show BO w pb (w.heap.size+1) ⟨14,[],1,0,0,[]⟩ [] [] (w5.setCell ⟨b0+1,2,none⟩ (.int .i64 1)) (.slice none 0 0) [] from by rw[←HD.out];exact HT5.out.set rfl);have HP6:=zz (show PaAt (w5.setCell ⟨b0+1,2,none⟩ (.int .i64 1)) pb L (k+1) d from HP5.out.field (by have:=HD.out;omega) 2 _);clear hc5 HT5 HP5;go_upto_region 27 with fail;clear z2 zf hHeld;generalize World.setCell w5 _ _=w6 at HT6 HP6⊢;have HT6:=zz HT6.out.drew;have HP6:=zz HP6.out.drew;obtain⟨c0,c1,-,-⟩:=HT6.out.cells;rw[HD.out] at c0 c1;go_wp2;go_ret;exact⟨GT.mk (b0+1) ⟨14,[],1,0,0,[]⟩ [] [] [],rfl,rfl,by rw[←HD.out];exact HT6.out.kd.tree.down (by omega),HP6.out,HT6.out.gr⟩
theorem Wq(pb k k1 k2 d sn:Nat)(L:List Hg.Tok)(a b:GT)(item:Nat→Option (GT×Nat))(w:World)(hP:PaAt w pb L k d)(hk:k < L.length)(hL:L.length≤1000000)(h2:¬(tkAt L k).kind=2)(h1:¬(tkAt L k).kind=1)
 (n1:tkIs L k Hg.Eo=false) (n2:tkIs L k Hg.EI=false) (n3:tkIs L k Hg.GJ=false) (n4:tkIs L k [33]=false) (n5:tkIs L k [45]=false) (ht:tkIs L k [40]=true) (hd:d < 60) (hi:Te L pb (d+1) item)
 (i1:item (k+1)=some (a,k1)) (hk1:k1 < L.length) (hsn:Hg.Ez (tkAt L k1).text=sn) (hs0:¬sn=0) (i2:item (k1+1)=some (b,k2)) (i3:tkB L k2 [41]=true):
 Calls Tryz.prog 109 #[.pointer (some ⟨pb,0,none⟩)] w (JQ w pb L (k2+1) d (Hg.gmk 18 sn [] [a,b])):=by
 have TA:=zz (fun X (hp:PaAt X pb L k d)=>FK pb k d L Hg.Eo X hp hk hL n1);have TB:=zz (fun X (hp:PaAt X pb L k d)=>FK pb k d L Hg.EI X hp hk hL n2);have TC:=zz (fun X (hp:PaAt X pb L k d)=>FK pb k d L Hg.GJ X hp hk hL n3);have TD:=zz (fun X (hp:PaAt X pb L k d)=>FK pb k d L [33] X hp hk hL n4);have TE:=zz (fun X (hp:PaAt X pb L k d)=>FK pb k d L [45] X hp hk hL n5);have TT:=zz (fun X (hp:PaAt X pb L k d)=>Ep pb k d L [40] X hp hk hL ht);have TW:=zz (fun W (hp:PaAt W pb L (k+1) d) (ht:BO w pb (w.heap.size+1) (Hg.ndK 18) [] [] W (.slice none 0 0) [])=>
  Qy pb (k+1) (k2+1) d 145 #[.pointer (some ⟨w.heap.size,0,none⟩),.pointer (some ⟨w.heap.size+1+1,0,none⟩)] L (fun W=>∃v G,GT.eraL G=[a,b]∧BO w pb (w.heap.size+1) (Hw sn) [] [] W v G) W hp hd
   (fun X hp' hg'=>U8 pb (w.heap.size+1) (d+1) (k+1) k1 k2 sn L hL a b w X item (ht.keep hg') hp' hi i1 hk1 hsn hs0 i2 i3)
   (fun X u ⟨v,G,e,t⟩=>⟨v,G,e,t.keep (Bc (Bo _ _) 2 u)⟩) (fun X=>by kernel_rfl))
 have hq1:(((tkAt L k).kind:Int)==2)=false:=by simpa using(show¬((tkAt L k).kind:Int)=2 by omega)
 have hq2:(((tkAt L k).kind:Int)==1)=false:=by simpa using(show¬((tkAt L k).kind:Int)=1 by omega)
 clear h1 h2 n1 n2 n3 n4 n5 ht hd hi i1 hk1 hsn hs0 i2 i3;have hlt:=hP.lt;have TN:=fun X (hp:PaAt X pb L k d)=>I6 pb k d L X hp hk hL;obtain⟨g0,g1,g2,hbA,hzA⟩:=SF w (.cells #[.pointer (some ⟨pb,0,none⟩)] 80) (.cells (Cq (Hg.ndK 0) [] [] (.slice none 0 0) (.slice none 0 0) 0) 126) (.cells #[.pointer (some ⟨w.heap.size+1,0,none⟩)] 83);have HT:=zz (show BO w pb (w.heap.size+1) (Hg.ndK 0) [] [] _ (.slice none 0 0) [] from⟨AJ hbA (some pb),hlt,by omega,g0,g2,CE.new g1 (by omega) (by omega)⟩);have HP:=zz (hP.keep (hbA.mono hlt));have TN:=zz (TN _ HP.out);generalize tkAt L k=t at*;clear hbA hzA g0 g1 g2 hP;go_enter Tryz.func109,Tryz.ntmps109;go_wp2_with fail;refine TN.out.mono ?_;clear TN;generalize World.alloc (World.alloc (World.alloc w _) _) _=W3 at HT HP⊢;rintro e w1 ⟨rfl,hb1⟩;have HT1:=zz (HT.out.keep (AJ hb1 (some pb)));have HP1:=zz (HP.out.keep (hb1.mono HP.out.lt));clear hb1 HT HP;have hbt:Below w1.heap.size w1 (w1.alloc (.cells #[.int .u8 (t.kind:Int),strV t.text,.int .i64 (t.pos:Int)] 122)):=(Below.refl _ _).alloc (Nat.le_refl _) _;have HT2:=zz (HT1.out.keep (AJ hbt (some pb)));have HP2:=zz (HP1.out.keep (hbt.mono HP1.out.lt));have htk:=heap_alloc_new w1 (.cells #[.int .u8 (t.kind:Int),strV t.text,.int .i64 (t.pos:Int)] 122);have hbl:w.heap.size+1+1 < w1.heap.size:=by have:=HT1.out.kd.sz;omega
 clear hbt HT1 HP1;go_upto_region 4 with fail;generalize w1.heap.size=tb at htk hbl⊢;generalize World.alloc w1 _=w2 at HT2 HP2 htk⊢;have k0:=cell_of_row w2 tb 0 _ _ (0,0) htk;simp at k0;obtain⟨c0,c1,-,-⟩:=HT2.out.cells;generalize hDz:w.heap.size=b0 at c0 c1 hbl⊢;have HD:=zz hDz;clear hDz;go_wp2_with fail;refine(TA.out _ HP2.out).mono ?_;rintro e w3 ⟨rfl,hb⟩;have HT3:=zz (HT2.out.keep (AJ hb (some pb)));have HP3:=zz (HP2.out.keep (hb.mono HP2.out.lt));clear hb TA HT2 HP2 c0 c1;obtain⟨c0,c1,-,-⟩:=HT3.out.cells;rw[HD.out] at c0 c1;go_wp2_with fail;refine(TB.out _ HP3.out).mono ?_;rintro e w4 ⟨rfl,hb⟩;have HT4:=zz (HT3.out.keep (AJ hb (some pb)));have HP4:=zz (HP3.out.keep (hb.mono HP3.out.lt));clear hb TB HT3 HP3 c0 c1;obtain⟨c0,c1,-,-⟩:=HT4.out.cells;rw[HD.out] at c0 c1;go_wp2_with fail;refine(TC.out _ HP4.out).mono ?_;rintro e w5 ⟨rfl,hb⟩;have HT5:=zz (HT4.out.keep (AJ hb (some pb)));have HP5:=zz (HP4.out.keep (hb.mono HP4.out.lt));clear hb TC HT4 HP4 c0 c1;obtain⟨c0,c1,-,-⟩:=HT5.out.cells;rw[HD.out] at c0 c1;go_wp2_with fail;refine(TD.out _ HP5.out).mono ?_;rintro e w6 ⟨rfl,hb⟩;have HT6:=zz (HT5.out.keep (AJ hb (some pb)));have HP6:=zz (HP5.out.keep (hb.mono HP5.out.lt));clear hb TD HT5 HP5 c0 c1;obtain⟨c0,c1,-,-⟩:=HT6.out.cells;rw[HD.out] at c0 c1;go_wp2_with fail;refine(TE.out _ HP6.out).mono ?_;rintro e w7 ⟨rfl,hb⟩;have HT7:=zz (HT6.out.keep (AJ hb (some pb)));have HP7:=zz (HP6.out.keep (hb.mono HP6.out.lt));clear hb TE HT6 HP6 c0 c1;obtain⟨c0,c1,-,-⟩:=HT7.out.cells;rw[HD.out] at c0 c1;go_wp2_with fail;refine(TT.out _ HP7.out).mono ?_;rintro e w8 ⟨rfl,hp,hg⟩;have HT8:=zz (HT7.out.keep hg);have HP8:=zz hp;clear hp hg TT HT7 HP7 c0 c1;obtain⟨c0,c1,-,-⟩:=HT8.out.cells;rw[HD.out] at c0 c1;go_upto_region 25 with fail;have z0:=cell_of_row w8 (b0+1) 0 _ _ (0,0) (by have:=HT8.out.kd.hh;rw[HD.out] at this;exact this);simp at z0;have zf:∀i,w8.frozen? ⟨b0+1,i,none⟩=false:=by have:=HT8.out.cells.2.2.2;rw[HD.out] at this;exact this
 have HT9:=zz (show BO w pb (w.heap.size+1) (Hg.ndK 18) [] [] (w8.setCell ⟨b0+1,0,none⟩ (.int .u8 18)) (.slice none 0 0) [] from by rw[←HD.out];exact HT8.out.set rfl);have HP9:=zz (show PaAt (w8.setCell ⟨b0+1,0,none⟩ (.int .u8 18)) pb L (k+1) d from HP8.out.field (by have:=HD.out;omega) 0 _);clear HT8 HP8;go_upto_region 26 with fail;clear z0 zf c0 c1;generalize World.setCell w8 _ _=w9 at HT9 HP9⊢;obtain⟨c0,c1,-,-⟩:=HT9.out.cells;rw[HD.out] at c0 c1;have TW9:=zz (TW.out _ HP9.out HT9.out);rw[HD.out] at TW9;clear TW;go_wp2_with fail;refine TW9.out.mono ?_;rintro e wa ⟨rfl,hpa,v,G,he,hta⟩;have HTA:=zz hta;have HPA:=zz hpa;have HEA:=zz he;clear hpa hta he TW9 c0 c1;obtain⟨c0,c1,-,-⟩:=HTA.out.cells;rw[HD.out] at c0;go_wp2;go_ret;exact⟨GT.mk (b0+1) (Hw sn) [] [] G,rfl,by rw[Rs,HEA.out];rfl,HTA.out.kd.tree.down (by rw[HD.out];omega),HPA.out,HTA.out.gr⟩
theorem Wu(pb:Nat)(L:List Hg.Tok)(hL:L.length≤1000000):∀f d W k a k1,PaAt W pb L k d→Hg.gE L f d k=some (a,k1)→Calls Tryz.prog 109 #[.pointer (some ⟨pb,0,none⟩)] W (JQ W pb L k1 d a):=by
 intro f
 induction f with
 |zero=>intro d W k a k1 _ h;cases h
 |succ f ih=>
   intro d W k a k1 hP h;have hi:Te L pb (d+1) (Hg.gE L f (d+1)):=Xx L pb f (d+1) (fun W k a k1=>ih (d+1) W k a k1);obtain⟨hk,h⟩:=Hg.Wl h;rcases h with⟨h2,n,hn,rfl,rfl⟩|⟨h2,h1,ht,rfl,rfl⟩|⟨h2,h1,n1,n2,n3,n4,n5,n6,hd,x,j,b,q,i1,hj,hs,i2,i3,rfl,rfl⟩
   ·obtain⟨hn1,hn2⟩:=Hg.Rw hn
    exact Wp pb k d n L W hP hk hL h2 hn1 hn2
   ·exact U0 pb k d L W hP hk hL h2 h1 ht
   ·exact Wq pb k j q d _ L x b (Hg.gE L f (d+1)) W hP hk hL h2 h1 n1 n2 n3 n4 n5 n6 hd hi i1 hj rfl hs i2 i3
end Go.Proofs.YtljmibnfmilfbaaGreatDoor
namespace Hg
theorem Hr{L:List Tok}{stop:Str}{item:Nat→Option (GT×Nat)}{n k k2:Nat}{l:List GT}(h:EC L stop item (n+1) k=some (l,k2)):
 (tkB L k stop=true∧l=[]∧k2=k)∨(tkB L k stop=false∧k < L.length∧∃a k1 m,item k=some (a,k1)∧EC L stop item n k1=some (m,k2)∧l=a::m):=by
 unfold EC at h;by_cases hb:tkB L k stop=true
 ·rw[if_pos hb] at h
  injection h with h;injection h with h1 h2;exact .inl ⟨hb,h1.symm,h2.symm⟩
 rw[if_neg hb] at h;by_cases hk:L.length≤k
 ·rw[if_pos hk] at h;cases h
 rw[if_neg hk] at h;refine .inr ⟨by simpa using hb,by omega, ?_⟩;cases hi:item k with
 |none=>rw[hi] at h;cases h
 |some x=>
   obtain⟨a,k1⟩:=x;rw[hi] at h;dsimp only at h;cases hu:EC L stop item n k1 with
   |none=>rw[hu] at h;cases h
   |some y=>
     obtain⟨m,k3⟩:=y;rw[hu] at h;injection h with h;injection h with h1 h2;exact⟨a,k1,m,rfl,by rw[hu,h2],h1.symm⟩
end Hg
namespace Go.Proofs.YtljmibnfmilfbaaGreatDoor
open Go.RowKit
open Hg (GT tkAt tkIs EJ tkB Db EB)
theorem SK{L:List Hg.Tok}{k:Nat}{s:List UInt8}(h:tkB L k s=false)(hk:k < L.length):tkIs L k s=false:=by simpa[tkB,Hg.tkB,hk] using h
def Yw(L:List Hg.Tok)(pb d:Nat)(item:Nat→Option (GT×Nat)):Prop:=
 (∀W k a k1,PaAt W pb L k d→item k=some (a,k1)→Calls Tryz.prog 108 #[.pointer (some ⟨pb,0,none⟩)] W (JQ W pb L k1 d a))∧∀k a k1,item k=some (a,k1)→k < k1∧k < L.length
structure TrAt (w:World) (pb b:Nat) (nd:Hg.Node) (md tt:List UInt8) (W:World) (v:Value) (G:List GT):Prop where
 gr:w.grownBy W (some pb)
 lt:pb < b
 eq:w.heap.size=b
 kd:CE W b (b+1) nd md tt v G
section
variable {w W W':World} {pb b:Nat} {nd:Hg.Node} {md tt:List UInt8} {v:Value} {G:List GT}
theorem TrAt.new(hlt:pb < w.heap.size):TrAt w pb w.heap.size nd md tt (w.alloc (.cells (Cq nd md tt (.slice none 0 0) (.slice none 0 0) 0) 126)) (.slice none 0 0) []:=
 ⟨World.grownBy_alloc w _ _,hlt,rfl,CE.new (heap_alloc_new w _) (by omega) (by simp)⟩
theorem TrAt.keep(h:TrAt w pb b nd md tt W v G)(hg:W.grownBy W' (some pb)):TrAt w pb b nd md tt W' v G:=⟨BP h.gr hg,h.lt,h.eq,h.kd.keep hg h.lt⟩
theorem TrAt.drew(h:TrAt w pb b nd md tt W v G):TrAt w pb b nd md tt W.drew v G:=h.keep (AJ ((Below.refl _ _).drew) (some pb))
theorem TrAt.cells(h:TrAt w pb b nd md tt W v G):W.cell? ⟨b,8,none⟩=some v∧∀i,W.frozen? ⟨b,i,none⟩=false:=h.kd.cells
theorem TrAt.set(h:TrAt w pb b nd md tt W v G){i:Nat}{u:Value}{nd':Hg.Node}{md' tt':List UInt8}(hc:(Cq nd md tt (.slice none 0 0) v 0).setIfInBounds i u=Cq nd' md' tt' (.slice none 0 0) v 0):TrAt w pb b nd' md' tt' (W.setCell ⟨b,i,none⟩ u) v G:=
 ⟨CG h.gr (p:=⟨b,i,none⟩) (by show w.heap.size≤b;rw[h.eq];exact Nat.le_refl _) _,h.lt,h.eq,h.kd.set hc⟩
theorem TrAt.lit{l:List GT}{n:Nat}{cs:Array Value}{W4:World}(h:TrAt w pb b nd md tt W (.slice none 0 0) [])(F:Ao (fun _=>False) (b+1) W l)(ha:W.alloc (.cells cs 83)=W4)(hcs:cs.toList=l.map ptrV)(hn:l.length=n)(hm:n≤maxLen):
 TrAt w pb b nd md tt (W4.setCell ⟨b,8,none⟩ (.slice (some ⟨W.heap.size,0,none⟩) n n)) (.slice (some ⟨W.heap.size,0,none⟩) n n) l:=by
 refine⟨?_,h.lt,h.eq,h.kd.lit F ha hcs hn hm⟩;subst ha;exact CG (BP h.gr (World.grownBy_alloc W _ _)) (p:=⟨b,8,none⟩) (by show w.heap.size≤b;rw[h.eq];exact Nat.le_refl _) _
theorem PaAt.fresh{L:List Hg.Tok}{k d:Nat}(h:PaAt W pb L k d)(o:Obj):PaAt (W.alloc o) pb L k d:=h.keep ((Below.refl _ _).alloc h.lt o)
theorem TrAt.grow{W1 Wd W3:World}{v':Value}{t:GT}(h:TrAt w pb b nd md tt W v G)(hg:W.grownBy W1 (some pb))(ht:D6 W.heap.size W1 [t])(hb:Below W1.heap.size W1 Wd)
 (own3:W3.ownsRow (b+1) 83 1 v' (G.length+1) (G.map ptrV++[ptrV t])) (g3:Wd.grownBy W3 v.ownBlock) (at3:v'.ownBlock=v.ownBlock∨v'.ownBlock=some Wd.heap.size):
 TrAt w pb b nd md tt (W3.setCell ⟨b,8,none⟩ v') v' (G++[t]):=by
 have h1:=h.lt;have h2:=h.eq;have h3:=(h.keep hg).keep (AJ hb (some pb));have hX:∀q,v.ownBlock=some q→b+1≤q∧q < Wd.heap.size:=h3.kd.own.lt;exact⟨CG (Ho h3.gr g3 (fun q e=>by have:=hX q e;omega)) (p:=⟨b,8,none⟩) (by show w.heap.size≤b;omega) _,h1,h2,h.kd.grow hg h1 ht hb own3 g3 at3⟩
theorem TrAt.pa{Wd W3:World}{L:List Hg.Tok}{k d:Nat}(h:TrAt w pb b nd md tt Wd v G)(hp:PaAt Wd pb L k d)(g3:Wd.grownBy W3 v.ownBlock)(u:Value):PaAt (W3.setCell ⟨b,8,none⟩ u) pb L k d:=by
 have h1:=h.lt;have hX:∀q,v.ownBlock=some q→b+1≤q∧q < Wd.heap.size:=h.kd.own.lt;exact(hp.keep (KO (B:=pb+1) g3 (fun q e=>by have:=hX q e;omega) (by have:=hp.lt;omega))).field h1 8 u
theorem TrAt.res{L:List Hg.Tok}{k d:Nat}{t0:GT}(h:TrAt w pb b nd md tt W v G)(hp:PaAt W pb L k d)(he:GT.mk 0 nd md tt (GT.eraL G)=t0):JQ w pb L k d t0 (.returned (.pointer (some ⟨b,0,none⟩))) W:=
 ⟨GT.mk b nd md tt G,rfl,by rw[Rs,he],h.kd.tree.down (by rw[h.eq];exact Nat.le_refl _),hp,h.gr⟩
theorem TrAt.row(h:TrAt w pb b nd md tt W v G):b < W.heap.size∧W.cell? ⟨b,0,none⟩=some (.int .u8 (nd.kind:Int))∧W.cell? ⟨b,1,none⟩=some (strV nd.name)∧W.cell? ⟨b,3,none⟩=some (.int .u8 (nd.type:Int))∧W.cell? ⟨b,7,none⟩=some (strV tt):=
 ⟨h.kd.lt,cell_of_row W b 0 _ _ (0,0) h.kd.hh,cell_of_row W b 1 _ _ (0,0) h.kd.hh,cell_of_row W b 3 _ _ (0,0) h.kd.hh,cell_of_row W b 7 _ _ (0,0) h.kd.hh⟩
end
end Go.Proofs.YtljmibnfmilfbaaGreatDoor
namespace Hg
theorem QI{L:List Tok}{k:Nat}(h:Fw L k=true):k < L.length:=by simp[Fw] at h;exact h.1
theorem MN{L:List Tok}{k:Nat}(h:Fw L k=true):(tkAt L k).kind=1:=by simp[Fw] at h;exact h.2
end Hg
namespace Go.Proofs.YtljmibnfmilfbaaGreatDoor
open Go.RowKit
theorem Yb{L:List Hg.Tok}:∀f d k a k1,Hg.gS L f d k=some (a,k1)→k < k1∧k < L.length:=fun _ _ _ _ _ h=>by cases h
theorem UF(pb:Nat)(L:List Hg.Tok)(hL:L.length≤1000000)(f d:Nat):Yw L pb d (Hg.gS L f d):=⟨fun W k a k1 _ h=>(by cases h),fun k a k1 h=>(by cases h)⟩
end Go.Proofs.YtljmibnfmilfbaaGreatDoor
namespace Hg
variable {L:List Tok}
theorem Uq{item:Nat→Option (GT×Nat)}:∀n k l k2,II L item n k=some (l,k2)→l.length≤n:=by
 intro n
 induction n with
 |zero=>intro k l k2 h;cases h
 |succ n ih=>
   intro k l k2 h;unfold II at h;cases hit:item k with
   |none=>rw[hit] at h;cases h
   |some x=>
     obtain⟨a,k1⟩:=x;rw[hit] at h;dsimp only at h;by_cases c1:tkB L k1 [41]=true
     ·rw[if_pos c1] at h
      injection h with h;injection h with h1 h2;rw[←h1];simp
     rw[if_neg c1] at h;by_cases c2:tkB L k1 [44]=true
     ·rw[if_pos c2] at h
      cases hm:II L item n (k1+1) with
      |none=>rw[hm] at h;cases h
      |some y=>
        obtain⟨l',k3⟩:=y;rw[hm] at h;injection h with h;injection h with h1 h2;have:=ih _ _ _ hm;rw[←h1];simpa using this
     ·rw[if_neg c2] at h;cases h
theorem Ut{item:Nat→Option (GT×Nat)}{k k2:Nat}{l:List GT}(h:KD L item k=some (l,k2)):l.length≤L.length:=by
 unfold KD at h;by_cases c1:tkB L k [41]=true
 ·rw[if_pos c1] at h
  injection h with h;injection h with h1 h2;rw[←h1];simp
 ·rw[if_neg c1] at h
  exact Uq _ _ _ _ h
theorem Ml{stop:Str}{item:Nat→Option (GT×Nat)}:∀n k l k2,EC L stop item n k=some (l,k2)→tkB L k2 stop=true:=by
 intro n
 induction n with
 |zero=>intro k l k2 h;cases h
 |succ n ih=>
   intro k l k2 h;rcases Hr h with⟨h1,_,h2⟩|⟨_,_,a,k1,m,_,h4,_⟩
   ·rw[h2];exact h1
   ·exact ih _ _ _ h4
theorem QZ{k k1:Nat}{a:GT}(h:gPar L k=some (a,k1)):k < k1∧k < L.length:=by cases h
theorem Wi{f k k':Nat}{a:GT}(h:gF L f k=some (a,k')):tkB L k CX=true∧Fw L (k+1)=true∧tkB L (k+2) [40]=true∧
 ∃ps k1 t ss k2 e k3,KD L (gPar L) (k+3)=some (ps,k1)∧QY L k1=some t∧tkB L (k1+1) [123]=true∧EC L Aw (gS L f 0) L.length (k1+2)=some (ss,k2)∧gE L f 0 (k2+1)=some (e,k3)∧tkB L k3 [59]=true∧tkB L (k3+1) [125]=true∧
   a= .mk 0 ⟨3,(tkAt L (k+1)).text,0,t,0,[]⟩ [] [] (ps++[gmk 5 0 [] (ss++[gmk 10 0 [] [e]])])∧k'=k3+2:=by
 unfold gF at h;by_cases c1:(tkB L k CX && (Fw L (k+1) && tkB L (k+2) [40]))=true
 ·rw[if_pos c1] at h
  simp only[Bool.and_eq_true] at c1;refine⟨c1.1,c1.2.1,c1.2.2, ?_⟩;cases e1:KD L (gPar L) (k+3) with
  |none=>rw[e1] at h;cases h
  |some x=>
    obtain⟨ps,k1⟩:=x;rw[e1] at h;dsimp only at h;cases e2:QY L k1 with
    |none=>rw[e2] at h;cases h
    |some t=>
      rw[e2] at h;dsimp only at h;by_cases c2:tkB L (k1+1) [123]=true
      ·rw[if_pos c2] at h
       cases e3:EC L Aw (gS L f 0) L.length (k1+2) with
       |none=>rw[e3] at h;cases h
       |some x=>
         obtain⟨ss,k2⟩:=x;rw[e3] at h;dsimp only at h;cases e4:gE L f 0 (k2+1) with
         |none=>rw[e4] at h;cases h
         |some x=>
           obtain⟨e,k3⟩:=x;rw[e4] at h;dsimp only at h;by_cases c3:(tkB L k3 [59] && tkB L (k3+1) [125])=true
           ·rw[if_pos c3] at h
            simp only[Bool.and_eq_true] at c3;injection h with h;injection h with h1 h2;exact⟨ps,k1,t,ss,k2,e,k3,rfl,e2,c2,e3,e4,c3.1,c3.2,h1.symm,h2.symm⟩
           ·rw[if_neg c3] at h;cases h
      ·rw[if_neg c2] at h;cases h
 ·rw[if_neg c1] at h;cases h
end Hg
namespace Go.Proofs.YtljmibnfmilfbaaGreatDoor
open Go.RowKit
open Hg (GT tkAt tkIs EJ tkB Db EB)
theorem NP(pb fb d k k1:Nat)(L:List Hg.Tok)(hL:L.length≤1000000)(a:GT)(nd:Hg.Node)(md tt:List UInt8)(w W:World)(v:Value)(G:List GT)(hT:BO w pb fb nd md tt W v G)(hP:PaAt W pb L k d)(hG:G.length≤1000000)(h:Hg.gPar L k=some (a,k1)):
 Calls Tryz.prog 106 #[.pointer (some ⟨w.heap.size,0,none⟩),.pointer (some ⟨fb+1,0,none⟩)] W (XL w pb fb nd md tt L k1 d G a):=by
 cases h
theorem VK(w:World)(o1 o2:Obj):((w.alloc o1).alloc o2).heap[w.heap.size]? =some o1∧((w.alloc o1).alloc o2).heap[w.heap.size+1]? =some o2∧Below w.heap.size w ((w.alloc o1).alloc o2)∧((w.alloc o1).alloc o2).heap.size=w.heap.size+2:=
 ⟨heap_alloc2_old w o1 o2,heap_alloc2_new w o1 o2,((Below.refl _ _).alloc (Nat.le_refl _) _).alloc (by simp) _,by simp⟩
theorem O5(pb f k k':Nat)(L:List Hg.Tok)(hL:L.length≤1000000)(t0:GT)(w:World)(hP:PaAt w pb L k 0)(h:Hg.gF L f k=some (t0,k')):
 Calls Tryz.prog 70 #[.pointer (some ⟨pb,0,none⟩)] w (JQ w pb L k' 0 t0):=by
 obtain⟨c1,n1,c2,ps,k1,t,ss,k2,e,k3,e1,e2,c3,e3,e4,c4,c5,rfl,rfl⟩:=Hg.Wi h;have hlt:=hP.lt;have hend:=Hg.Ml _ _ _ _ e3;have hpl:=Hg.Ut e1;have T1:=zz (LB pb 0 L hL k Hg.CX (w.alloc (.cells #[.pointer (some ⟨pb,0,none⟩)] 80)) (w.heap.size+1) (by simp) (hP.fresh _) c1);have TN:=zz (fun X (hp:PaAt X pb L (k+1) 0)=>QH pb (k+1) 0 L X hp (Hg.QI n1) hL (Hg.MN n1));have TP:=zz (fun X (hp:PaAt X pb L (k+2) 0)=>LB pb 0 L hL (k+2) [40] X X.heap.size rfl hp c2);generalize(tkAt L (k+1)).text=nm at TN⊢;have TL:=zz (fun fb W' (hp:PaAt W' pb L (k+3) 0) (ht:BO w pb fb ⟨3,nm,0,0,0,[]⟩ [] [] W' (.slice none 0 0) [])=>WG pb 0 106 #[.pointer (some ⟨w.heap.size,0,none⟩),.pointer (some ⟨fb+1,0,none⟩)] L hL (Hg.gPar L) (fun l W=>∃v G,GT.eraL G=l∧BO w pb fb ⟨3,nm,0,0,0,[]⟩ [] [] W v G)
  (fun W=>by kernel_rfl) (fun l X Y ⟨v,G,e,t⟩ hg=>⟨v,G,e,t.keep hg⟩)
  (fun l X k0 a k1 hp ⟨v,G,e,t⟩ hl hit=>(NP pb fb 0 k0 k1 L hL a ⟨3,nm,0,0,0,[]⟩ [] [] w X v G t hp (by rw[←M0,e];omega) hit).mono (fun e' X' ⟨he,hp',v',t',ha,ht⟩=>⟨he,hp',v',G++[t'],by rw[Dl,e];show l++[GT.era t']=_;rw[ha],ht⟩))
  (fun k a k1=>Hg.QZ) (k+3) k1 ps W' hp ⟨_,[],rfl,ht⟩ e1)
 have TY:=zz (fun X (hp:PaAt X pb L k1 0)=>Tn pb k1 0 t L X hp hL e2);have TB:=zz (fun X (hp:PaAt X pb L (k1+1) 0)=>LB pb 0 L hL (k1+1) [123] X X.heap.size rfl hp c3);have TI:=zz (fun X k (hp:PaAt X pb L k 0) (hk:k < L.length)=>Ra pb k 0 L Hg.Aw X hp hk hL);have TS0:=zz (UF pb L hL f 0);have TR:=zz (fun X (hp:PaAt X pb L k2 0)=>LB pb 0 L hL k2 Hg.Aw X X.heap.size rfl hp hend);have TE0:=zz (fun X (hp:PaAt X pb L (k2+1) 0)=>Wu pb L hL f 0 X _ _ _ hp e4);have TZ:=zz (fun X (hp:PaAt X pb L k3 0)=>Yk pb 0 L hL k3 [59] [125] X X.heap.size rfl hp c4 c5);have HU:=zz e3;have HEND:=zz hend;obtain⟨j0,hj,hj0,hj1,hj2⟩:=info_parts Lx;clear hP h c1 n1 c2 e1 e2 c3 e3 e4 c4 c5 hend;go_enter Tryz.func70,Tryz.ntmps70;go_wp2_with fail;refine T1.out.mono ?_;rintro e' w2 ⟨rfl,hp2,hg2⟩;have hx2:=KA hg2 (heap_alloc_new w _) (by omega);have hg2:=BP (World.grownBy_alloc w _ (some pb)) hg2;have HP2:=zz hp2;clear T1 hp2;have d0:=cell_of_row w2 w.heap.size 0 _ _ (0,0) hx2;simp at d0;go_wp2_with fail;refine(TN.out _ HP2.out).mono ?_;rintro e' w3 ⟨rfl,hp3,hg3⟩;have hx3:=KA hg3 hx2 (by omega);have hg3:=BP hg2 hg3;clear d0 hx2 hg2 TN HP2;obtain⟨a0,a1,hb4,hz4⟩:=VK w3 (.cells #[.int .u8 3,strV nm,.int .i64 0,.int .u8 0,.int .u64 0,.slice none 0 0,.string ⟨#[]⟩,.string ⟨#[]⟩,.slice none 0 0,.int .u64 0] 126) (.cells #[.pointer (some ⟨w3.heap.size,0,none⟩)] 83);have hlx:w.heap.size < w3.heap.size:=(Array.getElem?_eq_some_iff.1 hx3).1;have HT4:=zz (show BO w pb w3.heap.size ⟨3,nm,0,0,0,[]⟩ [] [] _ (.slice none 0 0) [] from⟨Br hg3 hb4,hlt,hlx,(hb4.block _ hlx).trans hx3,a1,CE.new a0 (by omega) (by omega)⟩);have HP4:=zz (hp3.keep (hb4.mono hp3.lt));clear hx3 hg3 hp3 a0 a1 hb4 hz4;go_upto_region 3 with fail;generalize World.alloc (World.alloc w3 _) _=w4 at HT4 HP4⊢;generalize w3.heap.size=fb at HT4 hlx⊢;generalize hDz:w.heap.size=b0 at hlt hlx TL⊢;have HD:=zz hDz;clear hDz;obtain⟨c0,c1,-,-⟩:=HT4.out.cells;rw[HD.out] at c0;go_wp2_with fail;refine(TP.out _ HP4.out).mono ?_;rintro e' w5 ⟨rfl,hp5,hg5⟩;have HT5:=zz (HT4.out.keep hg5);have HP5:=zz hp5;clear hp5 hg5 TP HT4 HP4 c0 c1;obtain⟨c0,c1,-,-⟩:=HT5.out.cells;rw[HD.out] at c0;go_wp2_with fail;refine(TL.out _ _ HP5.out HT5.out).mono ?_;rintro e' w6 ⟨rfl,hp6,v,G,hps,ht6⟩;have HPS:=zz hps;have HT6:=zz ht6.drew;have HP6:=zz hp6.drew;clear hp6 ht6 hps TL HT5 HP5 c0 c1;obtain⟨c0,c1,-,-⟩:=HT6.out.cells;rw[HD.out] at c0;go_upto_region 5 with fail;have hHeld:(fun w'=>w'.cell? ⟨fb+1,0,none⟩=some (.pointer (some ⟨fb,0,none⟩))∧w'.cell? ⟨b0,0,none⟩=some (.pointer (some ⟨pb,0,none⟩))) w6.drew:=⟨c1,c0⟩;clear c0 c1;refine AR (fun w'=>w'.cell? ⟨fb+1,0,none⟩=some (.pointer (some ⟨fb,0,none⟩))∧w'.cell? ⟨b0,0,none⟩=some (.pointer (some ⟨pb,0,none⟩))) 6 (by kernel_rfl) ?_;refine tz 0 _ _ _ ?_;refine tz 1 _ _ _ ?_;refine AB (i:=2) rfl (by kernel_rfl) (fun K hK=> ?_);go_simp;refine(TY.out w6.drew HP6.out).mono ?_;rintro e' w7 ⟨rfl,hp7,hg7⟩;have HT7:=zz (HT6.out.keep hg7);have HP7:=zz hp7;have hc7:=HT7.out.cells;rw[HD.out] at hc7;clear hp7 hg7 TY HT6 HP6;refine hK.out _ _ (⟨hc7.2.1,hc7.1⟩) (fun hHeld=> ?_);clear hK K
 try simp only[Act.put,sA,sB,sC,sD,sE,sF]
 refine tz 3 _ _ _ ?_;refine tz 4 _ _ _ ?_;refine tz 5 _ _ _ ?_;refine AL (by kernel_rfl) ?_;simp only[List.drop_succ_cons,List.drop_zero];have zf:=HT7.out.cells.2.2.2;have z3:=cell_of_row w7 fb 3 _ _ (0,0) HT7.out.kd.hh;simp at z3;have HT8:=zz (show BO w pb fb ⟨3,nm,0,t,0,[]⟩ [] [] (w7.setCell ⟨fb,3,none⟩ (.int .u8 (t:Int))) v G from HT7.out.set rfl);have HP8:=zz (show PaAt (w7.setCell ⟨fb,3,none⟩ (.int .u8 (t:Int))) pb L (k1+1) 0 from HP7.out.field (by omega) 3 _);clear hc7 HT7 HP7;go_upto_region 6 with fail;clear zf z3 hHeld;generalize World.setCell w7 _ _=w8 at HT8 HP8⊢;obtain⟨c0,c1,-,-⟩:=HT8.out.cells;rw[HD.out] at c0;go_wp2_with fail;refine(TB.out _ HP8.out).mono ?_;rintro e' w9 ⟨rfl,hp9,hg9⟩;have HTF:=zz (HT8.out.keep hg9);have HBX:=zz (show∀W,w9.grownBy W (some pb)→W.cell? ⟨b0,0,none⟩=some (.pointer (some ⟨pb,0,none⟩)) from fun W hg=>by have:=(HTF.out.keep hg).cells.1;rw[HD.out] at this;exact this);have HTB:=zz (show TrAt w9 pb w9.heap.size (Hg.ndK 5) [] [] (w9.alloc (.cells #[.int .u8 5,.string ⟨#[]⟩,.int .i64 0,.int .u8 0,.int .u64 0,.slice none 0 0,.string ⟨#[]⟩,.string ⟨#[]⟩,.slice none 0 0,.int .u64 0] 126)) (.slice none 0 0) [] from TrAt.new hp9.lt);have HPB:=zz (hp9.fresh (.cells #[.int .u8 5,.string ⟨#[]⟩,.int .i64 0,.int .u8 0,.int .u64 0,.slice none 0 0,.string ⟨#[]⟩,.string ⟨#[]⟩,.slice none 0 0,.int .u64 0] 126));clear hp9 hg9 TB HT8 HP8 c0 c1;go_wp2;generalize World.alloc w9 _=w10 at HTB HPB⊢;generalize w9.heap.size=bb at HTB⊢
 go_loopw [] (fun wr=>∃m k v2 G2 l1,G2.length≤k∧PaAt wr pb L k 0∧TrAt w9 pb bb (Hg.ndK 5) [] [] wr v2 G2∧Hg.EC L Hg.Aw (Hg.gS L f 0) m k=some (l1,k2)∧GT.eraL G2++l1=ss) (fun wr=>L.length-paK wr pb)
 case atStart=>exact⟨_,k1+2,_,[],ss,Nat.zero_le _,HPB.out,HTB.out,HU.out,rfl⟩
 case round=>
  obtain⟨m,k,v2,G2,l1,hGk,hp,ht,hu,hll⟩:=hrel;have HLL:=zz hll;clear HU HPB HTB hll;cases m with
  |zero=>cases hu
  |succ m=>
    have hPR:=hp.read;obtain⟨pa,pc,-,-,-,p3,-,-⟩:=hPR;have HK:=zz hp.paK;have c0:=HBX.out wr ht.gr;have HTR:=zz ht;have HPR:=zz hp;rcases Hg.Hr hu with⟨hb,rfl,rfl⟩|⟨hb,hk,a,k4,l2,hit,hu2,rfl⟩
    ·have TI1:=TI.out wr k2 hp (Db hb)
     rw[EB hb] at TI1;have TI1:=zz TI1;have hk2:=Db hb;have HG2:=zz (show G2.length≤1000000 by omega);clear hp ht hu hb TI;go_wp2_with fail;refine TI1.out.mono ?_;rintro e' w11 ⟨rfl,hb11⟩;have HT11:=zz (HTR.out.keep (AJ hb11 (some pb)));have HP11:=zz (HPR.out.keep (hb11.mono HPR.out.lt));clear hb11 TI1 HTR HPR c0 p3;have c0:=HBX.out _ HT11.out.gr;go_wp2_with fail;refine(TR.out _ HP11.out).mono ?_;rintro e' w12 ⟨rfl,hp12,hg12⟩;have HT:=zz (HT11.out.keep hg12).drew;have HP:=zz hp12.drew;have hpw12:pb < w12.drew.heap.size:=hp12.lt;have TE:=TE0;clear hp12 hg12 TR HT11 HP11 c0 TE0;obtain⟨c8,f0⟩:=HT.out.cells;have c0:=HBX.out _ HT.out.gr;have hHeld:(fun w'=>w'.cell? ⟨bb,8,none⟩=some v2∧w'.cell? ⟨b0,0,none⟩=some (.pointer (some ⟨pb,0,none⟩))) w12.drew:=⟨c8,c0⟩;clear c8 c0;go_upto_region 11 with fail;refine AR (fun w'=>w'.cell? ⟨bb,8,none⟩=some v2∧w'.cell? ⟨b0,0,none⟩=some (.pointer (some ⟨pb,0,none⟩))) 13 (by kernel_rfl) ?_;refine tz 0 _ _ _ ?_;refine tz 1 _ _ _ ?_;refine tz 2 _ _ _ ?_;refine tz 3 _ _ _ ?_;refine tz 4 _ _ _ ?_;refine tz 5 _ _ _ ?_;refine tz 6 _ _ _ ?_;refine AB (i:=7) rfl (by kernel_rfl) (fun K hK=> ?_);go_simp;refine(TE.out w12.drew HP.out).mono ?_;rintro e w5 ⟨te,rfl,hera,hF4,hp5,hg5⟩;have HT4:=zz (HT.out.keep hg5);have HP4:=zz hp5;have HG4:=zz hg5;have HF4:=zz hF4;have HER:=zz hera;clear hp5 hg5 hF4 hera TE HP;refine hK.out _ _ (⟨HT4.out.cells.1,HBX.out _ HT4.out.gr⟩) (fun hHeld=> ?_);clear hK K
     try simp only[Act.put,sA,sB,sC,sD,sE,sF]
     refine AB (i:=8) rfl (by kernel_rfl) (fun K hK=> ?_);go_simp;generalize hWs:World.alloc _ _=Ws;obtain⟨hBs,hhs,hzs⟩:=C8 hWs;have HTs:=zz (HT4.out.keep (AJ hBs (some pb)));clear hWs;refine hK.out _ _ (⟨HTs.out.cells.1,HBX.out _ HTs.out.gr⟩) (fun hHeld=> ?_);clear hK K
     try simp only[Act.put,sA,sB,sC,sD,sE,sF]
     refine tz 9 _ _ _ ?_;refine AB (i:=10) rfl (by kernel_rfl) (fun K hK=> ?_);go_simp;generalize hWt:World.alloc _ _=Wt;obtain⟨hBt,hht,hzt⟩:=C8 hWt;have HT5:=zz (HTs.out.keep (AJ hBt (some pb)));rw[hzs] at hht;have hls:w5.heap.size < Ws.heap.size:=by omega
     have hhs2:=(hBt.block w5.heap.size hls).trans hhs;have HG5:=zz (Br (Br HG4.out hBs) hBt);have HP5:=zz ((HP4.out.keep (hBs.mono HP4.out.lt)).keep (hBt.mono (by have:=HP4.out.lt;omega)));have HF5:=zz (show D6 w12.drew.heap.size Wt [GT.mk (w5.heap.size+1) (Hg.ndK 10) [] [] [te]] from Ao.above (W:=w5) (r:=pb) (a:=some ⟨w5.heap.size,0,none⟩) (c:=1) HF4.out (Br (Br (Bo _ _) hBs) hBt) (by have:=HP4.out.lt;exact hpw12) HG4.out.size (by omega) hht (YH hhs2) (fun q e=>by injection e with e;have e:w5.heap.size=q:=e;exact⟨by omega,by omega,by omega,fun h=>h⟩));clear hWt hBs hBt hhs hhs2 hht hzs hzt hls;refine hK.out _ _ (⟨HT5.out.cells.1,HBX.out _ HT5.out.gr⟩) (fun hHeld=> ?_);clear hK K
     try simp only[Act.put,sA,sB,sC,sD,sE,sF]
     refine AB (i:=11) rfl (by kernel_rfl) (fun K hK=> ?_);go_simp;generalize hWa:World.alloc _ _=Wa;obtain⟨hBa,hha,hza⟩:=C8 hWa;have HTa:=zz (HT5.out.keep (AJ hBa (some pb)));have HBa:=zz hBa;clear hza hWa hBa;refine hK.out _ _ (⟨HTa.out.cells.1,HBX.out _ HTa.out.gr⟩) (fun hHeld=> ?_);clear hK K
     try simp only[Act.put,sA,sB,sC,sD,sE,sF]
     refine AB (i:=12) rfl (by kernel_rfl) (fun K hK=> ?_);have hsz:=HTa.out.kd.sz;refine Ac rfl (.tmp 59) (.tmp 66) _ rfl (bb+1) 83 j0 _ 1 8 Tryz.underlying88 hj hj0 hj1 hj2 rfl (by decide) v2 G2.length (G2.map ptrV) rfl HTa.out.kd.own ⟨Wt.heap.size,0,none⟩ 1 1 [ptrV (GT.mk (w5.heap.size+1) (Hg.ndK 10) [] [] [te])] rfl rfl ?_ (by intro u hu;simp only[List.mem_singleton] at hu;subst hu;rfl) ?_ ?_ ?_ ?_
     ·exact Ij hha
     ·have:=HG2.out;unfold maxLen;omega
     ·have:=HG2.out;omega
     ·exact hsz
     intro v3 W3 own3 g3 at3;obtain⟨y3,z3,rfl⟩:=ownsRow_succ own3;have g3':Wa.grownBy W3 v2.ownBlock:=⟨g3.os,g3.tape,g3.output,g3.size,g3.block⟩;have HK6:=zz (HT.out.grow (W1:=Wt) (Wd:=Wa) (t:=(GT.mk (w5.heap.size+1) (Hg.ndK 10) [] [] [te])) HG5.out HF5.out HBa.out own3 g3' at3);have HP6:=zz (HTa.out.pa (HP5.out.keep (HBa.out.mono HP5.out.lt)) g3' (.slice (some ⟨y3,0,none⟩) (G2.length+1) z3));have hX:∀q,v2.ownBlock=some q→bb+1≤q:=fun q e=>(HTa.out.kd.own.lt q e).1;have hk3:∀i,i < bb+1→W3.heap[i]? =Wa.heap[i]? :=fun i hi=>g3.block i (by omega) (fun e=>by have:=hX i e.symm;omega);have y2:=cell_of_row W3 bb 8 _ _ (0,0) ((hk3 _ (by omega)).trans HTa.out.kd.hh);have y1:=HBX.out W3 (Ho HTa.out.gr g3' (fun q e=>by have:=hX q e;have:=HT.out.eq;omega));have HF3:=zz (show∀i,W3.frozen? ⟨bb,i,none⟩=false from fun i=>by simp[World.frozen?,(hk3 _ (by omega)).trans HTa.out.kd.hh]);clear own3 g3 at3 g3' hX hk3 hsz;refine hK.out _ _ (⟨y2,y1⟩) (fun hHeld=> ?_);clear hK K
     try simp only[Act.put,sA,sB,sC,sD,sE,sF]
     refine AL (by kernel_rfl) ?_;simp only[List.drop_succ_cons,List.drop_zero];obtain⟨y2,y1⟩:=hHeld;have f3:=HF3.out;clear f0;go_upto_region 12 with fail;clear y2 y1 f3;generalize World.setCell W3 _ _=w15 at HK6 HP6⊢;have c0:=HBX.out _ HK6.out.gr;go_wp2_with fail;refine(TZ.out _ HP6.out).mono ?_;rintro e' w16 ⟨rfl,hp16,hg16⟩;have HTB:=zz (HK6.out.keep hg16);have HP5:=zz hp16;have HG5:=zz (show w9.grownBy w16 (some pb) from HTB.out.gr);have HT5:=zz (HTF.out.keep HG5.out);have HF5:=zz (show D6 w9.heap.size w16 [GT.mk bb (Hg.ndK 5) [] [] (G2++[GT.mk (w5.heap.size+1) (Hg.ndK 10) [] [] [te]])] from by rw[HTB.out.eq];exact HTB.out.kd.tree);have HG:=zz (show G.length≤1000000 by have:=congrArg List.length HPS.out;rw[M0] at this;omega);have HT:=HTF;clear hp16 hg16 TZ HK6 HP6 c0 HTB;obtain⟨c0,c1,c2,f0⟩:=HT5.out.drew.cells;rw[HD.out] at c0;have hHeld:(fun w'=>w'.cell? ⟨fb+1,0,none⟩=some (.pointer (some ⟨fb,0,none⟩))∧w'.cell? ⟨b0,0,none⟩=some (.pointer (some ⟨pb,0,none⟩))∧w'.cell? ⟨fb,8,none⟩=some v) w16.drew:=⟨c1,c0,c2⟩;clear c0 c1 c2;go_upto_region 13 with fail;refine AR (fun w'=>w'.cell? ⟨fb+1,0,none⟩=some (.pointer (some ⟨fb,0,none⟩))∧w'.cell? ⟨b0,0,none⟩=some (.pointer (some ⟨pb,0,none⟩))∧w'.cell? ⟨fb,8,none⟩=some v) 8 (by kernel_rfl) ?_;refine tz 0 _ _ _ ?_;refine tz 1 _ _ _ ?_;refine tz 2 _ _ _ ?_;refine tz 3 _ _ _ ?_;refine tz 4 _ _ _ ?_;refine tz 5 _ _ _ ?_;refine AB (i:=6) rfl (by kernel_rfl) (fun K hK=> ?_);go_simp;generalize hWa:World.alloc _ _=Wa;obtain⟨hBa,hha,hza⟩:=C8 hWa;have hBa:=hBa.trans ((Below.refl _ _).drew);have HTa:=zz (HT5.out.keep (AJ hBa (some pb)));have hca:=HTa.out.cells;rw[HD.out] at hca;have HBa:=zz hBa;clear hza hWa hBa;refine hK.out _ _ (⟨hca.2.1,hca.1,hca.2.2.1⟩) (fun hHeld=> ?_);clear hK K
     try simp only[Act.put,sA,sB,sC,sD,sE,sF]
     refine AB (i:=7) rfl (by kernel_rfl) (fun K hK=> ?_);have hsz:=HTa.out.kd.sz;refine Ac rfl (.tmp 77) (.tmp 79) _ rfl (fb+2) 83 j0 _ 1 8 Tryz.underlying88 hj hj0 hj1 hj2 rfl (by decide) v G.length (G.map ptrV) rfl HTa.out.kd.own ⟨w16.heap.size,0,none⟩ 1 1 [ptrV (GT.mk bb (Hg.ndK 5) [] [] (G2++[GT.mk (w5.heap.size+1) (Hg.ndK 10) [] [] [te]]))] rfl rfl ?_ (by intro u hu;simp only[List.mem_singleton] at hu;subst hu;rfl) ?_ ?_ ?_ ?_
     ·exact Ij (w:=Wa.drew) hha
     ·have:=HG.out;unfold maxLen;omega
     ·have:=HG.out;omega
     ·exact hsz
     intro v3 W3 own3 g3 at3;obtain⟨y3,z3,rfl⟩:=ownsRow_succ own3;have g3':Wa.drew.grownBy W3 v.ownBlock:=⟨g3.os,g3.tape,g3.output,g3.size,g3.block⟩;have HK6:=zz (HT.out.grow (W1:=w16) (Wd:=Wa.drew) (t:=(GT.mk bb (Hg.ndK 5) [] [] (G2++[GT.mk (w5.heap.size+1) (Hg.ndK 10) [] [] [te]]))) HG5.out HF5.out HBa.out own3 g3' at3);have HP6:=zz (HTa.out.pa (HP5.out.keep (HBa.out.mono HP5.out.lt)) g3' (.slice (some ⟨y3,0,none⟩) (G.length+1) z3));have hX:∀q,v.ownBlock=some q→fb+2≤q:=fun q e=>(HTa.out.kd.own.lt q e).1;have hk3:∀i,i < fb+2→W3.heap[i]? =Wa.drew.heap[i]? :=fun i hi=>g3.block i (by omega) (fun e=>by have:=hX i e.symm;omega);have y0:=cell_of_row W3 (fb+1) 0 _ _ (0,0) ((hk3 _ (by omega)).trans HTa.out.fp);have y1:=cell_of_row W3 b0 0 _ _ (0,0) ((hk3 b0 (by omega)).trans (by have:=HTa.out.box;rw[HD.out] at this;exact this));have y2:=cell_of_row W3 fb 8 _ _ (0,0) ((hk3 _ (by omega)).trans HTa.out.kd.hh);have HF3:=zz (show∀i,W3.frozen? ⟨fb,i,none⟩=false from fun i=>by simp[World.frozen?,(hk3 _ (by omega)).trans HTa.out.kd.hh]);clear own3 g3 at3 g3' hX hk3 hca hsz hha;refine hK.out _ _ (⟨y0,y1,y2⟩) (fun hHeld=> ?_);clear hK K
     try simp only[Act.put,sA,sB,sC,sD,sE,sF]
     refine AL (by kernel_rfl) ?_;simp only[List.drop_succ_cons,List.drop_zero];obtain⟨y0,y1,y2⟩:=hHeld;have f3:=HF3.out;clear f0;go_upto_region 14 with fail;clear y0 y1 y2 f3;generalize World.setCell W3 _ _=w17 at HK6 HP6⊢;obtain⟨c0,c1,-,-⟩:=HK6.out.cells;go_wp2;go_ret;have hes:GT.eraL G2=ss:=by have:=HLL.out;simpa using this
     exact⟨GT.mk fb ⟨3,nm,0,t,0,[]⟩ [] [] _,rfl,by rw[Rs,Dl,HPS.out];show GT.mk 0 _ [] [] (ps++[GT.mk 0 (Hg.ndK 5) [] [] (GT.eraL (G2++[GT.mk (w5.heap.size+1) (Hg.ndK 10) [] [] [te]]))])=_;rw[Dl,hes];show GT.mk 0 _ [] [] (ps++[GT.mk 0 (Hg.ndK 5) [] [] (ss++[GT.mk 0 (Hg.ndK 10) [] [] [GT.era te]])])=_;rw[HER.out];rfl,HK6.out.kd.tree.down (by rw[HD.out];omega),HP6.out,HK6.out.gr⟩
    ·have TI1:=TI.out wr k hp hk
     rw[SK hb hk] at TI1;have TI1:=zz TI1;have TS:=zz (fun X (hx:PaAt X pb L k 0)=>TS0.out.1 X k a k4 hx hit);have hA1:=(TS0.out.2 k a k4 hit).1;have HU2:=zz hu2;have HG2:=zz (show G2.length≤1000000 by omega);clear hp ht hu hb hit hu2;go_wp2_with fail;refine TI1.out.mono ?_;rintro e' w11 ⟨rfl,hb11⟩;have HT:=zz (HTR.out.keep (AJ hb11 (some pb))).drew;have HP:=zz (HPR.out.keep (hb11.mono HPR.out.lt)).drew;clear hb11 TI1 HTR HPR c0 p3;obtain⟨c8,f0⟩:=HT.out.cells;have c0:=HBX.out _ HT.out.gr;have hHeld:(fun w'=>w'.cell? ⟨bb,8,none⟩=some v2∧w'.cell? ⟨b0,0,none⟩=some (.pointer (some ⟨pb,0,none⟩))) w11.drew:=⟨c8,c0⟩;clear c8 c0;go_upto_region 9 with fail;refine AR (fun w'=>w'.cell? ⟨bb,8,none⟩=some v2∧w'.cell? ⟨b0,0,none⟩=some (.pointer (some ⟨pb,0,none⟩))) 9 (by kernel_rfl) ?_;refine tz 0 _ _ _ ?_;refine tz 1 _ _ _ ?_;refine tz 2 _ _ _ ?_;refine tz 3 _ _ _ ?_;refine tz 4 _ _ _ ?_;refine tz 5 _ _ _ ?_;refine AB (i:=6) rfl (by kernel_rfl) (fun K hK=> ?_);go_simp;refine(TS.out w11.drew HP.out).mono ?_;rintro e w5 ⟨t1,rfl,hera,hF5,hp5,hg5⟩;have HT5:=zz (HT.out.keep hg5);have HP5:=zz hp5;have HG5:=zz hg5;have HF5:=zz hF5;have HER:=zz hera;clear hp5 hg5 hF5 hera TS HP;refine hK.out _ _ (⟨HT5.out.cells.1,HBX.out _ HT5.out.gr⟩) (fun hHeld=> ?_);clear hK K
     try simp only[Act.put,sA,sB,sC,sD,sE,sF]
     refine AB (i:=7) rfl (by kernel_rfl) (fun K hK=> ?_);go_simp;generalize hWa:World.alloc _ _=Wa;obtain⟨hBa,hha,hza⟩:=C8 hWa;have HTa:=zz (HT5.out.keep (AJ hBa (some pb)));have HBa:=zz hBa;clear hza hWa hBa;refine hK.out _ _ (⟨HTa.out.cells.1,HBX.out _ HTa.out.gr⟩) (fun hHeld=> ?_);clear hK K
     try simp only[Act.put,sA,sB,sC,sD,sE,sF]
     refine AB (i:=8) rfl (by kernel_rfl) (fun K hK=> ?_);have hsz:=HTa.out.kd.sz;refine Ac rfl (.tmp 45) (.tmp 48) _ rfl (bb+1) 83 j0 _ 1 8 Tryz.underlying88 hj hj0 hj1 hj2 rfl (by decide) v2 G2.length (G2.map ptrV) rfl HTa.out.kd.own ⟨w5.heap.size,0,none⟩ 1 1 [ptrV t1] rfl rfl ?_ (by intro u hu;simp only[List.mem_singleton] at hu;subst hu;rfl) ?_ ?_ ?_ ?_
     ·exact Ij hha
     ·have:=HG2.out;unfold maxLen;omega
     ·have:=HG2.out;omega
     ·exact hsz
     intro v3 W3 own3 g3 at3;obtain⟨y3,z3,rfl⟩:=ownsRow_succ own3;have g3':Wa.grownBy W3 v2.ownBlock:=⟨g3.os,g3.tape,g3.output,g3.size,g3.block⟩;have HK6:=zz (HT.out.grow (W1:=w5) (Wd:=Wa) (t:=t1) HG5.out HF5.out HBa.out own3 g3' at3);have HP6:=zz (HTa.out.pa (HP5.out.keep (HBa.out.mono HP5.out.lt)) g3' (.slice (some ⟨y3,0,none⟩) (G2.length+1) z3));have hX:∀q,v2.ownBlock=some q→bb+1≤q:=fun q e=>(HTa.out.kd.own.lt q e).1;have hk3:∀i,i < bb+1→W3.heap[i]? =Wa.heap[i]? :=fun i hi=>g3.block i (by omega) (fun e=>by have:=hX i e.symm;omega);have y2:=cell_of_row W3 bb 8 _ _ (0,0) ((hk3 _ (by omega)).trans HTa.out.kd.hh);have y1:=HBX.out W3 (Ho HTa.out.gr g3' (fun q e=>by have:=hX q e;have:=HT.out.eq;omega));have HF3:=zz (show∀i,W3.frozen? ⟨bb,i,none⟩=false from fun i=>by simp[World.frozen?,(hk3 _ (by omega)).trans HTa.out.kd.hh]);clear own3 g3 at3 g3' hX hk3 hsz;refine hK.out _ _ (⟨y2,y1⟩) (fun hHeld=> ?_);clear hK K
     try simp only[Act.put,sA,sB,sC,sD,sE,sF]
     refine AL (by kernel_rfl) ?_;simp only[List.drop_succ_cons,List.drop_zero];obtain⟨y2,y1⟩:=hHeld;have f3:=HF3.out;clear f0;go_wp2;go_roundw
     case rel=>exact⟨m,k4,_,G2++[t1],l2,by simp;omega,HP6.out,HK6.out,HU2.out,by rw[Dl];show GT.eraL G2++[GT.era t1]++l2=ss;rw[HER.out,←HLL.out,List.append_assoc];rfl⟩
     case measure=>have:=HP6.out.paK;rw[this,HK.out];omega
end Go.Proofs.YtljmibnfmilfbaaGreatDoor
