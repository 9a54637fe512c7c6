/-
  Part of the proof of CheckLists.
-/
import Derived.Test.YtljmibnfmilfbaaGreatDoorKeAY
import Derived.Test.YtljmibnfmilfbaaGreatDoorKeAM
set_option linter.all false
set_option maxHeartbeats 32000000
set_option maxRecDepth 100000
namespace Go.Proofs.YtljmibnfmilfbaaGreatDoor
open Go.RowKit
theorem Tz:(Tryz.prog.info? 122).map (fun i=>(i.zero,i.size,i.bytes))=some (some (.agg #[.int .u8 0,.string ⟨#[]⟩,.int .i64 0]),3,32):=by kernel_rfl
theorem V6(cb:Nat)(s:List UInt8)(l acc:List Hg.Tok)(k:Nat)(w:World)(hC:ScAt w cb s k)(hl:s.length≤1000000)(hT:Tail s l acc k)(hS:OO s k)(hk:k < s.length)(hN:XK l)(hTab:Bl w)(hcb:0 < cb):
 ∃t,Tail s l (acc++[t]) (k+t.text.length)∧0 < t.text.length∧Calls Tryz.prog 66 #[.pointer (some ⟨cb,0,none⟩)] w (EU w cb s t (k+t.text.length)):=by
 obtain⟨t,hn,ht,hpos⟩:=hT.next hS hk;refine⟨t,ht,hpos, ?_⟩;clear hpos;cases hn with
 |word W hp hw h=>exact Ub cb s W k w hC hl hk hTab hcb (hp hk) hw h
 |name W hp hw h hn=>exact Ud cb s W k w hC hl hk hTab hcb (hp hk) hw h hn
 |num W hp hw h hn=>
   obtain⟨n,hn10,hnW⟩:=hN _ ht.mem rfl;exact V5 cb s W k w hC hl hk hTab hcb (hp hk) hw h hn n hn10 hnW
 |two hp h hl2=>exact Ki cb s _ k 2 w hC hl hk hTab hcb (hp hk) (.inl ⟨rfl,h⟩) rfl
 |one hp h2 h=>
   rcases h2 with h2|h2
   ·exact Ki cb s _ k 1 w hC hl hk hTab hcb (hp hk) (.inr ⟨rfl,h2,h⟩) rfl
   ·have e:(s.drop k).take 1=(s.drop k).take 2:=by
     rw[List.take_of_length_le (by simp;omega),List.take_of_length_le (by simp;omega)]
    rw[e] at h⊢;exact Ki cb s _ k 2 w hC hl hk hTab hcb (hp hk) (.inl ⟨rfl,h⟩) rfl
theorem GD(w:World)(o:Obj)(cs:List Value)(t:TypeId):∀j u,cs[j]? =some u→((w.alloc o).alloc (.cells cs.toArray t)).cell? ((⟨w.heap.size+1,0,none⟩:Addr).add j)=some u:=by
 have h:=Af (w.alloc o) cs t;simpa using h
def Ye(w:World)(l:List Hg.Tok)(e:Ending)(w':World):Prop:=
 ∃a c,e= .returned (.tuple #[.slice a l.length c,.int .i64 0])∧Sl w' w'.heap.size (.slice a l.length c) l.length (l.flatMap Ar)∧Below w.heap.size w w'
theorem XE(s:List UInt8)(l:List Hg.Tok)(w:World)(hl:s.length≤100000)(hr:Hg.Cz s=some l)(hN:XK l)(hTab:Bl w):
 Calls Tryz.prog 40 #[.string ⟨s.toArray⟩] w (Ye w l):=by
 obtain⟨j0,hj,hj0,hj1,hj2⟩:=info_parts Tz;have hT0:Tail s l [] 0:=⟨Nat.zero_le _,s.length,by omega,hr⟩;have HT0:=zz hT0;have HNUM:=zz hN;have htl:=hTab.lt;have HTAB:=zz (show∀w1,Below w.heap.size w w1→Bl w1 from fun w1 h=>hTab.below h hTab.lt);have hq0:decide (200000 < (s.length:Int))=false:=by simp;omega
 have hq0':decide (200000 < s.length)=false:=by simp;omega
 have hb0:Below w.heap.size w (w.alloc (.cells #[strV s,.int .i64 0] 120)):=(Below.refl _ _).alloc (Nat.le_refl _) _;have hC0:ScAt (w.alloc (.cells #[strV s,.int .i64 0] 120)) w.heap.size s 0:=heap_alloc_new w _;clear hr hN hTab hT0;have TK0:=zz (Pe w.heap.size s l [] 0 _ hC0 (by omega) HT0.out);go_enter Tryz.func40,Tryz.ntmps40;go_wp2_with fail;refine TK0.out.mono ?_;rintro e w1 ⟨k1,_,rfl,hs1,ht1,hso1,hg1⟩;have hb1:Below w.heap.size w w1:=hb0.grown hg1 (by simp) (fun q hq=>by injection hq with hq;omega);have HS1:=zz hs1;have HT1:=zz ht1;have HSO1:=zz hso1;clear hs1 ht1 hso1 hg1 hb0 hC0 TK0;have hw1l:w.heap.size+1≤w1.heap.size:=HS1.out.lt;go_wp2
 go_loopw [4] (fun p wr=>∃(j:Nat) (acc:List Hg.Tok),wr.ownsRow (w.heap.size+1) 122 3 p acc.length (acc.flatMap Ar)∧acc.length≤j∧ScAt wr w.heap.size s j∧Tail s l acc j∧OO s j∧Below w.heap.size w wr) (fun p wr=>s.length-CZ wr ⟨w.heap.size,1,none⟩)
 case atStart=>exact⟨k1,[],World.ownsRow_nil _ _ _ _,Nat.zero_le _,HS1.out,HT1.out,HSO1.out,hb1⟩
 case round=>
  obtain⟨j,acc,hown,haj,hs,ht,hso,hb⟩:=hrel;obtain⟨c0,c1,f0⟩:=hs.read;have hjl:j≤s.length:=ht.1;have hm:CZ wr ⟨w.heap.size,1,none⟩=j:=by unfold CZ;rw[c1];simp
  have HM:=zz hm;have HO:=zz hown;have HS:=zz hs;have HT:=zz ht;have HSO:=zz hso;have hwl:w.heap.size+1≤wr.heap.size:=hs.lt;clear hm hown hs ht hso hb1 hw1l;by_cases hlt:j < s.length
  ·obtain⟨t,ht2,hpos,hcall⟩:=V6 w.heap.size s l acc j wr HS.out (by omega) HT.out HSO.out hlt HNUM.out (HTAB.out wr hb) htl
   have HT2:=zz ht2;have hjt:j+t.text.length≤s.length:=ht2.1;have HC:=zz hcall;have hne1:∀q,u4.ownBlock=some q→w.heap.size+1≤q:=fun q hq=>(HO.out.lt q hq).1;have HNE:=zz hne1;clear ht2 hcall hne1;go_wp2_with fail;refine HC.out.mono ?_;rintro e w2 ⟨rfl,hs2,hg2⟩;have hb2:Below w.heap.size w w2:=hb.grown hg2 (by omega) (fun q hq=>by injection hq with hq;omega);have ho2:w2.ownsRow (w.heap.size+1) 122 3 u4 acc.length (acc.flatMap Ar):=HO.out.kept hg2 (by
    cases hq:u4.ownBlock with
    |none=>exact .inl rfl
    |some q=>exact .inr (fun e=>by injection e with e;have:=HNE.out q hq;omega))
   have HO2:=zz ho2;have HS2:=zz hs2;have hs2l:=hg2.size;clear hs2 hg2 ho2
   go_wp2_with (at_builtin;refine wpList_append_own_at _ rfl (.tmp 32) (.tmp 34) _ rfl (w.heap.size+1) 122 j0 _ 3 32 Tryz.underlying77 hj hj0 hj1 hj2 rfl (by decide) _ _ _ rfl ((HO2.out.alloc _).alloc _) ⟨w2.heap.size+1,0,none⟩ 1 1 (Ar t) rfl rfl (GD _ _ _ _) ?_ ?_ ?_ ?_ ?_)
   ·exact Gy _
   ·unfold maxLen;omega
   ·omega
   ·simp;omega
   intro v3 w3 own3 g3 _ at3;rw[Fj] at own3;have hs3:ScAt w3 w.heap.size s (j+t.text.length):=(((HS2.out.keep (((Below.refl _ _).alloc (Nat.le_refl _) _).block _ HS2.out.lt):ScAt (w2.alloc (.cells #[.int .u8 (t.kind:Int),strV t.text,.int .i64 (t.pos:Int)] 122)) w.heap.size s (j+t.text.length))).keep
    (((Below.refl _ _).alloc (Nat.le_refl _) _).block _ (by simp;omega))).keep (g3.block _ (by simp;omega) (fun e=>by have:=HNE.out _ e.symm;omega))
   have hb3:Below w.heap.size w w3:=((hb2.alloc hb2.size _).alloc (by simp;omega) _).grown g3 (by simp;omega) (fun q hq=>by have:=HNE.out q hq;omega);have hq3:∀q,v3.ownBlock=some q→w.heap.size+1≤q:=fun q hq=>(own3.lt q hq).1;have HQ3:=zz hq3;have HO3:=zz own3;have hw3:=hs3.lt;have TK:=zz (Pe w.heap.size s l (acc++[t]) (j+t.text.length) w3 hs3 (by omega) HT2.out);clear own3 g3 at3 hs3 hq3 c0 c1 f0;go_wp2_with fail;refine TK.out.mono ?_;rintro e w4 ⟨k4,hk4,rfl,hs4,ht4,hso4,hg4⟩;have hb4:Below w.heap.size w w4:=hb3.grown hg4 (by omega) (fun q hq=>by injection hq with hq;omega);have ho4:w4.ownsRow (w.heap.size+1) 122 3 v3 (acc++[t]).length ((acc++[t]).flatMap Ar):=by
    have:=HO3.out.kept hg4 (by
     cases hq:v3.ownBlock with
     |none=>exact .inl rfl
     |some q=>exact .inr (fun e=>by injection e with e;have:=HQ3.out q hq;omega))
    simpa using this
   have hm4:CZ w4 ⟨w.heap.size,1,none⟩=k4:=by unfold CZ;rw[hs4.read.2.1];simp
   have HM4:=zz hm4;have HO4:=zz ho4;have HS4:=zz hs4;have HT4:=zz ht4;have HSO4:=zz hso4;clear hs4 ht4 hso4 hg4 ho4 hm4;go_wp2;go_roundw
   case rel=>exact⟨k4,acc++[t],HO4.out,by simp;omega,HS4.out,HT4.out,HSO4.out,hb4⟩
   case measure=>rw[HM4.out,HM.out];have:=HT4.out.1;omega
  ·have hj:j=s.length:=by omega
   subst hj;have hfin:acc=l:=by
    obtain⟨_,f,_,hr⟩:=HT.out;rw[List.drop_length] at hr;cases f <;>(rw[Hg.Ak] at hr;injection hr)
   subst hfin;have hsl:=Sl.AX HO.out;obtain⟨a,c,hv⟩:=hsl.form;subst hv;have HSL:=zz hsl;clear hsl;go_wp2;go_ret2;exact⟨a,c,rfl,HSL.out,hb⟩
end Go.Proofs.YtljmibnfmilfbaaGreatDoor
