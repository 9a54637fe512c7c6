/-
  A part of the proof.
-/
import Derived.Test.YtijhlanclfajiaaGreatDoorKiBC
import Derived.Test.YtijhlanclfajiaaGreatDoorKiBD
import Derived.Lib.SmallJoins
set_option linter.all false
set_option maxHeartbeats 32000000
set_option maxRecDepth 100000
namespace Go.Proofs.YtijhlanclfajiaaGreatDoor
open Go.ChangeShapes Go.WideShapes Go.ChangeAt Go.ChangeMaps Go.WideMaps Go.WideElems Go.RowKit Go.Joins Go.Deep
open Hg (Bend)
theorem Oy:Tryz.prog.cellsOf 92=5:=by kernel_rfl
instance:Inhabited Bend:=⟨⟨0,0,0,[],0⟩⟩
section
variable {H:Type} {enc:TypeId×Value→H} {w:World} {spare:Nat→Bool} {held:Bool}
theorem R5{r:Reach}{b0:Nat}{v:Value}{d:DataW H}{p:List MemPlace}(hv:Value.okWide Tryz.prog w r b0 22 v)(h:DataW.Trod enc Tryz.prog w 0 spare held 22 v d p)(hlt:∀b o,MemPlace.cell b o∈p→b < w.heap.size):
 ∃bs:List Bend,Hy w v bs∧(∀b∈bs,Nr b)∧(bs=[]∨∃es rs,d= .slice es rs∧es.length=bs.length)∧∀x∈p,∃xb xo,x= .cell xb xo:=by
 obtain⟨a0,len0,cap0,rfl⟩:=okWide_slice Tryz.underlying22 hv;obtain⟨fuel,hf⟩:=h;rcases open_slice Tryz.underlying22 hf with⟨hcs,hx⟩|⟨a,len,cap,m,n,D,Pl,hcs,hb,hl,hm,hmm,hx,hel⟩
 ·simp[Value.cells] at hcs
  obtain⟨rfl,rfl,rfl⟩:=hcs;simp only[Prod.mk.injEq] at hx;obtain⟨rfl,rfl⟩:=hx;exact⟨[],⟨none,0,rfl,fun k b hk=>by cases hk⟩,fun b hb=>(by cases hb),.inl rfl,fun x hx=>(by cases hx)⟩
 ·simp[Value.cells] at hcs
  obtain⟨rfl,rfl,rfl⟩:=hcs;simp only[Prod.mk.injEq] at hx;obtain⟨rfl,rfl⟩:=hx;have hlm:len0≤m:=by rw[hmm];split <;>omega
  have each:∀i,i < m→∃q:Bend,Nr q∧Pl i=[]∧w.cell? (a.add (i*5))=some (.int .u8 (q.k:Int))∧w.cell? (a.add (i*5+1))=some (.int .u8 (q.d:Int))∧w.cell? (a.add (i*5+2))=some (.int .i64 q.n)∧
   w.cell? (a.add (i*5+3))=some (strV q.name)∧w.cell? (a.add (i*5+4))=some (.int .u64 (q.id:Int)):=by
   intro i hi;obtain⟨cs',h1,h2⟩:=hel i hi;rw[Oy] at h1;obtain⟨_,hlen,hcell⟩:=World.cells?_some h1;obtain⟨xs,k,hk,hxy,_,hxl,hfs⟩:=DataW.trod_struct Tryz.underlying92 h2
   match xs,hxl,cs',hlen with
   |[y0,y1,y2,y3,y4],_,[v0,v1,v2,v3,v4],_=>
     have g0:=hfs 0 _ rfl;have g1:=hfs 1 _ rfl;have g2:=hfs 2 _ rfl;have g3:=hfs 3 _ rfl;have g4:=hfs 4 _ rfl
     simp[show Tryz.prog.cellsOf 5=1 by kernel_rfl] at g0 g1
     simp[show Tryz.prog.cellsOf 2=1 by kernel_rfl] at g2
     simp[show Tryz.prog.cellsOf 9=1 by kernel_rfl] at g3
     simp[show Tryz.prog.cellsOf 37=1 by kernel_rfl] at g4
     obtain⟨n0,e0,z0,w0⟩:=DataW.trod_int Tryz.underlying5 g0;obtain⟨n1,e1,z1,w1⟩:=DataW.trod_int Tryz.underlying5 g1;obtain⟨n2,e2,z2,w2⟩:=DataW.trod_int Tryz.underlying2 g2;obtain⟨s3,e3,z3,w3⟩:=DataW.trod_string Tryz.underlying9 g3;obtain⟨n4,e4,z4,w4⟩:=DataW.trod_int Tryz.underlying37 g4;simp only[List.cons.injEq,and_true] at e0 e1 e2 e3 e4;subst e0;subst e1;subst e2;subst e3;subst e4;have i0:=bounds_u8 w0;have i1:=bounds_u8 w1;have i2:=bounds_i64 w2;have i4:=bounds_u64 w4;obtain⟨n0,rfl⟩:=Int.eq_ofNat_of_zero_le i0.1;obtain⟨n1,rfl⟩:=Int.eq_ofNat_of_zero_le i1.1;obtain⟨n4,rfl⟩:=Int.eq_ofNat_of_zero_le i4.1;obtain⟨⟨l⟩⟩:=s3;have c0:=hcell 0 (by omega);have c1:=hcell 1 (by omega);have c2:=hcell 2 (by omega);have c3:=hcell 3 (by omega);have c4:=hcell 4 (by omega);rw[add_add] at c0 c1 c2 c3 c4;simp only[Prod.mk.injEq] at hxy;refine⟨⟨n0,n1,n2,l,n4⟩,⟨by show n0≤255;omega,by show n1≤255;omega,by show _≤n2;omega,by show n2≤_;omega, ?_,by show n4 < _;omega⟩,by rw[hxy.2,z0,z1,z2,z3,z4];rfl,by simpa using c0,by simpa using c1,by simpa using c2,by simpa using c3,by simpa using c4⟩;have:=w3;simpa[maxLen,ByteArray.size] using this
  obtain⟨q,hq⟩:=choose_lt each;have hps:MemPlace.row a (m*Tryz.prog.cellsOf 92)++(List.range m).flatMap Pl=MemPlace.row a (m*5):=by
   rw[Oy,flatMap_congr_range (g:=fun _=>[]) (fun i hi=>(hq i hi).2.1)];simp
  rw[hps] at hlt⊢;refine⟨(List.range len0).map q,⟨some a,cap0,by simp,fun k b hk=> ?_⟩,fun b hb=> ?_,.inr ⟨_,_,rfl,by simp⟩,fun x hx=> ?_⟩
  ·obtain⟨hkl,hkb⟩:=Af.1 hk
   have hkl:k < len0:=by simpa using hkl
   have hkb:q k=b:=by simpa using hkb
   subst hkb;obtain⟨_,_,c0,c1,c2,c3,c4⟩:=hq k (by omega);obtain⟨_,_,d0,_⟩:=hq 0 (by omega);obtain⟨xb,xo,spot⟩:=a;have hspot:spot=none:=by simpa[Addr.add] using World.cell?_spot d0
   subst hspot;rw[Addr.add_lit] at c0 c1 c2 c3 c4;refine⟨xb,xo,rfl,hlt xb xo ?_, ?_, ?_, ?_, ?_, ?_⟩
   ·simp only[MemPlace.row,List.mem_map,List.mem_range]
    exact⟨0,by omega,rfl⟩
   ·simpa using c0
   ·simpa[Nat.add_assoc] using c1
   ·simpa[Nat.add_assoc] using c2
   ·simpa[Nat.add_assoc] using c3
   ·simpa[Nat.add_assoc] using c4
  ·obtain⟨i,hi,rfl⟩:=List.mem_map.1 hb
   exact(hq i (by have:=List.mem_range.1 hi;omega)).1
  ·simp only[MemPlace.row,List.mem_map] at hx
   obtain⟨i,_,rfl⟩:=hx;exact⟨_,_,rfl⟩
end
end Go.Proofs.YtijhlanclfajiaaGreatDoor
