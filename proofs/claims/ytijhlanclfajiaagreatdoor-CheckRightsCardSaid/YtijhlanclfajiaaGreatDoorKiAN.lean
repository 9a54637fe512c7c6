/-
  A part of the proof.
-/
import Derived.Test.YtijhlanclfajiaaGreatDoorKiAJ
import Derived.Test.YtijhlanclfajiaaGreatDoorKiAH
set_option linter.all false
namespace Go.Proofs.YtijhlanclfajiaaGreatDoor
open Go.RowKit
theorem RdAt.book{w:World}{rb:Nat}{s:Hg.Rd}(h:RdAt w rb s):
 ∃a7 c7 a8 c8 a9 c9 a10 c10,(w.cell? ⟨rb,7,none⟩=some (.slice a7 s.funcs.length c7)∧w.cell? ⟨rb,8,none⟩=some (.slice a8 s.ids.length c8)∧w.cell? ⟨rb,9,none⟩=some (.slice a9 s.calls.length c9)∧w.cell? ⟨rb,10,none⟩=some (.slice a10 s.wants.length c10))∧
   Sl w w.heap.size (.slice a7 s.funcs.length c7) s.funcs.length (s.funcs.map strV)∧Sl w w.heap.size (.slice a8 s.ids.length c8) s.ids.length (s.ids.map idV)∧
   Sl w w.heap.size (.slice a9 s.calls.length c9) s.calls.length (s.calls.map idV)∧Sl w w.heap.size (.slice a10 s.wants.length c10) s.wants.length (s.wants.map strV):=by
 obtain⟨vL,vR,vM,vF,vI,vC,vW,vU,vS,ks,h1,h2,h3,h4⟩:=h;have s7:Sl w w.heap.size vF s.funcs.length (s.funcs.map strV):=Sl.Ai (show w.ownsRow (rb+1) 9 1 vF s.funcs.length (s.funcs.map strV) from h4.1 ⟨vF,9,1,s.funcs.length,s.funcs.map strV⟩ (by simp[BU]));have s8:Sl w w.heap.size vI s.ids.length (s.ids.map idV):=Sl.Ai (show w.ownsRow (rb+1) 37 1 vI s.ids.length (s.ids.map idV) from h4.1 ⟨vI,37,1,s.ids.length,s.ids.map idV⟩ (by simp[BU]));have s9:Sl w w.heap.size vC s.calls.length (s.calls.map idV):=Sl.Ai (show w.ownsRow (rb+1) 37 1 vC s.calls.length (s.calls.map idV) from h4.1 ⟨vC,37,1,s.calls.length,s.calls.map idV⟩ (by simp[BU]));have s10:Sl w w.heap.size vW s.wants.length (s.wants.map strV):=Sl.Ai (show w.ownsRow (rb+1) 9 1 vW s.wants.length (s.wants.map strV) from h4.1 ⟨vW,9,1,s.wants.length,s.wants.map strV⟩ (by simp[BU]));obtain⟨a7,c7,rfl⟩:=s7.form;obtain⟨a8,c8,rfl⟩:=s8.form;obtain⟨a9,c9,rfl⟩:=s9.form;obtain⟨a10,c10,rfl⟩:=s10.form;have hc:=fun i=>AJ w rb i _ _ (0,0) h1;exact⟨a7,c7,a8,c8,a9,c9,a10,c10,⟨hc 7,hc 8,hc 9,hc 10⟩,s7,s8,s9,s10⟩
theorem RF(rb:Nat)(s:Hg.Rd)(e0:Nat)(w:World)(hR:RdAt w rb s):
 Calls Tryz.prog 93 #[.pointer (some ⟨rb,0,none⟩),.int .i64 (e0:Int)] w fun e w'=>e= .returned (.tuple #[])∧RdAt w' rb (s.fault e0)∧Lite rb w w'∧w'.cell? ⟨rb,9,none⟩=w.cell? ⟨rb,9,none⟩:=by
 have HR:=zz hR;obtain⟨_,_,c3,c5,_⟩:=hR.cell;have f5:=hR.frozen 5;clear hR;by_cases h0:s.names=0
 ·have hq:((s.names:Int)==0)=true:=by simp[h0]
  cases hb:s.bad
  ·have hd:s.fault e0={s with names:=e0}:=by simp[Hg.Rd.fault,h0,hb]
   rw[hd];rw[hb] at c3;clear hd h0 hb;go_enter Tryz.func93,Tryz.ntmps93;go_wp2;go_end0;exact⟨rfl,HR.out.setNames e0,(Lite.refl _ _).setCell (by decide) _,World.cell?_setCell_other _ _ _ _ (by simp)⟩
  ·have hd:s.fault e0=s:=by simp[Hg.Rd.fault,hb]
   rw[hd];rw[hb] at c3;clear hd h0 hb;go_enter Tryz.func93,Tryz.ntmps93;go_wp2;go_end0;exact⟨rfl,HR.out,Lite.refl _ _,rfl⟩
 ·have hq:((s.names:Int)==0)=false:=by simp;omega
  have hd:s.fault e0=s:=by simp[Hg.Rd.fault,h0]
  rw[hd];clear hd h0;go_enter Tryz.func93,Tryz.ntmps93;go_wp2;go_end0;exact⟨rfl,HR.out,Lite.refl _ _,rfl⟩
def Zc(rb:Nat)(aC:Option Addr)(cC n:Nat)(sE:Hg.Rd)(w0:World)(i:Nat)(wr:World):Prop:=
 ∃(t:Hg.Rd),i≤n∧t.calls.length=n∧Hg.Rd.link (t.calls.drop i) (t.wants.drop i) t=sE∧RdAt wr rb t∧Hg.Rd.Inv t∧t.rows.length≤10000000∧wr.cell? ⟨rb,9,none⟩=some (.slice aC n cC)∧Below rb w0 wr
end Go.Proofs.YtijhlanclfajiaaGreatDoor
