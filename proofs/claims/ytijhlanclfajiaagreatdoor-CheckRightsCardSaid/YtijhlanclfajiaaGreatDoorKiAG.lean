/-
  A part of the proof.
-/
import Derived.Test.YtijhlanclfajiaaGreatDoorKiAE
import Derived.Maps.AppendAt
import Derived.Deep.RegionHeld
set_option linter.all false
namespace Go.Proofs.YtijhlanclfajiaaGreatDoor
open Go.RowKit
section
variable {P:Program} {w:World}
theorem H6(base:Nat)(t ty e:TypeId)(i:TypeInfo)(size c:Nat)(ht:P.underlying t=some (.slice e))(hi:P.info? e=some i)
 (v:Value) (n:Nat) (xs:List Value) (hown:w.ownsRow base e size v n xs):
 (Builtin.append_ #[t,t] ty #[v,.slice none 0 c]).run P w= .ok v w:=by
 rcases hown.2 with⟨rfl,rfl⟩|⟨g,cap,cur,rfl,_,_,hnc,_⟩
 ·simp[Builtin.append_,run_underlying ht,sizeOf,typeInfo,hi,Builtin.lenOf,Builtin.firstCells]
 ·simp[Builtin.append_,run_underlying ht,sizeOf,typeInfo,hi,Builtin.lenOf,Builtin.firstCells,hnc,storeCells]
theorem Bb(w:World){ops:Array Oper}{rest:List Oper}{o:Oper}{a:Act}{Q:Exit→Act→World→Prop}(hgd:o.guard=none)(s x:Operand)(t:TypeId)
 (ho:o.op= .call {callee:= .builtin .append,args:= #[s,x],argTypes:= #[t,t]})
 (base:Nat) (e:TypeId) (i:TypeInfo) (z:Value) (bytes:Nat) (ht:P.underlying t=some (.slice e)) (hi:P.info? e=some i) (hz:i.zero=some z)
 (hsize:i.size=1) (hby:i.bytes=bytes) (hzs:z.cells.size=1)
 (v:Value) (n:Nat) (xs:List Value) (hs:a.eval s=v) (hown:w.ownsRow base e 1 v n xs)
 (B:Nat) (vx:Value) (m:Nat) (news:List Value) (hx:a.eval x=vx) (hsl:Sl w B vx m news) (hl:news.length=m) (h1:∀u∈news,u.oneCell'=true)
 (h63:n+m≤maxLen) (hbytes:(n+m)*bytes≤140737488355328) (hbase:base≤w.heap.size)
 (h:∀v' w',w'.ownsRow base e 1 v' (n+m) (xs++news)→w.grownBy w' v.ownBlock→(v'.ownBlock=v.ownBlock∨v'.ownBlock=some w.heap.size)→wpList P ops Q rest (a.put o.dst v') w'):
 wpList P ops Q (o::rest) a w:=by
 obtain⟨ax,c,rfl,hc⟩:=hsl;cases ax with
 |none=>
   have hn0:news=[]:=by
    rcases Nat.eq_zero_or_pos news.length with h0|h0
    ·exact List.eq_nil_of_length_eq_zero h0
    ·obtain⟨b,o',hb,_⟩:=hc h0;cases hb
   subst hn0;simp only[List.length_nil] at hl;subst hl;refine wpList_plain hgd fun K hK=> ?_;have hrun:=H6 (P:=P) (w:=w) base t o.type e i 1 c ht hi v n xs hown;unfold Oper.wp
   simp[execOp,ho,resolve,invoke,builtin,hs,hx,hrun,Result.andThen]
   refine hK _ _ (h v w ?_ ⟨rfl,rfl,rfl,AA,fun _ _ _=>rfl⟩ (.inl rfl));simpa using hown
 |some ad=>
   refine wpList_append_own_at w hgd s x t ho base e i z 1 bytes ht hi hz hsize hby hzs (by decide) v n xs hs hown ad m c news hx (by omega) (fun j u hj=> ?_) h1 h63 hbytes hbase (fun v' w' a1 a2 _ a4=>h v' w' a1 a2 a4);obtain⟨hlt,he⟩:=Af.1 hj;obtain⟨b,o',hb,_,hcell⟩:=hc (by omega);injection hb with hb;subst hb;have hadd:(⟨b,o',none⟩:Addr).add j=⟨b,o'+j,none⟩:=by unfold Addr.add;split <;>simp_all
   rw[hadd,hcell j hlt,he]
end
theorem BX{w w':World}{base B:Nat}{e:TypeId}{size:Nat}{v:Value}{n:Nat}{xs:List Value}(h:w.ownsRow base e size v n xs)(hb:Below B w w')(hB:w.heap.size≤B):w'.ownsRow base e size v n xs:=
 h.kept (row:=none) ⟨hb.os,hb.tape,hb.output,hb.size,fun k hk _=>hb.block k (by omega)⟩ (by cases hv:v.ownBlock <;>simp)
theorem Dw{w:World}{p:Addr}{v:Value}(h:w.cell? p=some v)(o:Obj):(w.alloc o).cell? p=some v:=by
 rw[World.cell?_alloc_some w p o (by rw[h];rfl),h]
theorem IP{w:World}{base:Nat}{e:TypeId}{v:Value}{n:Nat}{xs:List Value}(h:w.ownsRow base e 1 v n xs){g:Nat}(hg:v.ownBlock=some g):
 ∃c,v= .slice (some ⟨g,0,none⟩) n c∧n≤c∧base≤g∧g < w.heap.size:=by
 rcases h.2 with⟨rfl,_⟩|⟨g',cap,cur,rfl,hb,hh,hnc,_⟩
 ·simp[Value.ownBlock] at hg
 ·simp only[Value.ownBlock,Option.some.injEq] at hg
  subst hg;exact⟨cap,rfl,hnc,hb,(Ab.1 hh).1⟩
theorem Di(w:World)(base:Nat)(e:TypeId)(hb:base≤w.heap.size):(w.alloc (.cells #[] e)).ownsRow base e 1 (.slice (some ⟨w.heap.size,0,none⟩) 0 0) 0 []:=
 ⟨rfl,.inr ⟨w.heap.size,0,#[],rfl,hb,AZ w _,AA,by simp[maxLen],rfl,rfl⟩⟩
theorem Ej(l:List Nat):∀u∈l.map idV,u.oneCell'=true:=by
 intro u hu;obtain⟨_,_,rfl⟩:=List.mem_map.1 hu;rfl
theorem Sl.grown{w w':World}{B:Nat}{v:Value}{n:Nat}{xs:List Value}{row:Option Nat}(h:Sl w B v n xs)(hB:B≤w.heap.size)(hg:w.grownBy w' row)(hne:∀g,row=some g→v.ownBlock≠some g):Sl w' B v n xs:=by
 obtain⟨a,c,rfl,hc⟩:=h;refine⟨a,c,rfl,fun hn=> ?_⟩;obtain⟨b,o,rfl,hb,hx⟩:=hc hn;refine⟨b,o,rfl,hb,fun j hj=> ?_⟩;rw[←hx j hj];refine World.cell?_of_block (hg.block b (by omega) (fun e=> ?_));exact hne b e.symm rfl
end Go.Proofs.YtijhlanclfajiaaGreatDoor
