/-
  A part of the proof.
-/
import Derived.Test.YthihjcannjhonaaGreatDoorKhAZ
import Derived.Lib.SmallJoins
import Derived.Test.YthihjcannjhonaaGreatDoorKhBF
set_option linter.all false
set_option maxHeartbeats 32000000
set_option maxRecDepth 100000
namespace Go.Proofs.YthihjcannjhonaaGreatDoor
open Go.ChangeShapes Go.WideShapes Go.ChangeAt Go.ChangeMaps Go.WideMaps Go.WideElems Go.RowKit Go.Joins Go.Deep
section
variable {H:Type} {enc:TypeId×Value→H} {w:World} {spare:Nat→Bool} {held:Bool}
theorem Uy{k:Nat}{v:Value}{y:DataW H×List MemPlace}(hf:DataW.trod enc Tryz.prog w 0 spare held k 22 [v]=some y)(hlt:∀b o,MemPlace.cell b o∈y.2→b < w.heap.size):
 ∃l:List Int,Rn.Ints w v l∧(l=[]∨∃es rs,y.1= .slice es rs∧es.length=l.length)∧∀x∈y.2,∃xb xo,x= .cell xb xo:=by
 rcases open_ints Tryz.underlying22 Tryz.underlying2 (by kernel_rfl) hf with⟨hcs,hx⟩|⟨a,len0,cap0,zs,hcs,_,hl,_,hz,hx,hc,_⟩
 ·simp only[List.cons.injEq,and_true] at hcs
  subst hcs;subst hx;exact⟨[],⟨Sl.nil _ _,none,0,rfl,AA⟩,.inl rfl,fun x hx=>(by cases hx)⟩
 ·simp only[List.cons.injEq,and_true] at hcs
  subst hcs;subst hx;have hlm:len0≤zs.length:=by rw[hz];split <;>omega
  have hlen:(zs.take len0).length=len0:=by rw[List.length_take];omega
  refine⟨zs.take len0,⟨⟨some a,cap0,by rw[hlen],fun hn=> ?_⟩,some a,cap0,by rw[hlen],by rw[hlen];exact hl⟩,.inr ⟨_,_,rfl,by simp[lits]⟩,fun x hx=> ?_⟩
  ·rw[List.length_map,hlen] at hn
   obtain⟨xb,xo,spot⟩:=a;have h0:=hc 0 (by omega);have hspot:spot=none:=by simpa[Addr.add] using World.cell?_spot h0
   subst hspot;refine⟨xb,xo,rfl,hlt xb xo ?_,fun j hj=> ?_⟩
   ·simp only[MemPlace.row,List.mem_map,List.mem_range]
    exact⟨0,by omega,rfl⟩
   ·rw[List.length_map,hlen] at hj
    have:=hc j (by omega);rw[Addr.add_lit] at this;rw[this]
    simp[i64V,List.getD,Aa (show j < zs.length by omega)]
  ·simp only[MemPlace.row,List.mem_map] at hx
   obtain⟨i,_,rfl⟩:=hx;exact⟨_,_,rfl⟩
theorem Qh{r:Reach}{b0:Nat}{v:Value}{d:DataW H}{p:List MemPlace}(hv:Value.okWide Tryz.prog w r b0 31 v)(h:DataW.Trod enc Tryz.prog w 0 spare held 31 v d p)(hlt:∀b o,MemPlace.cell b o∈p→b < w.heap.size):
 ∃(e x u rd:Int) (tv:Value) (l:List Int),v=Rn.resW e x tv u rd∧Rn.Ints w tv l∧(l=[]∨∃d0 d1 es rs d3 d4,d= .agg [d0,d1,.slice es rs,d3,d4]∧es.length=l.length)∧∀x∈p,∃xb xo,x= .cell xb xo:=by
 obtain⟨cs,rfl,hsz⟩:=okWide_struct Tryz.underlying31 hv;rw[show Tryz.prog.cellsOf 31=5 by kernel_rfl] at hsz;obtain⟨fuel,hf⟩:=h;obtain⟨xs,k,hk,hxy,_,hxl,hfs⟩:=DataW.trod_struct Tryz.underlying31 hf;obtain⟨cl⟩:=cs
 match xs,hxl,cl,hsz with
 |[y0,y1,y2,y3,y4],_,[v0,v1,v2,v3,v4],_=>
   have g0:=hfs 0 _ rfl;have g1:=hfs 1 _ rfl;have g2:=hfs 2 _ rfl;have g3:=hfs 3 _ rfl;have g4:=hfs 4 _ rfl
   simp[Value.cells,show Tryz.prog.cellsOf 5=1 by kernel_rfl] at g0
   simp[Value.cells,show Tryz.prog.cellsOf 2=1 by kernel_rfl] at g1
   simp[Value.cells,show Tryz.prog.cellsOf 22=1 by kernel_rfl] at g2
   simp[Value.cells,show Tryz.prog.cellsOf 3=1 by kernel_rfl] at g3 g4
   obtain⟨n0,e0,z0,w0⟩:=DataW.trod_int Tryz.underlying5 g0;obtain⟨n1,e1,z1,w1⟩:=DataW.trod_int Tryz.underlying2 g1;obtain⟨n3,e3,z3,w3⟩:=DataW.trod_int Tryz.underlying3 g3;obtain⟨n4,e4,z4,w4⟩:=DataW.trod_int Tryz.underlying3 g4;simp only[List.cons.injEq,and_true] at e0 e1 e3 e4;subst e0;subst e1;subst e3;subst e4;simp only[Prod.mk.injEq] at hxy;obtain⟨rfl,rfl⟩:=hxy;subst z0;subst z1;subst z3;subst z4;obtain⟨l,h1,h2,h3⟩:=Uy g2 (fun b o hb=>hlt b o (by simp[hb]));refine⟨n0,n1,n3,n4,v2,l,rfl,h1, ?_,fun x hx=>h3 x (by simpa using hx)⟩;rcases h2 with h2|⟨es,rs,h2,h4⟩
   ·exact .inl h2
   ·exact .inr ⟨.lit (.int .u8 n0),.lit (.int .i64 n1),es,rs,.lit (.int .i64 n3),.lit (.int .i64 n4),by simp[h2],h4⟩
theorem OJ{ts:List TypeId}{ds:List (DataW H)}(h:(DataW.weightsEach Tryz.prog ts ds).all (· ≤reachBytes)=true){j:Nat}{d:DataW H}{l:List Int}(ht:ts[j]? =some 31)(hj:ds[j]? =some d)(hd:l=[]∨∃d0 d1 es rs d3 d4,d= .agg [d0,d1,.slice es rs,d3,d4]∧es.length=l.length):l.length≤1000000000000000:=by
 rcases hd with rfl|⟨d0,d1,es,rs,d3,d4,rfl,he⟩
 ·simp
 ·have:=List.all_eq_true.1 h _ (DataW.weights_mem_each ht hj ((es.length+rs.length)*Tryz.prog.bytesOf 2) (by simp[DataW.weights,DataW.weightsEach,Tryz.underlying31,Tryz.underlying22]))
  rw[show Tryz.prog.bytesOf 2=8 by kernel_rfl] at this;unfold reachBytes at this;simp at this;omega
end
end Go.Proofs.YthihjcannjhonaaGreatDoor
namespace Go.Proofs.YthihjcannjhonaaGreatDoor
open Go.ChangeShapes Go.WideShapes Go.ChangeAt Go.ChangeMaps Go.WideMaps Go.WideElems Go.RowKit Go.Joins
theorem M0(os:Os)(started:os.Started)(H:Type)(enc:TypeId×Value→H):
 ReturnsInHanded {} Tryz.checked os 4 .any (fun w args=>(Rows.runEndsSpec.pre enc Tryz.prog Tryz.f4 [] false w args∧laidMetH Tryz.prog lz w)∧sizedMet enc Tryz.prog Tryz.f4 (OpenSpec.ofChange Rows.runEndsSpec) false w args)
  (Rows.runEndsSpec.post enc Tryz.prog Tryz.f4 false true false false):=by
 refine returnsInHanded_of_change_and (C:=Tryz.checked) (X:=fun w _=>laidMetH Tryz.prog lz w) (fun _ _ _ hh h=>h.of_heap hh) own started (by kernel_rfl) Tryz.func4
  (ChangeSpec.witness_shaped (enc:=enc) (C:=Tryz.checked) (os:=os) (X:=fun w _=>laidMetH Tryz.prog lz w) false (World.doorLaid Tryz.prog 86 os) #[.string ⟨#[]⟩,.int .i64 0,.agg #[.int .u8 0,.int .i64 0,.slice none 0 0,.int .i64 0,.int .i64 0],.agg #[.int .u8 0,.int .i64 0,.slice none 0 0,.int .i64 0,.int .i64 0]] 8 rfl (World.shaped_of_RefB (by kernel_rfl) (by kernel_rfl)) (by kernel_rfl) (by kernel_rfl) (by kernel_rfl) (XN os _)) ?_
 intro W base args ds gs before hval0 hW _ hsz0 hL _;have hval:∀(j:Nat) t v,Tryz.f4.params[j]? =some t→args[j]? =some v→Value.okWide Tryz.prog W .any base t v:=hval0;have hsz:(DataW.weightsEach Tryz.prog (Tryz.f4.params.toList++Rows.runEndsSpec.plain.varTypes Tryz.prog) (ds++gs)).all (· ≤reachBytes)=true:=hsz0;have hW':=hW;obtain⟨p,q,hA0,hV,rfl,hfz,hnd⟩:=hW;have hA:DataW.TrodAll enc Tryz.prog W 0 (fun _=>true) true Tryz.f4.params.toList args.toList ds p:=hA0;rw[Tryz.params4] at hA hval hsz;obtain⟨v0,v1,v2,v3,d0,d1,d2,d3,p0,p1,p2,p3,rfl,rfl,rfl,h0,h1,h2,h3⟩:=trodAll_four hA;obtain⟨rfl,rfl⟩:=trodVars_none hV;obtain⟨s,rfl,rfl,rfl,hm⟩:=open_string Tryz.underlying9 (hval 0 9 v0 rfl rfl) h0;obtain⟨F,rfl,rfl,rfl,wF⟩:=open_int Tryz.underlying3 (hval 1 3 v1 rfl rfl) h1;have hlt2:∀x∈p2,x.block < W.heap.size:=fun x hx=>hW'.lt x (by simp[hx]);have hlt3:∀x∈p3,x.block < W.heap.size:=fun x hx=>hW'.lt x (by simp[hx]);obtain⟨ea,xa,ua,ra,va,la,rfl,hla,hda,hca⟩:=Qh (hval 2 31 v2 rfl rfl) h2 (fun b o hx=>hlt2 _ hx);obtain⟨eb,xb,ub,rb,vb,lb,rfl,hlb,hdb,hcb⟩:=Qh (hval 3 31 v3 rfl rfl) h3 (fun b o hx=>hlt3 _ hx);have htab:=YK hL;have hlen:=sized_string hsz (j:=0) (t:=9) (bytes:=s.data.toList) rfl rfl;have hl2:=OJ hsz (j:=2) rfl rfl hda;have hl3:=OJ hsz (j:=3) rfl rfl hdb;clear hA0 hval0;simp only[List.append_nil,List.nil_append] at hW';obtain⟨⟨t⟩⟩:=s;refine(Rn.QV t F ea xa ua ra eb xb ub rb va vb la lb W (by unfold reachBytes at hlen;simp at hlen;omega) htab hla hlb hl2 hl3).mono fun e W' ⟨he,hb⟩=> ?_;subst he;refine⟨_,rfl,_,_,_,[],_,[],hW',trodAll_mk1 (shut_bool Tryz.underlying4 _),trodAll_mk4 (shut_string Tryz.underlying9 hm) (shut_int Tryz.underlying3 wF) (WideElems.Trod_stays (P:=Tryz.prog) (by kernel_rfl) (by kernel_rfl) (of_decide_eq_true (by kernel_rfl)) h2 (fun x hx=> ?_) (fun x hx=> ?_)) (WideElems.Trod_stays (P:=Tryz.prog) (by kernel_rfl) (by kernel_rfl) (of_decide_eq_true (by kernel_rfl)) h3 (fun x hx=> ?_) (fun x hx=> ?_)),rfl,hb.frame _,fun h=>by cases h⟩
 ·obtain⟨xb,xo,rfl⟩:=hca x hx
  exact hb.cell (hlt2 _ hx)
 ·simpa using hlt2 x hx
 ·obtain⟨xb,xo,rfl⟩:=hcb x hx
  exact hb.cell (hlt3 _ hx)
 ·simpa using hlt3 x hx
theorem Nv:Rows.RunEndsSaid:=
 OpenClaim.holds_of_wide 4 Tryz.f4 rfl rfl rfl rfl rfl rfl rfl ⟨rfl,rfl,rfl,rfl,rfl⟩ rfl rfl rfl rfl rfl (by kernel_rfl) Tryz.func4 (by kernel_rfl)
  (of_decide_eq_true (by kernel_rfl)) (by unfold Func.isWrapper;first|(rw[if_pos (by decide+kernel)];kernel_rfl)|(rw[if_neg (by decide+kernel)];exact⟨rfl,rfl⟩))
  (fun os started H enc _=>M0 os started H enc)
end Go.Proofs.YthihjcannjhonaaGreatDoor
