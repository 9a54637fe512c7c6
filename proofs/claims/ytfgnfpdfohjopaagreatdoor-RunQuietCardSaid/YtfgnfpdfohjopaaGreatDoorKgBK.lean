/-
  A part of the proof.
-/
import Derived.Test.YtfgnfpdfohjopaaGreatDoorKgBB
import Derived.Lib.SmallJoins
import Derived.Test.YtfgnfpdfohjopaaGreatDoorKgBJ
set_option linter.all false
set_option maxHeartbeats 0
set_option maxRecDepth 100000
namespace Go.Proofs.YtfgnfpdfohjopaaGreatDoor
open Go.ChangeShapes Go.WideShapes Go.ChangeAt Go.ChangeMaps Go.WideMaps Go.WideElems Go.RowKit Go.Joins
theorem Jj{W:World}:∀(l:List (String×DataW Unit)) (ps:List MemPlace),DataW.LaidVars Tryz.prog W l ps→("internal/strconv.uint64pow10",(Lib.tabData .u64 Lib.pow10Tab:DataW Unit))∈l→TabP W
 |[],ps,h,hm=>by simp at hm
 |(n,d)::r,ps,h,hm=>by
   obtain⟨g,t,cs,fuel,p,q,hg,ht,hvar,hd,hr,_⟩:=h;rcases List.mem_cons.1 hm with e|hm
   ·injection e with e1 e2
    subst e1;subst e2;obtain rfl:=Option.some.inj (gPow.symm.trans hg);obtain rfl:=Option.some.inj ((show(Tryz.prog.globals[3]?).map (·.type)=some 241 by kernel_rfl).symm.trans ht);unfold TabP Lib.TabIs;rw[hvar,←Lib.cells_of_tab Tryz.underlying241 Tryz.underlying44 (by kernel_rfl) (by kernel_rfl) hd]
   ·exact Jj r q hr hm
theorem Vv{W:World}(h:laidMetH Tryz.prog lz W):TabP W:=by
 rw[MakeChecks.laidMetH_plain _ _ _ (by kernel_rfl)] at h;obtain⟨ps,hv,_⟩:=h;refine Jj lz ps hv ?_;have e:(Rows.laid_internal_strconv_uint64pow10:DataW Unit)=Lib.tabData .u64 Lib.pow10Tab:=by kernel_rfl
 unfold lz;rw[e];simp
section
variable {H:Type} {enc:TypeId×Value→H} {w:World} {spare:Nat→Bool} {held:Bool}
theorem UT{r:Reach}{b0:Nat}{v:Value}{d:DataW H}{p:List MemPlace}(hv:Value.okWide Tryz.prog w r b0 22 v)(h:DataW.Trod enc Tryz.prog w 0 spare held 22 v d p)(hlt:∀b o,MemPlace.cell b o∈p→b < w.heap.size):
 ∃l:List Int,Rn.Ints w v l∧(l=[]∨∃es rs,d= .slice es rs∧es.length=l.length)∧∀x∈p,∃xb xo,x= .cell xb xo:=by
 obtain⟨a0,len0,cap0,rfl⟩:=okWide_slice Tryz.underlying22 hv;obtain⟨fuel,hf⟩:=h;rcases open_ints Tryz.underlying22 Tryz.underlying2 (by kernel_rfl) hf with⟨hcs,hx⟩|⟨a,len,cap,zs,hcs,_,hl,_,hz,hx,hc,_⟩
 ·simp[Value.cells] at hcs
  obtain⟨rfl,rfl,rfl⟩:=hcs;simp only[Prod.mk.injEq] at hx;obtain⟨rfl,rfl⟩:=hx;exact⟨[],⟨Sl.nil _ _,none,0,rfl,AA⟩,.inl rfl,fun x hx=>(by cases hx)⟩
 ·simp[Value.cells] at hcs
  obtain⟨rfl,rfl,rfl⟩:=hcs;simp only[Prod.mk.injEq] at hx;obtain⟨rfl,rfl⟩:=hx;have hlm:len0≤zs.length:=by rw[hz];split <;>omega
  have hlen:(zs.take len0).length=len0:=by rw[List.length_take];omega
  refine⟨zs.take len0,⟨⟨some a,cap0,by rw[hlen],fun hn=> ?_⟩,some a,cap0,by rw[hlen],by rw[hlen];exact hl⟩,.inr ⟨_,_,rfl,by simp[lits]⟩,fun x hx=> ?_⟩
  ·rw[List.length_map,hlen] at hn
   obtain⟨xb,xo,spot⟩:=a;have h0:=hc 0 (by omega);have hspot:spot=none:=by simpa[Addr.add] using World.cell?_spot h0
   subst hspot;refine⟨xb,xo,rfl,hlt xb xo ?_,fun j hj=> ?_⟩
   ·simp only[MemPlace.row,List.mem_map,List.mem_range]
    exact⟨0,by omega,rfl⟩
   ·rw[List.length_map,hlen] at hj
    have:=hc j (by omega);rw[Addr.add_lit] at this;rw[this]
    simp[i64V,List.getD,AY (show j < zs.length by omega)]
  ·simp only[MemPlace.row,List.mem_map] at hx
   obtain⟨i,_,rfl⟩:=hx;exact⟨_,_,rfl⟩
end
theorem MH(os:Os)(started:os.Started)(H:Type)(enc:TypeId×Value→H):
 ReturnsInHanded {} Tryz.checked os 4 .any (fun w args=>(Rows.runQuietSpec.pre enc Tryz.prog Tryz.f4 [] false w args∧laidMetH Tryz.prog lz w)∧sizedMet enc Tryz.prog Tryz.f4 (OpenSpec.ofChange Rows.runQuietSpec) false w args)
  (Rows.runQuietSpec.post enc Tryz.prog Tryz.f4 false true false false):=by
 refine returnsInHanded_of_change_and (C:=Tryz.checked) (X:=fun w _=>laidMetH Tryz.prog lz w) (fun _ _ _ hh h=>h.of_heap hh) own started (by kernel_rfl) Tryz.func4
  (ChangeSpec.witness_shaped (enc:=enc) (C:=Tryz.checked) (os:=os) (X:=fun w _=>laidMetH Tryz.prog lz w) false (World.doorLaid Tryz.prog 86 os) #[.string ⟨#[]⟩,.slice none 0 0,.slice none 0 0,.int .u16 0] 8 rfl (World.shaped_of_RefB (by kernel_rfl) (by kernel_rfl)) (by kernel_rfl) (by kernel_rfl) (by kernel_rfl) (Wh os _)) ?_
 intro W base args ds gs before hval0 hW _ hsz0 hL _;have hval:∀(j:Nat) t v,Tryz.f4.params[j]? =some t→args[j]? =some v→Value.okWide Tryz.prog W .any base t v:=hval0;have hsz:(DataW.weightsEach Tryz.prog (Tryz.f4.params.toList++Rows.runQuietSpec.plain.varTypes Tryz.prog) (ds++gs)).all (· ≤reachBytes)=true:=hsz0;have hW':=hW;obtain⟨p,q,hA0,hV,rfl,hfz,hnd⟩:=hW;have hA:DataW.TrodAll enc Tryz.prog W 0 (fun _=>true) true Tryz.f4.params.toList args.toList ds p:=hA0;rw[Tryz.params4] at hA hval hsz;obtain⟨v0,v1,v2,v3,d0,d1,d2,d3,p0,p1,p2,p3,rfl,rfl,rfl,h0,h1,h2,h3⟩:=trodAll_four hA;obtain⟨rfl,rfl⟩:=trodVars_none hV;obtain⟨s,rfl,rfl,rfl,hm⟩:=open_string Tryz.underlying9 (hval 0 9 v0 rfl rfl) h0;have hlt1:∀x∈p1,x.block < W.heap.size:=fun x hx=>hW'.lt x (by simp[hx]);obtain⟨l,hl,hd,hcells⟩:=UT (hval 1 22 v1 rfl rfl) h1 (fun b o hx=>hlt1 _ hx);have hlt2:∀x∈p2,x.block < W.heap.size:=fun x hx=>hW'.lt x (by simp[hx]);obtain⟨lm,hlm,hdm,hcellsm⟩:=UT (hval 2 22 v2 rfl rfl) h2 (fun b o hx=>hlt2 _ hx);obtain⟨n,rfl,rfl,rfl,wn⟩:=open_int Tryz.underlying23 (hval 3 23 v3 rfl rfl) h3;have hn2:=bounds_u16 wn;obtain⟨n,rfl⟩:=Int.eq_ofNat_of_zero_le hn2.1;have htab:=Xb hL;have htabP:=Vv hL;have hlen:=sized_string hsz (j:=0) (t:=9) (bytes:=s.data.toList) rfl rfl;have hll:l.length≤1000000000000000∧lm.length≤1000000000000000:=by
  constructor
  ·rcases hd with rfl|⟨es,rs,rfl,he⟩
   ·simp
   ·have:=sized_slice hsz (j:=1) (t:=22) (e:=2) (elems:=es) (spare:=rs) rfl rfl Tryz.underlying22
    rw[show Tryz.prog.bytesOf 2=8 by kernel_rfl] at this;unfold reachBytes at this;omega
  ·rcases hdm with rfl|⟨es,rs,rfl,he⟩
   ·simp
   ·have:=sized_slice hsz (j:=2) (t:=22) (e:=2) (elems:=es) (spare:=rs) rfl rfl Tryz.underlying22
    rw[show Tryz.prog.bytesOf 2=8 by kernel_rfl] at this;unfold reachBytes at this;omega
 clear hA0 hval0;simp only[List.append_nil,List.nil_append] at hW';obtain⟨⟨t⟩⟩:=s;refine(Rn.Pd t v1 v2 l lm n W (by unfold reachBytes at hlen;simp at hlen;omega) htab htabP hl hll.1 hlm hll.2 (by omega)).mono fun e W' ⟨he,hb⟩=> ?_;subst he;refine⟨_,rfl,_,_,_,[],_,[],hW',trodAll_mk1 (shut_bool Tryz.underlying4 _),trodAll_mk4 (shut_string Tryz.underlying9 hm) (WideElems.Trod_stays (P:=Tryz.prog) (by kernel_rfl) (by kernel_rfl) (of_decide_eq_true (by kernel_rfl)) h1 (fun x hx=> ?_) (fun x hx=> ?_)) (WideElems.Trod_stays (P:=Tryz.prog) (by kernel_rfl) (by kernel_rfl) (of_decide_eq_true (by kernel_rfl)) h2 (fun x hx=> ?_) (fun x hx=> ?_)) (shut_int Tryz.underlying23 wn),rfl,hb.frame _,fun h=>by cases h⟩
 ·obtain⟨xb,xo,rfl⟩:=hcells x hx
  exact hb.cell (hlt1 _ hx)
 ·simpa using hlt1 x hx
 ·obtain⟨xb,xo,rfl⟩:=hcellsm x hx
  exact hb.cell (hlt2 _ hx)
 ·simpa using hlt2 x hx
theorem NE:Rows.RunQuietSaid:=
 OpenClaim.holds_of_wide 4 Tryz.f4 rfl rfl rfl rfl rfl rfl rfl ⟨rfl,rfl,rfl,rfl,rfl⟩ rfl rfl rfl rfl rfl (by kernel_rfl) Tryz.func4 (by kernel_rfl)
  (of_decide_eq_true (by kernel_rfl)) (by unfold Func.isWrapper;first|(rw[if_pos (by decide+kernel)];kernel_rfl)|(rw[if_neg (by decide+kernel)];exact⟨rfl,rfl⟩))
  (fun os started H enc _=>MH os started H enc)
end Go.Proofs.YtfgnfpdfohjopaaGreatDoor
