/-
  A part of the proof.
-/
import Derived.Test.YtijhlanclfajiaaGreatDoorKiBK
import Derived.Test.YtijhlanclfajiaaGreatDoorKiBJ
set_option linter.all false
set_option maxHeartbeats 32000000
set_option maxRecDepth 100000
namespace Go.Proofs.YtijhlanclfajiaaGreatDoor
open Go.ChangeShapes Go.WideShapes Go.ChangeAt Go.ChangeMaps Go.WideMaps Go.WideElems Go.RowKit
theorem Jn(os:Os)(started:os.Started)(H:Type)(enc:TypeId×Value→H):
 ReturnsInHanded {} Tryz.checked os 3 .any (fun w args=>(Rows.checkRightsSpec.pre enc Tryz.prog Tryz.f3 [] false w args∧laidMetH Tryz.prog lz w)∧sizedMet enc Tryz.prog Tryz.f3 (OpenSpec.ofChange Rows.checkRightsSpec) false w args)
  (Rows.checkRightsSpec.post enc Tryz.prog Tryz.f3 false true false false):=by
 refine returnsInHanded_of_change_and (C:=Tryz.checked) (X:=fun w _=>laidMetH Tryz.prog lz w) (fun _ _ _ hh h=>h.of_heap hh) own started (by kernel_rfl) Tryz.func3
  (ChangeSpec.witness_shaped (enc:=enc) (C:=Tryz.checked) (os:=os) (X:=fun w _=>laidMetH Tryz.prog lz w) false (World.doorLaid Tryz.prog 86 os) #[.string ⟨#[]⟩,.slice none 0 0] 8 rfl (World.shaped_of_RefB (by kernel_rfl) (by kernel_rfl)) (by kernel_rfl) (by kernel_rfl) (by kernel_rfl) (XK os _)) ?_
 intro W base args ds gs before hval0 hW _ hsz0 hL _;have hval:∀(j:Nat) t v,Tryz.f3.params[j]? =some t→args[j]? =some v→Value.okWide Tryz.prog W .any base t v:=hval0;have hsz:(DataW.weightsEach Tryz.prog (Tryz.f3.params.toList++Rows.checkRightsSpec.plain.varTypes Tryz.prog) (ds++gs)).all (· ≤reachBytes)=true:=hsz0;have hW':=hW;obtain⟨p,q,hA0,hV,rfl,hfz,hnd⟩:=hW;have hA:DataW.TrodAll enc Tryz.prog W 0 (fun _=>true) true Tryz.f3.params.toList args.toList ds p:=hA0;rw[Tryz.params3] at hA hval hsz;obtain⟨v0,v1,d0,d1,p0,p1,rfl,rfl,rfl,h0,h1⟩:=trodAll_two hA;obtain⟨rfl,rfl⟩:=trodVars_none hV;obtain⟨s,rfl,rfl,rfl,hm⟩:=open_string Tryz.underlying9 (hval 0 9 v0 rfl rfl) h0;have hlt1:∀x∈p1,x.block < W.heap.size:=fun x hx=>hW'.lt x (by simp[hx]);obtain⟨bs,hbs,hok,hd,hcells⟩:=R5 (hval 1 22 v1 rfl rfl) h1 (fun b o hx=>hlt1 _ hx);have htab:=YI hL;have hlen:=sized_string hsz (j:=0) (t:=9) (bytes:=s.data.toList) rfl rfl;have hbl:bs.length≤1000000000000000:=by
  rcases hd with rfl|⟨es,rs,rfl,he⟩
  ·simp
  ·have:=sized_slice hsz (j:=1) (t:=22) (e:=92) (elems:=es) (spare:=rs) rfl rfl Tryz.underlying22
   rw[show Tryz.prog.bytesOf 92=40 by kernel_rfl] at this;unfold reachBytes at this;omega
 clear hA0 hval0;simp only[List.append_nil,List.nil_append] at hW';obtain⟨⟨l⟩⟩:=s;refine(MB l v1 bs W (by unfold reachBytes at hlen;simp at hlen;omega) htab hbs hok hbl).mono fun e W' ⟨he,hb⟩=> ?_;subst he;refine⟨_,rfl,_,_,_,[],_,[],hW',trodAll_mk1 (shut_bool Tryz.underlying4 _),trodAll_mk2 (shut_string Tryz.underlying9 hm) (WideElems.Trod_stays (P:=Tryz.prog) (by kernel_rfl) (by kernel_rfl) (of_decide_eq_true (by kernel_rfl)) h1 (fun x hx=> ?_) (fun x hx=> ?_)),rfl,hb.frame _,fun h=>by cases h⟩
 ·obtain⟨xb,xo,rfl⟩:=hcells x hx
  exact hb.cell (hlt1 _ hx)
 ·simpa using hlt1 x hx
theorem Kh:Rows.CheckRightsSaid:=
 OpenClaim.holds_of_wide 3 Tryz.f3 rfl rfl rfl rfl rfl rfl rfl ⟨rfl,rfl,rfl,rfl,rfl⟩ rfl rfl rfl rfl rfl (by kernel_rfl) Tryz.func3 (by kernel_rfl)
  (of_decide_eq_true (by kernel_rfl)) (by unfold Func.isWrapper;first|(rw[if_pos (by decide+kernel)];kernel_rfl)|(rw[if_neg (by decide+kernel)];exact⟨rfl,rfl⟩))
  (fun os started H enc _=>Jn os started H enc)
end Go.Proofs.YtijhlanclfajiaaGreatDoor
