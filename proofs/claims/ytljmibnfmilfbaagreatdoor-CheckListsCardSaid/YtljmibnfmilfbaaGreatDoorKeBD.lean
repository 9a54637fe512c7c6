/-
  Part of the proof of CheckLists.
-/
import Derived.Test.YtljmibnfmilfbaaGreatDoorKeBC
import Derived.Test.YtljmibnfmilfbaaGreatDoorKeAT
set_option linter.all false
set_option maxHeartbeats 32000000
set_option maxRecDepth 100000
namespace Hg
theorem I8(σ:NmSt):EW σ []= .ok σ:=by rw[EW]
theorem Hf(σ:NmSt)(k:GT)(ks:List GT):EW σ (k::ks)=match (if k.nd.kind=4 then .error 0 else CJ σ k) with
 | .error e=> .error e
 | .ok σ1=>EW σ1 ks:=by rw[EW];rfl
theorem Bd.kid{σ σ':NmSt}{N:Nat}{k:GT}(h:Bd σ N)(hk:(if k.nd.kind=4 then .error 0 else CJ σ k)= .ok σ'):Bd σ' (N+2*k.subs.length):=by
 by_cases h4:k.nd.kind=4
 ·rw[if_pos h4] at hk
  cases hk
 ·rw[if_neg h4] at hk
  exact Kk _ _ (Nat.le_refl _) _ _ _ h hk
theorem V7:∀(ks:List GT) (σ σ':NmSt) (N:Nat),Bd σ N→EW σ ks= .ok σ'→Bd σ' (N+2*(GT.DF ks).length):=by
 intro ks
 induction ks with
 |nil=>
   intro σ σ' N hB hv;rw[I8] at hv;injection hv with hv;subst hv;exact hB.more (by omega)
 |cons k ks ih=>
   intro σ σ' N hB hv;rw[Hf] at hv;cases h1:(if k.nd.kind=4 then .error 0 else CJ σ k) with
   |error e=>rw[h1] at hv;cases hv
   |ok σ1=>
     rw[h1] at hv;have b2:=ih σ1 σ' _ (hB.kid h1) hv;rw[GT.BH,List.length_append];exact b2.more (by omega)
def NmSt.fresh(σ:NmSt):NmSt:={σ with used:=[],scope:=[[]]}
theorem J3(fs:Funs)(σ:NmSt)(mod:Str)(f:GT):IG fs σ mod f=match gl fs (mod,f.nd.name) with
 |some _=> .error 0
 |none=>match EW σ.fresh f.ks with
   | .error e=> .error e
   | .ok σ1=> .ok (((mod,f.nd.name),f.b)::fs,σ1):=by
 unfold IG gl;cases h:fs.find? (·.1==(mod,f.nd.name)) with
 |none=>rfl
 |some p=>rfl
theorem V8{fs fs':Funs}{σ σ':NmSt}{mod:Str}{f:GT}{N:Nat}(h:σ.calls.length≤N)(hr:IG fs σ mod f= .ok (fs',σ')):σ'.calls.length≤N+2*f.subs.length∧fs'.length=fs.length+1:=by
 rw[J3] at hr;cases hg:gl fs (mod,f.nd.name) with
 |some v=>rw[hg] at hr;cases hr
 |none=>
   rw[hg] at hr;dsimp only at hr;cases hk:EW σ.fresh f.ks with
   |error e=>rw[hk] at hr;cases hr
   |ok σ1=>
     rw[hk] at hr;injection hr with hr;injection hr with h1 h2;subst h1;subst h2;have hb:=(V7 f.ks σ.fresh _ (N+1) ⟨Nat.zero_le _,fun m hm=>by simp[NmSt.fresh] at hm;subst hm;simp,by simp[NmSt.fresh],by show σ.calls.length≤N+1;omega⟩ hk).ca;rw[GT.Aq f];exact⟨by simp;omega,rfl⟩
theorem Bd.fresh{σ:NmSt}{N:Nat}(h:σ.calls.length≤N):Bd σ.fresh (N+1):=
 ⟨Nat.zero_le _,fun m hm=>by simp[NmSt.fresh] at hm;subst hm;simp,by simp[NmSt.fresh],by show σ.calls.length≤N+1;omega⟩
end Hg
namespace Go.Proofs.YtljmibnfmilfbaaGreatDoor
open Go.RowKit
open Hg (GT gl Bd)
def funM(fs:Hg.Funs):List ((List UInt8×List UInt8)×Value):=fs.map fun p=>(p.1,ptrB p.2)
theorem Xv(fs:Hg.Funs)(x:List UInt8×List UInt8):gl (funM fs) x=(gl fs x).map ptrB:=Hg.Rh ptrB fs x
structure NB (l:List GT) (nb:Nat) (Z:Nat→Prop) (B:Nat) (ids:Nat→Nat) (av:Value) (next:Nat) (fb:Nat) (mv:Value) (cv:Value) (ρ:Nat→Nat) (σ:Hg.NmSt) (fs:Hg.Funs) (w:World):Prop where
 nm:∃uv sv,NmAt w nb av next (.map (some fb)) mv cv uv sv
 fm:FMap w fb (funM fs)
 fl:fb < B
 cs:w.ownsRow B 83 1 cv σ.calls.length (σ.calls.map ptrV)
 node:∀s∈l,DJ w ids ρ nilK Z s
 ref:∀b,ρ b=((gl σ.refs b).map ids).getD 0
 kin:∀c∈σ.calls,c∈l
 fin:∀p∈fs,∃s∈l,s.b=p.2
 sz:B≤w.heap.size
section
variable {l:List GT} {nb:Nat} {Z:Nat→Prop} {B:Nat} {ids:Nat→Nat} {av:Value} {next:Nat} {fb:Nat} {mv:Value} {cv:Value} {ρ:Nat→Nat} {σ:Hg.NmSt} {fs:Hg.Funs} {w w':World}
theorem NB.Ox(h:NB l nb Z B ids av next fb mv cv ρ σ fs w){q:Nat}{es:Array MapEntry}{ck:Nat}(hh:w.heap[q]? =some (.map es ck)):nb≠q∧∀s∈l,s.b≠q:=by
 refine⟨fun e=> ?_,fun s hs e=> ?_⟩
 ·obtain⟨uv,sv,h1⟩:=h.nm
  have h1:w.heap[nb]? =_:=h1;rw[e,hh] at h1;cases h1
 ·obtain⟨a,c,h1,_⟩:=(h.node s hs).open_
  rw[e,hh] at h1;cases h1
theorem NB.fne(h:NB l nb Z B ids av next fb mv cv ρ σ fs w):¬NOwn l nb B fb:=by
 obtain⟨es,ck,hm⟩:=h.fm.obj;obtain⟨h1,h2⟩:=h.Ox hm;have:=h.fl;rintro((e|⟨s,hs,e⟩)|e)
 ·exact h1 e.symm
 ·exact h2 s hs e.symm
 ·omega
theorem NB.below(h:NB l nb Z B ids av next fb mv cv ρ σ fs w)(hb:Below w.heap.size w w'):NB l nb Z B ids av next fb mv cv ρ σ fs w':=by
 have hg:=AJ hb none;have hor:∀v:Value,v.ownBlock=none∨v.ownBlock≠none:=fun v=>by cases v.ownBlock <;>simp
 obtain⟨uv,sv,hn⟩:=h.nm;exact⟨⟨uv,sv,(hb.block nb hn.lt).trans hn⟩,h.fm.keep (hb.block fb h.fm.lt),h.fl,h.cs.kept hg (hor cv),fun s hs=>(h.node s hs).frr (D:=fun _=>False) (Fr.Cn hg (fun q e=>by cases e)) (fun e=>e) (fun q _ e=>e),h.ref,h.kin,h.fin,Nat.le_trans h.sz hb.size⟩
theorem NB.drew(h:NB l nb Z B ids av next fb mv cv ρ σ fs w):NB l nb Z B ids av next fb mv cv ρ σ fs w.drew:=h.below ((Below.refl _ _).drew)
theorem NB.put(h:NB l nb Z B ids av next fb mv cv ρ σ fs w)(hL:Low l nb Z B)(hA:Amb l nb Z)(hZf:¬Z fb){x:List UInt8×List UInt8}{t:GT}(ht:t∈l)(hg:w.grownBy w' (some fb))(hu:FMap w' fb (funM ((x,t.b)::fs))):NB l nb Z B ids av next fb mv cv ρ σ ((x,t.b)::fs) w':=by
 obtain⟨es,ck,hm⟩:=h.fm.obj;obtain⟨hn,hb⟩:=h.Ox hm;obtain⟨uv,sv,hnm⟩:=h.nm;refine⟨⟨uv,sv,(hg.block nb hnm.lt (fun e=>by injection e with e;exact hn e)).trans hnm⟩,hu,h.fl,h.cs.kept hg (Di h.cs hm),fun s hs=> ?_,h.ref,h.kin,fun p hp=> ?_,Nat.le_trans h.sz hg.size⟩
 ·exact(h.node s hs).frr (D:=fun q=>q=fb) (Fr.Cn hg (fun q e=>by injection e with e;exact e.symm)) (hb s hs) (fun q hz e=>hZf (e ▸ hz))
 ·rcases List.mem_cons.1 hp with e|e
  ·subst e;exact⟨t,ht,rfl⟩
  ·exact h.fin p e
theorem NS.done{ub:Nat}{sv:Value}{qs:List Nat}(h:NS l nb Z B ids av next (.map (some fb)) mv ub cv sv qs ρ σ w)(hf:FMap w fb (funM fs))(hl:fb < B)(hi:∀p∈fs,∃s∈l,s.b=p.2):NB l nb Z B ids av next fb mv cv ρ σ fs w:=
 ⟨⟨_,_,h.nm⟩,hf,hl,h.cs,h.node,h.ref,h.kin,hi,h.size⟩
def begun(w:World)(nb:Nat):World:=((((w.setCell ⟨nb,5,none⟩ (.map (some w.heap.size))).setCell ⟨nb,6,none⟩ (.slice (some ⟨w.heap.size+1+1,0,none⟩) 1 1)).alloc (.map #[] 0)).alloc (.map #[] 0)).alloc (.cells #[.map (some (w.heap.size+1))] 157)
theorem NB.start(h:NB l nb Z B ids av next fb mv cv ρ σ fs w)(hL:Low l nb Z B)(hA:Amb l nb Z):
 NS l nb Z B ids av next (.map (some fb)) mv w.heap.size cv (.slice (some ⟨w.heap.size+1+1,0,none⟩) 1 1) [w.heap.size+1] ρ σ.fresh (begun w nb)∧Fr (fun q=>q=nb) w (begun w nb):=by
 have hnB:=hL.nb;have hsz:=h.sz;obtain⟨uv,sv,hnm⟩:=h.nm;have hn1:((w.setCell ⟨nb,5,none⟩ (.map (some w.heap.size))).setCell ⟨nb,6,none⟩ (.slice (some ⟨w.heap.size+1+1,0,none⟩) 1 1)).heap[nb]? =some (.cells (Du av next (.map (some fb)) mv cv (.map (some w.heap.size)) (.slice (some ⟨w.heap.size+1+1,0,none⟩) 1 1)) 91 (0,0)):=by
  have h5:(w.setCell ⟨nb,5,none⟩ (.map (some w.heap.size))).heap[nb]? =some (.cells (Du av next (.map (some fb)) mv cv (.map (some w.heap.size)) sv) 91 (0,0)):=heap_setCell_same hnm _;exact heap_setCell_same h5 _
 have hf1:Fr (fun q=>q=nb) w ((w.setCell ⟨nb,5,none⟩ (.map (some w.heap.size))).setCell ⟨nb,6,none⟩ (.slice (some ⟨w.heap.size+1+1,0,none⟩) 1 1)):=((Fr.refl (fun q=>q=nb) w).set (p:=⟨nb,5,none⟩) (.inl rfl) _).set (p:=⟨nb,6,none⟩) (.inl rfl) _;have hz1:((w.setCell ⟨nb,5,none⟩ (.map (some w.heap.size))).setCell ⟨nb,6,none⟩ (.slice (some ⟨w.heap.size+1+1,0,none⟩) 1 1)).heap.size=w.heap.size:=by simp
 unfold begun;generalize World.setCell (World.setCell w _ _) _ _=WS at hn1 hf1 hz1⊢;have hb3:Below WS.heap.size WS (((WS.alloc (.map #[] 0)).alloc (.map #[] 0)).alloc (.cells #[.map (some (w.heap.size+1))] 157)):=(((Below.refl _ _).alloc (Nat.le_refl _) _).alloc (by simp) _).alloc (by simp;omega) _;have hf:Fr (fun q=>q=nb) w (((WS.alloc (.map #[] 0)).alloc (.map #[] 0)).alloc (.cells #[.map (some (w.heap.size+1))] 157)):=((hf1.alloc _).alloc _).alloc _;have hm1:SMap (((WS.alloc (.map #[] 0)).alloc (.map #[] 0)).alloc (.cells #[.map (some (w.heap.size+1))] 157)) w.heap.size []:=by
  have:=XMap.made 9 strV WS;rw[hz1] at this;exact(this.keep (heap_alloc_old _ _ (by simp;omega))).keep (heap_alloc_old _ _ (by simp;omega))
 have hm2:SMap (((WS.alloc (.map #[] 0)).alloc (.map #[] 0)).alloc (.cells #[.map (some (w.heap.size+1))] 157)) (w.heap.size+1) []:=by
  have:=XMap.made 9 strV (WS.alloc (.map #[] 0));rw[show(WS.alloc (.map #[] 0)).heap.size=w.heap.size+1 by simp[hz1]] at this;exact this.keep (heap_alloc_old _ _ (by simp;omega))
 have hnew:(((WS.alloc (.map #[] 0)).alloc (.map #[] 0)).alloc (.cells #[.map (some (w.heap.size+1))] 157)).heap[w.heap.size+1+1]? =some (.cells #[.map (some (w.heap.size+1))] 157 (0,0)):=by
  have:=heap_alloc_new ((WS.alloc (.map #[] 0)).alloc (.map #[] 0)) (.cells #[.map (some (w.heap.size+1))] 157);simpa[hz1] using this
 refine⟨⟨(hb3.block nb (show nb < WS.heap.size by have:=hnm.lt;omega)).trans hn1,hm1,hsz, ?_,⟨rfl,.inr ⟨w.heap.size+1+1,1,#[.map (some (w.heap.size+1))],rfl,by omega,hnew,Nat.le_refl _,by unfold maxLen;omega,rfl,rfl⟩⟩,⟨hm2,by omega,by omega,by simp,trivial⟩,fun s hs=>(h.node s hs).frr hf (hA.ne s hs) (fun q hz e=>hA.nbz (e ▸ hz)),fun m hm p hp=> ?_,h.ref,h.kin⟩,hf⟩
 ·exact Aa h.cs hf (fun q e e'=>by have:=(h.cs.lt q e).1;omega)
 ·simp[Hg.NmSt.fresh] at hm
  subst hm;simp at hp
end
theorem Ua(l:List GT)(nb:Nat)(Z:Nat→Prop)(B:Nat)(hL:Low l nb Z B)(hA:Amb l nb Z)(ids:Nat→Nat)(av:Value)(next:Nat)(fb:Nat)(hZf:¬Z fb)(mv:Value)(hlen:∀s∈l,s.nd.name.length≤1000000∧s.tt.length≤1000000)
 (mod:List UInt8) (hm:mod.length≤1000000) (f:GT) (hfl:f∈l) (cv:Value) (ρ:Nat→Nat) (σ:Hg.NmSt) (fs:Hg.Funs) (N:Nat) (w:World) (h0:Hg.IG fs σ mod f≠ .error 0) (hB:σ.calls.length≤N) (hN:N+2*f.subs.length+2≤1000000) (hfs:fs.length≤1000000) (hS:NB l nb Z B ids av next fb mv cv ρ σ fs w):
 Calls Tryz.prog 71 #[.pointer (some ⟨nb,0,none⟩),strV mod,ptrV f] w fun e w'=>Fr (fun q=>NOwn l nb B q∨q=fb) w w'∧match Hg.IG fs σ mod f with
  | .ok (fs',σ')=>e= .returned (.int .i64 0)∧∃cv ρ,NB l nb Z B ids av next fb mv cv ρ σ' fs' w'
  | .error k=>e= .returned (.int .i64 (EF k:Int)):=by
 have hzp:∀W:World,(zeroValue 83).run Tryz.prog W= .ok (.pointer none) W:=fun W=>by kernel_rfl
 have hkey:=RZ mod f.nd.name hm (hlen f hfl).1;obtain⟨uv,sv,hnm⟩:=hS.nm;have HS:=zz hS;have HA:=zz hA;have HLW:=zz hL;have HFL:=zz hfl;have HLEN:=zz hlen;have HN:=zz (And.intro hB (And.intro hN hfs));obtain⟨a,c,hh,-,-⟩:=(hS.node f hfl).open_;have c1:=cell_of_row w f.b 1 _ _ (0,0) hh;have c2:=cell_of_row w nb 2 _ _ (0,0) hnm;simp at c1 c2;have hnl:=hnm.lt;have hmm:= @run_makeMap Tryz.prog;generalize hr:Hg.IG fs σ mod f=r at h0⊢;rw[Hg.J3] at hr;have H0:=zz h0;have HR:=zz hr;clear hS hL hA hfl hlen hB hN hfs hh h0 hr;go_enter Tryz.func71,Tryz.ntmps71;go_wp2;have hbA:Below w.heap.size w (w.alloc (.cells #[strV mod,strV f.nd.name] 131)):=(Below.refl _ _).alloc (Nat.le_refl _) _;have hkA:=heap_alloc_new w (.cells #[strV mod,strV f.nd.name] 131);have HFR:=zz ((Fr.refl (fun q=>NOwn l nb B q∨q=fb) w).alloc (.cells #[strV mod,strV f.nd.name] 131));have hSA:=HS.out.below hbA;have c2:(w.alloc (.cells #[strV mod,strV f.nd.name] 131)).cell? ⟨nb,2,none⟩=some (.map (some fb)):=(hbA.cell hnl).trans c2;generalize World.alloc w _=WA at hbA hkA HFR hSA c2⊢;have k0:=cell_of_row WA w.heap.size 0 _ _ (0,0) hkA;have k1:=cell_of_row WA w.heap.size 1 _ _ (0,0) hkA;simp at k0 k1;have hlkA:=(hSA.fm.keep (w':=WA.drew) rfl).look (x:=(mod,f.nd.name)) (t:=86) Mr Tryz.underlying86 (hzp _) hkey;rw[Xv] at hlkA;have HSA:=zz hSA;clear hSA hbA hnm hkA c1;generalize w.heap.size=kb at k0 k1⊢;cases hg:gl fs (mod,f.nd.name) with
 |some v=>
   rw[hg] at HR;exact absurd HR.out.symm H0.out
 |none=>
   rw[hg] at hlkA HR;replace hlkA:(Instr.lookup 86 (.map (some fb)) (.agg #[strV mod,strV f.nd.name]) false).run Tryz.prog WA.drew= .ok (.pointer none) WA.drew:=hlkA;have hHeld:(fun w'=>w'.cell? ⟨nb,2,none⟩=some (.map (some fb))∧w'.cell? ⟨kb,0,none⟩=some (strV mod)∧w'.cell? ⟨kb,1,none⟩=some (strV f.nd.name)∧(Instr.lookup 86 (.map (some fb)) (.agg #[strV mod,strV f.nd.name]) false).run Tryz.prog w'= .ok (.pointer none) w') WA.drew:=⟨c2,k0,k1,hlkA⟩;refine AR (fun w'=>w'.cell? ⟨nb,2,none⟩=some (.map (some fb))∧w'.cell? ⟨kb,0,none⟩=some (strV mod)∧w'.cell? ⟨kb,1,none⟩=some (strV f.nd.name)∧(Instr.lookup 86 (.map (some fb)) (.agg #[strV mod,strV f.nd.name]) false).run Tryz.prog w'= .ok (.pointer none) w') 6 (by kernel_rfl) ?_;refine tz 0 _ _ _ ?_;refine tz 1 _ _ _ ?_;refine tz 2 _ _ _ ?_;refine tz 3 _ _ _ ?_;refine tz 4 _ _ _ ?_;refine tz 5 _ _ _ ?_;refine AL (by kernel_rfl) ?_;simp only[List.drop_succ_cons,List.drop_zero];clear hHeld hlkA;have hHeld:(fun w'=>w'.cell? ⟨nb,2,none⟩=some (.map (some fb))∧w'.cell? ⟨kb,0,none⟩=some (strV mod)∧w'.cell? ⟨kb,1,none⟩=some (strV f.nd.name)) WA.drew.drew:=⟨c2,k0,k1⟩;go_wp2;refine AR (fun w'=>w'.cell? ⟨nb,2,none⟩=some (.map (some fb))∧w'.cell? ⟨kb,0,none⟩=some (strV mod)∧w'.cell? ⟨kb,1,none⟩=some (strV f.nd.name)) 6 (by kernel_rfl) ?_;refine tz 0 _ _ _ ?_;refine tz 1 _ _ _ ?_;refine tz 2 _ _ _ ?_;refine tz 3 _ _ _ ?_;refine tz 4 _ _ _ ?_;refine tz 5 _ _ _ ?_;refine AL (by kernel_rfl) ?_;simp only[List.drop_succ_cons,List.drop_zero];obtain⟨W2,hrun2,hF2,hg2⟩:=(HSA.out.fm.keep (w':=WA.drew.drew) rfl).put (t:=86) Mr Tryz.underlying86 Uw (by have:=HN.out.2.2;unfold funM;simpa using this) (mod,f.nd.name) hkey (ptrV f);replace hrun2:(Instr.mapUpdate 86 (.map (some fb)) (.agg #[strV mod,strV f.nd.name]) (ptrV f)).run Tryz.prog WA.drew.drew= .ok () W2:=hrun2;have hS2:=HSA.out.drew.drew.put (x:=(mod,f.nd.name)) (t:=f) HLW.out HA.out hZf HFL.out hg2 hF2;have HFR2:=zz (HFR.out.drew.drew.step hg2 (fun q e=> .inl (.inr (by injection e with e;exact e.symm))));obtain⟨hS3,hfr3⟩:=hS2.start HLW.out HA.out;obtain⟨uv2,sv2,hnm2⟩:=hS2.nm;have c5:=cell_of_row W2 nb 5 _ _ (0,0) hnm2;have c6:=cell_of_row W2 nb 6 _ _ (0,0) hnm2;have f6:∀i,W2.frozen? ⟨nb,i,none⟩=false:=fun i=>by simp[World.frozen?,show W2.heap[nb]? =_ from hnm2]
   simp at c5 c6;have hnb2:nb < W2.heap.size:=hnm2.lt;have hnx:¬nb=W2.heap.size+1+1:=by omega
   have hnb3:nb < W2.heap.size+1:=by omega
   have hnb4:nb < W2.heap.size+1+1:=by omega
   obtain⟨a2,cc2,hh2,hs2,hq2⟩:=(hS2.node f HFL.out).open_;have c8:=cell_of_row W2 f.b 8 _ _ (0,0) hh2;simp at c8;have hfb2:f.b < W2.heap.size:=(Array.getElem?_eq_some_iff.1 hh2).1;have hfb3:f.b < W2.heap.size+1:=by omega
   have hfb4:f.b < W2.heap.size+1+1:=by omega
   have hne:¬nb=f.b:=fun e=>HA.out.ne f HFL.out e.symm;have HS3:=zz hS3;have hz3:W2.heap.size≤(begun W2 nb).heap.size:=hfr3.size;have HFR3:=zz (HFR2.out.DU (D:=fun q=>NOwn l nb B q∨q=fb) hfr3 (fun q _ e=> .inl (.inl (.inl e))));have HF3:=zz (show FMap (begun W2 nb) fb (funM (((mod,f.nd.name),f.b)::fs)) from hF2.fr hfr3 (fun e=>hS2.fne (.inl (.inl e))));have HFN:=zz (And.intro hS2.fne (And.intro hS2.fl hS2.fin));have HB3:=zz (Bd.fresh HN.out.1);have HRL:=zz (show Hg.EW σ.fresh f.ks≠ .error 0 from fun e=>H0.out (by rw[←HR.out,e]));have HSL:=zz (show Sl (begun W2 nb) (begun W2 nb).heap.size (.slice a2 f.ks.length cc2) f.ks.length (f.ks.map ptrV) from(hs2.fr (Nat.le_refl _) hfr3 (fun q e e'=>HA.out.nbz (e' ▸ hq2 q e))).more hfr3.size);have HQ:=zz (show∀q,(Value.slice a2 f.ks.length cc2).ownBlock=some q→¬NOwn l nb B q from fun q e e'=>by
    have hz:=hq2 q e;rcases e' with(e'|⟨s,hs,e'⟩)|e'
    ·exact HA.out.nbz (e' ▸ hz)
    ·exact HA.out.nz s hs (e' ▸ hz)
    ·have:=HLW.out.z q hz;omega)
   unfold begun at HS3 HFR3 HF3 HSL;clear hHeld k0 k1 c2 hS2 hS3 hfr3 hF2 hg2 hnm2 hh2 hs2 hq2 HFR HFR2 HSA HS;go_wp2;generalize World.alloc (World.alloc (World.alloc _ _) _) _=w1 at HS3 HFR3 HF3 HSL⊢;have hkl:f.ks.length≤1000000:=by
    have h1:=GT.Jd f.ks;have h2:f.subs.length=(GT.AP f.ks).length+1:=by rw[GT.Aq,GT.Bf];rfl
    have h3:=HN.out.2.1;omega
   generalize W2.heap.size=ub at HS3⊢;have hqs:True:=trivial;clear c5 c6 f6 hnb2 hnx hnb3 hnb4 hfb2 hfb3 hfb4 hne hrun2 hmm
   go_loopw [45] (fun p wr=>∃(j:Nat) (cvj svj:Value) (ρj:Nat→Nat) (σj:Hg.NmSt),p= .int .i64 (j:Int)∧j≤f.ks.length∧NS l nb Z B ids av next (.map (some fb)) mv ub cvj svj [ub+1] ρj σj wr∧Bd σj (N+1+2*(GT.AP (f.ks.take j)).length)∧Fr (NOwn l nb B) w1 wr∧Hg.EW σj (f.ks.drop j)=Hg.EW σ.fresh f.ks) (fun p wr=>f.ks.length-(intOf p).toNat)
   case atStart=>exact⟨0,_,_,_,_,rfl,Nat.zero_le _,HS3.out,by simpa[GT.AP,GT.BQ] using HB3.out,Fr.refl _ _,rfl⟩
   case round=>
    obtain⟨j,cvj,svj,ρj,σj,rfl,hj,hSj,hBj,hFj,hvj⟩:=hrel;have HFJ:=zz hFj;have HBJ:=zz hBj;by_cases hlt:j < f.ks.length
    ·obtain⟨b,o,rfl,_,kc⟩:=(HSL.out.fr (Nat.le_refl _) hFj HQ.out).mapAt hlt
     have hkm:f.ks[j]∈f.ks:=List.getElem_mem hlt;have hk:f.ks[j]∈l:=HA.out.kids f HFL.out _ hkm;have hsz:(GT.AP (f.ks.take (j+1))).length=(GT.AP (f.ks.take j)).length+f.ks[j].subs.length:=by rw[GT.CV hlt,List.length_append,GT.DN]
     have hsz2:=GT.CY f.ks (j+1);have hlenk:f.subs.length=(GT.AP f.ks).length+1:=by rw[GT.Aq,GT.Bf];rfl
     rw[List.drop_eq_getElem_cons hlt,Hg.Hf] at hvj;have hnn:=HN.out.2.1;have hsl1:1≤f.ks[j].subs.length:=by rw[GT.Aq];simp
     have h0k:(if f.ks[j].nd.kind=4 then .error 0 else Hg.CJ σj f.ks[j])≠ .error 0:=fun e=>by rw[e] at hvj;exact HRL.out hvj.symm
     have h4:¬f.ks[j].nd.kind=4:=fun e=>h0k (if_pos e);rw[if_neg h4] at h0k;have TI:=zz (Tj l nb Z B HLW.out HA.out ids av next (.map (some fb)) mv ub HLEN.out _ _ hk (Nat.le_refl _) cvj svj [ub+1] ρj σj _ wr h0k hBj (by omega) hSj);obtain⟨ak,ck,hhk,-,-⟩:=(hSj.node _ hk).open_;have c0:=cell_of_row wr f.ks[j].b 0 _ _ (0,0) hhk;simp at c0;have HVJ:=zz hvj;have HSZ:=zz hsz;clear hkm hk hsz hsz2 h0k hSj hBj hFj hvj hhk hnn hsl1 hlenk;have q4:((f.ks[j].nd.kind:Int)==4)=false:=by simpa using(show¬(f.ks[j].nd.kind:Int)=4 by omega)
     simp only[if_neg h4] at HVJ;have HBK:=zz (fun(σ':Hg.NmSt) (e:(if f.ks[j].nd.kind=4 then .error 0 else Hg.CJ σj f.ks[j])= .ok σ')=>HBJ.out.kid e);simp only[if_neg h4] at HBK;clear h4;go_wp2_with fail;refine TI.out.mono ?_;rintro e w3 ⟨hF3,hres⟩;have HF3:=zz (HFJ.out.trans hF3);have hvj:=HVJ.out;cases hrk:Hg.CJ σj f.ks[j] with
     |error ek=>
       rw[hrk] at hres hvj;replace hres:e= .returned (.int .i64 (EF ek:Int)):=hres;subst hres;have hre:r= .error ek:=by rw[←HR.out,←hvj]
       have hq:((EF ek:Int) !=0)=true:=by unfold EF;split <;>rfl
       have HFW:=zz (HFR3.out.DU (D:=fun q=>NOwn l nb B q∨q=fb) HF3.out (fun q _ e=> .inl e));subst hre;clear TI HVJ hF3 hvj hrk HBK;go_wp2;go_ret;exact⟨HFW.out,rfl⟩
     |ok σ'=>
       rw[hrk] at hres hvj;obtain⟨rfl,cv',sv',ρ',hS'⟩:=hres;have HS':=zz hS';have HVK:=zz hvj;have HBK2:=zz (HBK.out σ' hrk);clear TI HVJ hF3 hS' hvj hrk HBK;go_wp2;go_roundw
       case rel=>exact⟨j+1,cv',sv',ρ',σ',by go_num,by omega,HS'.out,by rw[HSZ.out];exact HBK2.out.more (by omega),HF3.out,HVK.out⟩
       case measure=>simp[intOf];omega
    ·obtain rfl:j=f.ks.length:=by omega
     rw[List.drop_length,Hg.I8] at hvj;have hre:r= .ok (((mod,f.nd.name),f.b)::fs,σj):=by rw[←HR.out,←hvj]
     have HDN:=zz (show NB l nb Z B ids av next fb mv cvj ρj σj (((mod,f.nd.name),f.b)::fs) wr from hSj.done (HF3.out.fr hFj HFN.out.1) HFN.out.2.1 (fun p hp=>by
      rcases List.mem_cons.1 hp with e|e
      ·subst e;exact⟨f,HFL.out,rfl⟩
      ·exact HFN.out.2.2 p (by simp[e])))
     have HFW:=zz (HFR3.out.DU (D:=fun q=>NOwn l nb B q∨q=fb) hFj (fun q _ e=> .inl e));subst hre;clear hSj hBj hFj hvj;go_wp2;go_ret;exact⟨HFW.out,rfl,_,_,HDN.out⟩
end Go.Proofs.YtljmibnfmilfbaaGreatDoor
namespace Hg
theorem GT.Oy(f:Nat→Nat):∀l:List GT,GT.mapL f l=l.map (GT.map f)
 |[]=>by rw[GT.mapL];rfl
 |t::l=>by rw[GT.mapL,GT.Oy f l];rfl
theorem GT.WC(f:Nat→Nat)(t:GT):(t.map f).b=f t.b:=by cases t;rw[GT.map];rfl
theorem GT.Jc(f:Nat→Nat)(t:GT):(t.map f).nd=t.nd:=by cases t;rw[GT.map];rfl
theorem GT.YT(f:Nat→Nat)(t:GT):(t.map f).md=t.md:=by cases t;rw[GT.map];rfl
theorem GT.YS(f:Nat→Nat)(t:GT):(t.map f).tt=t.tt:=by cases t;rw[GT.map];rfl
theorem GT.Kn(f:Nat→Nat)(t:GT):(t.map f).ks=t.ks.map (GT.map f):=by cases t;rw[GT.map,←GT.Oy];rfl
abbrev lvlF(f:Nat→Nat)(m:List (Str×Nat)):List (Str×Nat):=m.map fun p=>(p.1,f p.2)
def NmSt.mapS(f:Nat→Nat)(σ:NmSt):NmSt:=⟨σ.used,σ.scope.map (lvlF f),σ.refs.map (fun p=>(f p.1,f p.2)),σ.calls.map (GT.map f)⟩
theorem Ug(f:Nat→Nat)(σ:NmSt)(t:GT):IY (σ.mapS f) (t.map f)=(IY σ t).map (NmSt.mapS f):=by
 unfold IY;rw[GT.Jc];by_cases k1:t.nd.kind=7∨t.nd.kind=15∨t.nd.kind=19∨t.nd.kind=6
 ·rw[if_pos k1,if_pos k1];rfl
 rw[if_neg k1,if_neg k1];by_cases k3:t.nd.kind=5
 ·rw[if_pos k3,if_pos k3];simp[NmSt.mapS,Except.map,lvlF]
 rw[if_neg k3,if_neg k3];rfl
theorem Uf(f:Nat→Nat)(σ:NmSt)(t:GT):IE (σ.mapS f) (t.map f)=(IE σ t).map (NmSt.mapS f):=by
 unfold IE;rw[GT.Jc];by_cases k1:t.nd.kind=5
 ·rw[if_pos k1,if_pos k1];simp[NmSt.mapS,Except.map,List.map_drop]
 rw[if_neg k1,if_neg k1];rfl
theorem RV(f:Nat→Nat):∀n t,t.subs.length≤n→∀σ,CJ (σ.mapS f) (t.map f)=(CJ σ t).map (NmSt.mapS f):=by
 intro n
 induction n with
 |zero=>intro t h;rw[GT.Aq] at h;simp at h
 |succ n ih=>
   intro t ht σ;have key:∀(ks:List GT),(∀k∈ks,k.subs.length≤n)→∀σ,CF (σ.mapS f) (ks.map (GT.map f))=(CF σ ks).map (NmSt.mapS f):=by
    intro ks
    induction ks with
    |nil=>intro _ σ;rw[List.map_nil,Eu,Eu];rfl
    |cons k ks ihk=>
      intro hk σ;rw[List.map_cons,EM,EM,ih k (hk k (by simp))];cases CJ σ k with
      |error e=>rfl
      |ok σ1=>exact ihk (fun x hx=>hk x (by simp[hx])) σ1
   rw[I7,I7,Ug,GT.Kn];cases IY σ t with
   |error e=>rfl
   |ok σ1=>
     show(match CF (σ1.mapS f) (t.ks.map (GT.map f)) with| .error e=>Except.error e| .ok σ2=>IE σ2 (t.map f))=_;rw[key t.ks (fun k hk=>by have:=GT.F6 hk;omega)];show _=Except.map (NmSt.mapS f) (match CF σ1 t.ks with| .error e=>Except.error e| .ok σ2=>IE σ2 t);cases CF σ1 t.ks with
     |error e=>rfl
     |ok σ2=>exact Uf f σ2 t
theorem Nr(f:Nat→Nat):∀(ks:List GT) (σ:NmSt),EW (σ.mapS f) (ks.map (GT.map f))=(EW σ ks).map (NmSt.mapS f)
 |[],σ=>by rw[List.map_nil,I8,I8];rfl
 |k::ks,σ=>by
   rw[List.map_cons,Hf,Hf,GT.Jc,RV f _ k (Nat.le_refl _)];have e:(if k.nd.kind=4 then .error 0 else(CJ σ k).map (NmSt.mapS f))=(if k.nd.kind=4 then .error 0 else CJ σ k).map (NmSt.mapS f):=by split <;>rfl
   rw[e];cases(if k.nd.kind=4 then .error 0 else CJ σ k) with
   |error e=>rfl
   |ok σ1=>exact Nr f ks σ1
abbrev funF(f:Nat→Nat)(fs:Funs):Funs:=fs.map fun p=>(p.1,f p.2)
def TU(f:Nat→Nat)(p:Funs×NmSt):Funs×NmSt:=(funF f p.1,p.2.mapS f)
theorem Uh(f:Nat→Nat)(fs:Funs)(σ:NmSt)(mod:Str)(t:GT):IG (funF f fs) (σ.mapS f) mod (t.map f)=(IG fs σ mod t).map (TU f):=by
 rw[J3,J3,GT.Jc,GT.WC,GT.Kn,show gl (funF f fs) (mod,t.nd.name)=(gl fs (mod,t.nd.name)).map f from Rh f fs _];cases gl fs (mod,t.nd.name) with
 |some v=>rfl
 |none=>
   show(match EW (σ.mapS f).fresh (t.ks.map (GT.map f)) with| .error e=>Except.error e| .ok σ1=>_)=Except.map (TU f) (match EW σ.fresh t.ks with| .error e=>Except.error e| .ok σ1=>_);rw[show(σ.mapS f).fresh=σ.fresh.mapS f from rfl,Nr];cases EW σ.fresh t.ks with
   |error e=>rfl
   |ok σ1=>rfl
theorem MO(f:Nat→Nat)(mod:Str):∀(l:List GT) (fs:Funs) (σ:NmSt),Fy (funF f fs) (σ.mapS f) mod (l.map (GT.map f))=(Fy fs σ mod l).map (TU f)
 |[],fs,σ=>rfl
 |t::l,fs,σ=>by
   rw[List.map_cons,Fy,Fy,Uh];cases IG fs σ mod t with
   |error e=>rfl
   |ok p=>exact MO f mod l p.1 p.2
theorem Nq(f:Nat→Nat):∀(l:List GT) (ms:List Str) (fs:Funs) (σ:NmSt),Gn ms (funF f fs) (σ.mapS f) (l.map (GT.map f))=(Gn ms fs σ l).map (TU f)
 |[],ms,fs,σ=>rfl
 |t::l,ms,fs,σ=>by
   rw[List.map_cons,Gn,Gn,GT.Jc,GT.Kn];by_cases hm:t.nd.name∈ms
   ·rw[if_pos hm,if_pos hm];rfl
   rw[if_neg hm,if_neg hm,MO];cases Fy fs σ t.nd.name t.ks with
   |error e=>rfl
   |ok p=>exact Nq f l _ p.1 p.2
abbrev refF(f:Nat→Nat)(r:List (Nat×Nat)):List (Nat×Nat):=r.map fun p=>(f p.1,f p.2)
theorem RX(f:Nat→Nat)(fs:Funs):∀(l:List GT) (refs:List (Nat×Nat)),MP (funF f fs) (refF f refs) (l.map (GT.map f))=(MP fs refs l).map (refF f)
 |[],refs=>rfl
 |_::_,_=>rfl
theorem V9(f:Nat→Nat)(t:GT):nAll (t.map f)=(nAll t).map (refF f):=by
 unfold nAll;rw[GT.Kn];have h:=Nq f t.ks [] [] ⟨[],[],[],[]⟩;rw[show Gn [] [] ⟨[],[],[],[]⟩ (t.ks.map (GT.map f))=Gn [] (funF f []) (NmSt.mapS f ⟨[],[],[],[]⟩) (t.ks.map (GT.map f)) from rfl,h];cases Gn [] [] ⟨[],[],[],[]⟩ t.ks with
 |error e=>rfl
 |ok p=>exact RX f p.1 p.2.calls p.2.refs
mutual
theorem SY(g:Nat→Nat)(n:Nat):∀t:GT,num n (t.map g)=num n t
 | .mk b nd md tt ks=>by rw[GT.map,num,num,P6 g (n+1) ks]
theorem P6(g:Nat→Nat)(n:Nat):∀l:List GT,numL n (GT.mapL g l)=numL n l
 |[]=>by rw[GT.mapL]
 |t::ts=>by rw[GT.mapL,numL,numL,SY g n t,P6 g _ ts]
end
theorem Vz(ids:Nat→Nat):∀m (t:GT),t.subs.length≤m→∀n,(∀k b,(t.subs.map GT.b)[k]? =some b→ids b=n+k)→num n t=(t.map ids,n+t.subs.length):=by
 intro m
 induction m with
 |zero=>intro t h;rw[GT.Aq] at h;simp at h
 |succ m ih=>
   intro t ht n hi;have key:∀(l:List GT),(∀k∈l,k.subs.length≤m)→∀n,(∀k b,((GT.DF l).map GT.b)[k]? =some b→ids b=n+k)→numL n l=(l.map (GT.map ids),n+(GT.DF l).length):=by
    intro l
    induction l with
    |nil=>intro _ n _;rw[numL];rfl
    |cons k l ihl=>
      intro hk n hi;rw[numL,GT.BH] at*;have h1:=ih k (hk k (by simp)) n (fun j b hj=>hi j b (by
       rw[List.map_append,List.getElem?_append_left (by have:=(List.getElem?_eq_some_iff.1 hj).1;exact this)];exact hj))
      rw[h1];dsimp only;have h2:=ihl (fun x hx=>hk x (by simp[hx])) (n+k.subs.length) (fun j b hj=>by
       have:=hi (k.subs.length+j) b (by
        rw[List.map_append,List.getElem?_append_right (by simp)];simpa using hj)
       omega)
      rw[h2]
      simp[Nat.add_assoc]
   cases t with
   |mk b nd md tt ks=>
     rw[GT.Aq] at hi ht;have hb:ids b=n:=by simpa[GT.b] using hi 0 b (by simp[GT.b])
     have hk:=key ks (fun k hk=>by
      have h1:=GT.F6 (t:= .mk b nd md tt ks) (k:=k) hk;have h2:=ht;rw[←GT.Aq] at h2;omega) (n+1) (fun k b' hk=>by
       have:=hi (k+1) b' (by simpa[GT.ks] using hk);omega)
     rw[num,hk,GT.Aq,GT.map,GT.Oy,hb]
     simp[GT.ks]
     omega
theorem GT.PX(f:Nat→Nat):∀m (t:GT),t.subs.length≤m→(t.map f).subs=t.subs.map (GT.map f):=by
 intro m
 induction m with
 |zero=>intro t h;rw[GT.Aq] at h;simp at h
 |succ m ih=>
   intro t ht;have key:∀(l:List GT),(∀k∈l,k.subs.length≤m)→GT.DF (l.map (GT.map f))=(GT.DF l).map (GT.map f):=by
    intro l
    induction l with
    |nil=>intro _;rw[List.map_nil,GT.BQ];rfl
    |cons k l ihl=>
      intro hk;rw[List.map_cons,GT.BH,GT.BH,List.map_append,ih k (hk k (by simp)),ihl (fun x hx=>hk x (by simp[hx]))]
   rw[GT.Aq,GT.Aq t,GT.Kn,key t.ks (fun k hk=>by have:=GT.F6 hk;omega)];rfl
end Hg
namespace Go.Proofs.YtljmibnfmilfbaaGreatDoor
open Go.RowKit
open Hg (GT gl Bd)
structure OP (l:List GT) (nb:Nat) (Z:Nat→Prop) (B:Nat) (ids:Nat→Nat) (av:Value) (next fb mb:Nat) (X:Nat) (ms:List (List UInt8)) (fs:Hg.Funs) (σ:Hg.NmSt) (w wr:World):Prop where
 st:∃cv ρ,NB l nb Z B ids av next fb (.map (some mb)) cv ρ σ fs wr
 md:SMap wr mb (PS ms)
 fr:Fr (fun q=>NOwn l nb B q∨q=fb∨q=mb) w wr
 ca:σ.calls.length≤X
 fl:fs.length≤X
def X9(l:List GT)(nb:Nat)(Z:Nat→Prop)(B:Nat)(ids:Nat→Nat)(av:Value)(next fb mb:Nat)(r:Except Nat (List (Nat×Nat)))(w:World)(e:Ending)(w':World):Prop:=
 Fr (fun q=>NOwn l nb B q∨q=fb∨q=mb) w w'∧match r with
 | .ok refs=>e= .returned (.int .i64 0)∧∃cv uv sv,NmAt w' nb av next (.map (some fb)) (.map (some mb)) cv uv sv∧∀s∈l,DJ w' ids (fun b=>((gl refs b).map ids).getD 0) nilK Z s
 | .error k=>e= .returned (.int .i64 (EF k:Int))
theorem X5(l:List GT)(nb:Nat)(Z:Nat→Prop)(B:Nat)(hL:Low l nb Z B)(hA:Amb l nb Z)(ids:Nat→Nat)(av:Value)(next:Nat)(fb mb:Nat)(hZf:¬Z fb)(hZm:¬Z mb)(hfm:fb≠mb)(hmB:mb < B)(hlen:∀s∈l,s.nd.name.length≤1000000∧s.tt.length≤1000000)(hlen2:∀s∈l,s.md.length≤1000000)
 (t:GT) (htl:t∈l) (hsz:t.subs.length≤100000) (r:Except Nat (List (Nat×Nat))) (hr:Hg.nAll t=r) (h0:r≠ .error 0) (cv:Value) (w:World) (hS:NB l nb Z B ids av next fb (.map (some mb)) cv (fun _=>0) ⟨[],[],[],[]⟩ [] w) (hM:SMap w mb []):
 Calls Tryz.prog 43 #[.pointer (some ⟨nb,0,none⟩),ptrV t] w (X9 l nb Z B ids av next fb mb r w):=by
 have hzb:∀W:World,(zeroValue 4).run Tryz.prog W= .ok (.bool false) W:=fun W=>by kernel_rfl
 have hzp:∀W:World,(zeroValue 83).run Tryz.prog W= .ok (.pointer none) W:=fun W=>by kernel_rfl
 unfold Hg.nAll at hr;obtain⟨RM,hRM⟩:∃RM,RM=Hg.Gn [] [] ⟨[],[],[],[]⟩ t.ks:=⟨_,rfl⟩;rw[←hRM] at hr;have HR:=zz hr;have H0:=zz h0;have HA:=zz hA;have HLW:=zz hL;have HT:=zz htl;have HLEN:=zz (And.intro hlen hlen2);have hmne:¬NOwn l nb B mb:=by
  obtain⟨es,ck,hm⟩:=hM.obj;obtain⟨h1,h2⟩:=hS.Ox hm;rintro((e|⟨s,hs,e⟩)|e)
  ·exact h1 e.symm
  ·exact h2 s hs e.symm
  ·omega
 have HMN:=zz hmne;have HNF:=zz hS.fne;obtain⟨a1,cc1,hh1,hs1,hq1⟩:=(hS.node t htl).open_;have HQ:=zz (show∀q,(Value.slice a1 t.ks.length cc1).ownBlock=some q→¬(NOwn l nb B q∨q=fb∨q=mb) from fun q e e'=>by
  have hz:=hq1 q e;rcases e' with((e'|⟨s,hs,e'⟩)|e')|e'|e'
  ·exact hA.nbz (e' ▸ hz)
  ·exact hA.nz s hs (e' ▸ hz)
  ·have:=hL.z q hz;omega
  ·exact hZf (e' ▸ hz)
  ·exact hZm (e' ▸ hz))
 have HSL:=zz hs1;have c8:=cell_of_row w t.b 8 _ _ (0,0) hh1;simp at c8;have hkl:t.ks.length≤100000:=by
  have h1:=GT.Jd t.ks;have hlenk:t.subs.length=(GT.AP t.ks).length+1:=by rw[GT.Aq,GT.Bf];rfl
  omega
 have HSZ:=zz hsz;have HST:=zz (show OP l nb Z B ids av next fb mb 0 [] [] ⟨[],[],[],[]⟩ w w from⟨⟨_,_,hS⟩,hM,Fr.refl _ _,Nat.zero_le _,Nat.zero_le _⟩);have HRM:=zz hRM.symm;have HZF:=zz (And.intro hZf (And.intro hZm hfm));clear hS hM hA hL htl hlen hlen2 hsz hr h0 hRM hh1 hs1 hq1 hmne hZf hZm hfm hmB;go_enter Tryz.func43,Tryz.ntmps43;go_wp2;clear c8
 go_loopw [18] (fun p wr=>∃(i:Nat) (ms:List (List UInt8)) (fs:Hg.Funs) (σ:Hg.NmSt),p= .int .i64 (i:Int)∧i≤t.ks.length∧ms.length≤i∧OP l nb Z B ids av next fb mb (2*(GT.AP (t.ks.take i)).length) ms fs σ w wr∧Hg.Gn ms fs σ (t.ks.drop i)=RM) (fun p wr=>t.ks.length-(intOf p).toNat)
 case atStart=>exact⟨0,[],[],_,rfl,Nat.zero_le _,Nat.le_refl _,by simpa[GT.AP,GT.BQ] using HST.out,HRM.out⟩
 case round=>
  obtain⟨i,ms,fs,σ,rfl,hi,hms,hSt,hrm⟩:=hrel;clear HST HRM;by_cases hlt:i < t.ks.length
  ·obtain⟨b,o,rfl,_,kc⟩:=(HSL.out.fr (Nat.le_refl _) hSt.fr HQ.out).mapAt hlt
   have hmk:t.ks[i]∈t.ks:=List.getElem_mem hlt;have hml:t.ks[i]∈l:=HA.out.kids t HT.out _ hmk;have hszm:(GT.AP (t.ks.take (i+1))).length=(GT.AP (t.ks.take i)).length+t.ks[i].subs.length:=by rw[GT.CV hlt,List.length_append,GT.DN]
   have hsz2:=GT.CY t.ks (i+1);have hlenk:t.subs.length=(GT.AP t.ks).length+1:=by rw[GT.Aq,GT.Bf];rfl
   rw[List.drop_eq_getElem_cons hlt,Hg.Gn] at hrm;generalize t.ks[i]=m at kc hmk hml hszm hrm;have HSM:=zz (And.intro hszm (And.intro hsz2 hlenk));obtain⟨cv1,ρ1,hN1⟩:=hSt.st;obtain⟨uv1,sv1,hnm1⟩:=hN1.nm;obtain⟨am,cm,hhm,-,-⟩:=(hN1.node m hml).open_;have c1:=cell_of_row wr m.b 1 _ _ (0,0) hhm;have c3:=cell_of_row wr nb 3 _ _ (0,0) hnm1;simp at c1 c3;have hnl1:=(HLEN.out.1 m hml).1;have hlk:=(hSt.md.keep (w':=wr.drew) rfl).look (t:=87) NZ Tryz.underlying87 (hzb _) (Ma m.nd.name hnl1);unfold PS at hlk;rw[Hg.Ri] at hlk;have HSt:=zz hSt;have hHeld:(fun w'=>w'.cell? ⟨nb,3,none⟩=some (.map (some mb))∧w'.cell? ⟨m.b,1,none⟩=some (strV m.nd.name)) wr.drew:=⟨c3,c1⟩;by_cases hdup:m.nd.name∈ms
   ·rw[if_pos hdup] at hrm
    have h4:=HR.out;rw[←hrm] at h4;exact absurd h4.symm H0.out
   rw[if_neg hdup] at hrm hlk;replace hlk:(Instr.lookup 87 (.map (some mb)) (strV m.nd.name) false).run Tryz.prog wr.drew= .ok (.bool false) wr.drew:=hlk;have HRM:=zz hrm;have HML:=zz hml;clear hrm hSt hN1 hnm1 hhm hszm hsz2 hlenk hml hmk;go_wp2;refine AR (fun w'=>w'.cell? ⟨nb,3,none⟩=some (.map (some mb))∧w'.cell? ⟨m.b,1,none⟩=some (strV m.nd.name)) 9 (by kernel_rfl) ?_;refine tz 0 _ _ _ ?_;refine tz 1 _ _ _ ?_;refine tz 2 _ _ _ ?_;refine tz 3 _ _ _ ?_;refine tz 4 _ _ _ ?_;refine tz 5 _ _ _ ?_;refine tz 6 _ _ _ ?_;refine tz 7 _ _ _ ?_;refine tz 8 _ _ _ ?_;refine AL (by kernel_rfl) ?_;simp only[List.drop_succ_cons,List.drop_zero];go_wp2;clear hHeld hlk;have hHeld:(fun w'=>w'.cell? ⟨nb,3,none⟩=some (.map (some mb))∧w'.cell? ⟨m.b,1,none⟩=some (strV m.nd.name)) wr.drew.drew:=⟨c3,c1⟩;refine AR (fun w'=>w'.cell? ⟨nb,3,none⟩=some (.map (some mb))∧w'.cell? ⟨m.b,1,none⟩=some (strV m.nd.name)) 9 (by kernel_rfl) ?_;refine tz 0 _ _ _ ?_;refine tz 1 _ _ _ ?_;refine tz 2 _ _ _ ?_;refine tz 3 _ _ _ ?_;refine tz 4 _ _ _ ?_;refine tz 5 _ _ _ ?_;refine tz 6 _ _ _ ?_;refine tz 7 _ _ _ ?_;refine tz 8 _ _ _ ?_;refine AL (by kernel_rfl) ?_;simp only[List.drop_succ_cons,List.drop_zero];obtain⟨W2,hrun2,hM2,hg2⟩:=(HSt.out.md.keep (w':=wr.drew.drew) rfl).put (t:=87) NZ Tryz.underlying87 (fun x y h=>L6 h) (by unfold PS;simp;omega) m.nd.name (Ma m.nd.name hnl1) (.bool true);have HST2:=zz (show OP l nb Z B ids av next fb mb (2*(GT.AP (t.ks.take i)).length) (m.nd.name::ms) fs σ w W2 from⟨by
    obtain⟨cv1,ρ1,hN1⟩:=HSt.out.st;obtain⟨es,ck,hme⟩:=HSt.out.md.obj;obtain⟨k1,k2⟩:=hN1.Ox hme;obtain⟨uv1,sv1,hnm1⟩:=hN1.nm;have hN2:=hN1.drew.drew;refine⟨cv1,ρ1,⟨uv1,sv1,(hg2.block nb hnm1.lt (fun e=>by injection e with e;exact k1 e)).trans hnm1⟩,hN2.fm.keep (hg2.block fb hN2.fm.lt (fun e=>by injection e with e;exact HZF.out.2.2 e)),hN2.fl,hN2.cs.kept hg2 (Di hN2.cs hme),fun s hs=> ?_,hN2.ref,hN2.kin,hN2.fin,Nat.le_trans hN2.sz hg2.size⟩;exact(hN2.node s hs).frr (D:=fun q=>q=mb) (Fr.Cn hg2 (fun q e=>by injection e with e;exact e.symm)) (k2 s hs) (fun q hz e=>HZF.out.2.1 (e ▸ hz)),hM2,HSt.out.fr.drew.drew.step hg2 (fun q e=> .inl (.inr (.inr (by injection e with e;exact e.symm)))),HSt.out.ca,HSt.out.fl⟩)
   obtain⟨cv2,ρ2,hN2⟩:=HST2.out.st;obtain⟨a2,cc2,hh2,hs2,hq2⟩:=(hN2.node m HML.out).open_;have HQ2:=zz (show∀q,(Value.slice a2 m.ks.length cc2).ownBlock=some q→¬(NOwn l nb B q∨q=fb∨q=mb) from fun q e e'=>by
    have hz:=hq2 q e;rcases e' with((e'|⟨s,hs,e'⟩)|e')|e'|e'
    ·exact HA.out.nbz (e' ▸ hz)
    ·exact HA.out.nz s hs (e' ▸ hz)
    ·have:=HLW.out.z q hz;omega
    ·exact HZF.out.1 (e' ▸ hz)
    ·exact HZF.out.2.1 (e' ▸ hz))
   have HSL2:=zz hs2;have c8:=cell_of_row W2 m.b 8 _ _ (0,0) hh2;simp at c8;have hkl2:m.ks.length≤100000:=by
    have h1:=GT.Jd m.ks;have h2:m.subs.length=(GT.AP m.ks).length+1:=by rw[GT.Aq,GT.Bf];rfl
    have h3:=HSM.out;have h4:=HSZ.out;omega
   obtain⟨RF,hRF⟩:∃RF,Hg.Fy fs σ m.nd.name m.ks=RF:=⟨_,rfl⟩;have hrm:=HRM.out;rw[hRF] at hrm;have HRF:=zz hRF;have HRM2:=zz hrm;clear hHeld hM2 hg2 hN2 hh2 hs2 hq2 c1 c3 HSt HRM hRF hrm;go_wp2;clear c8
   go_loopw [46] (fun p wr=>∃(j:Nat) (fs:Hg.Funs) (σ:Hg.NmSt),p= .int .i64 (j:Int)∧j≤m.ks.length∧OP l nb Z B ids av next fb mb (2*(GT.AP (t.ks.take i)).length+2*(GT.AP (m.ks.take j)).length) (m.nd.name::ms) fs σ w wr∧Fr (fun q=>NOwn l nb B q∨q=fb∨q=mb) W2 wr∧Hg.Fy fs σ m.nd.name (m.ks.drop j)=RF) (fun p wr=>m.ks.length-(intOf p).toNat)
   case atStart=>exact⟨0,_,_,rfl,Nat.zero_le _,by simpa[GT.AP,GT.BQ] using HST2.out,Fr.refl _ _,HRF.out⟩
   case round=>
    obtain⟨j,fs2,σ2,rfl,hj,hSt,hf2,hrf⟩:=hrel;clear HST2 HRF;by_cases hltj:j < m.ks.length
    ·obtain⟨b2,o2,rfl,_,kc2⟩:=(HSL2.out.fr (Nat.le_refl _) hf2 HQ2.out).mapAt hltj
     have hfk:m.ks[j]∈m.ks:=List.getElem_mem hltj;have hfl:m.ks[j]∈l:=HA.out.kids m HML.out _ hfk;have hszf:(GT.AP (m.ks.take (j+1))).length=(GT.AP (m.ks.take j)).length+m.ks[j].subs.length:=by rw[GT.CV hltj,List.length_append,GT.DN]
     have hszf2:=GT.CY m.ks (j+1);have hlenm:m.subs.length=(GT.AP m.ks).length+1:=by rw[GT.Aq,GT.Bf];rfl
     rw[List.drop_eq_getElem_cons hltj,Hg.Fy] at hrf;generalize m.ks[j]=f at kc2 hfk hfl hszf hrf;obtain⟨cv3,ρ3,hN3⟩:=hSt.st;obtain⟨am3,cm3,hhm3,-,-⟩:=(hN3.node m HML.out).open_;have c1:=cell_of_row wr m.b 1 _ _ (0,0) hhm3;simp at c1;have hsm:=HSM.out;have hSZ:=HSZ.out;have h0f:Hg.IG fs2 σ2 m.nd.name f≠ .error 0:=fun e=>by
      rw[e] at hrf;have h1:RF= .error 0:=hrf.symm;have h2:=HRM2.out;rw[h1] at h2;have h3:RM= .error 0:=h2.symm;have h4:=HR.out;rw[h3] at h4;exact H0.out h4.symm
     have hca:=hSt.ca;have hfll:=hSt.fl;have TF:=zz (Ua l nb Z B HLW.out HA.out ids av next fb HZF.out.1 (.map (some mb)) HLEN.out.1 m.nd.name hnl1 f hfl cv3 ρ3 σ2 fs2 _ wr h0f hca (by omega) (by omega) hN3);have HSS:=zz hSt;have HF2:=zz hf2;have HRF:=zz hrf;have HSF:=zz hszf;clear hSt hf2 hN3 hhm3 hsm hSZ hszf hszf2 hlenm hfk hfl h0f hca hfll hrf;go_wp2_with fail;refine TF.out.mono ?_;rintro e w5 ⟨hfr5,hres⟩;have hfr5':Fr (fun q=>NOwn l nb B q∨q=fb∨q=mb) wr w5:=hfr5.imp (fun q _ e=>by rcases e with e|e;exact .inl e;exact .inr (.inl e));have HF5:=zz (HF2.out.trans hfr5');have HW5:=zz (HSS.out.fr.trans hfr5');have hmd5:=HSS.out.md.fr hfr5 (fun e=>by
      rcases e with e|e
      ·exact HMN.out e
      ·exact HZF.out.2.2 e.symm)
     have HMD5:=zz hmd5;have hrf:=HRF.out;cases hnf:Hg.IG fs2 σ2 m.nd.name f with
     |error ek=>
       rw[hnf] at hres hrf;replace hres:e= .returned (.int .i64 (EF ek:Int)):=hres;subst hres;have hre:r= .error ek:=by
        have h1:RF= .error ek:=hrf.symm;have h2:=HRM2.out;rw[h1] at h2;have h3:RM= .error ek:=h2.symm;have h4:=HR.out;rw[h3] at h4;exact h4.symm
       have hq:((EF ek:Int) !=0)=true:=by unfold EF;split <;>rfl
       subst hre;clear TF hfr5 hfr5' hmd5 hrf hnf;go_wp2;go_ret;exact⟨HW5.out,rfl⟩
     |ok pr=>
       obtain⟨fs5,σ5⟩:=pr;rw[hnf] at hres hrf;obtain⟨rfl,cv5,ρ5,hN5⟩:=hres;have hbd:=Hg.V8 HSS.out.ca hnf;have HST5:=zz (show OP l nb Z B ids av next fb mb (2*(GT.AP (t.ks.take i)).length+2*(GT.AP (m.ks.take (j+1))).length) (m.nd.name::ms) fs5 σ5 w w5 from⟨⟨_,_,hN5⟩,HMD5.out,HW5.out,by have:=hbd.1;have:=HSF.out;omega,by
        have h1:=hbd.2;have h2:=HSF.out;have h3:=HSS.out.fl;have h4:1≤f.subs.length:=by rw[GT.Aq];simp
        omega⟩)
       have HRF5:=zz (show Hg.Fy fs5 σ5 m.nd.name (m.ks.drop (j+1))=RF from hrf);clear TF hfr5 hfr5' hmd5 hrf hnf hN5 hbd;go_wp2;go_roundw
       case rel=>exact⟨j+1,fs5,σ5,by go_num,by omega,HST5.out,HF5.out,HRF5.out⟩
       case measure=>simp[intOf];omega
    ·obtain rfl:j=m.ks.length:=by omega
     rw[List.drop_length] at hrf;have hrf:Except.ok (fs2,σ2)=RF:=hrf;have HRM5:=zz (show Hg.Gn (m.nd.name::ms) fs2 σ2 (t.ks.drop (i+1))=RM from by
      have h:=HRM2.out;rw[←hrf] at h;exact h)
     have HST5:=zz (show OP l nb Z B ids av next fb mb (2*(GT.AP (t.ks.take (i+1))).length) (m.nd.name::ms) fs2 σ2 w wr from⟨hSt.st,hSt.md,hSt.fr,by
      have h1:=hSt.ca;have h2:=HSM.out;have hlenm:m.subs.length=(GT.AP m.ks).length+1:=by rw[GT.Aq,GT.Bf];rfl
      rw[List.take_length] at h1;omega,by
      have h1:=hSt.fl;have h2:=HSM.out;have hlenm:m.subs.length=(GT.AP m.ks).length+1:=by rw[GT.Aq,GT.Bf];rfl
      rw[List.take_length] at h1;omega⟩)
     clear hSt hf2 hrf;go_wp2;go_roundw
     case rel=>exact⟨i+1,_,_,_,by go_num,by omega,by simp;omega,HST5.out,HRM5.out⟩
     case measure=>simp[intOf];omega
  ·obtain rfl:i=t.ks.length:=by omega
   rw[List.drop_length] at hrm;have hrm:Except.ok (fs,σ)=RM:=hrm;have HCL:=zz (show Hg.MP fs σ.refs σ.calls=r from by
    have h:=HR.out;rw[←hrm] at h;exact h)
   obtain⟨cv1,ρ1,hN1⟩:=hSt.st;obtain⟨uv1,sv1,hnm1⟩:=hN1.nm;have c4:=cell_of_row wr nb 4 _ _ (0,0) hnm1;simp at c4;have hsl:=Sl.AX hN1.cs;obtain⟨ca,cz,rfl⟩:=hsl.form;have hcq:=hN1.cs.lt;have hcl:σ.calls.length≤1000000:=by
    have h1:=hSt.ca;have h2:=GT.CY t.ks t.ks.length;have hlenk:t.subs.length=(GT.AP t.ks).length+1:=by rw[GT.Aq,GT.Bf];rfl
    have h4:=HSZ.out;omega
   have HN1:=zz hN1;have HFR:=zz hSt.fr;clear hSt hrm hN1 hnm1 hsl hcq;go_wp2;clear c4
   go_loopw [68] (fun p wr=>∃(k:Nat) (refs:List (Nat×Nat)) (ρ:Nat→Nat),p= .int .i64 (k:Int)∧k≤σ.calls.length∧NB l nb Z B ids av next fb (.map (some mb)) (.slice ca σ.calls.length cz) ρ {σ with refs:=refs} fs wr∧Fr (fun q=>NOwn l nb B q∨q=fb∨q=mb) w wr∧Hg.MP fs refs (σ.calls.drop k)=r) (fun p wr=>σ.calls.length-(intOf p).toNat)
   case atStart=>exact⟨0,_,_,rfl,Nat.zero_le _,HN1.out,HFR.out,HCL.out⟩
   case round=>
    obtain⟨k,refs,ρ,rfl,hk,hN,hfr,hcl2⟩:=hrel;clear HN1 HFR HCL;by_cases hltk:k < σ.calls.length
    ·rw[List.drop_eq_getElem_cons hltk] at hcl2
     exact absurd hcl2.symm H0.out
    ·obtain rfl:k=σ.calls.length:=by omega
     rw[List.drop_length] at hcl2;have hre:r= .ok refs:=hcl2.symm;subst hre;obtain⟨uv,sv,hnm⟩:=hN.nm;have hρ:ρ=fun b=>((gl refs b).map ids).getD 0:=funext hN.ref;subst hρ;have HFIN:=zz (And.intro hfr (And.intro hnm hN.node));clear hN hfr hnm hcl2;go_wp2;go_ret;exact⟨HFIN.out.1,rfl,_,_,_,HFIN.out.2.1,HFIN.out.2.2⟩
end Go.Proofs.YtljmibnfmilfbaaGreatDoor
namespace Hg
def GT.node(ids ρ:Nat→Nat)(t:GT):Node:={t.nd with ref:=ρ t.b,kids:=t.ks.map (fun k=>ids k.b)}
end Hg
namespace Go.Proofs.YtljmibnfmilfbaaGreatDoor
open Go.RowKit
open Hg (GT gl)
theorem Pv{w w':World}{base B:Nat}{e:TypeId}{size:Nat}{v:Value}{n:Nat}{xs:List Value}(h:w.ownsRow base e size v n xs)(hb:Below B w w')(hB:w.heap.size≤B):w'.ownsRow base e size v n xs:=
 h.kept (row:=none) ⟨hb.os,hb.tape,hb.output,hb.size,fun k hk _=>hb.block k (by omega)⟩ (by cases hv:v.ownBlock <;>simp)
theorem NmAt.cell0{w:World}{nb next:Nat}{av fv mv cv uv sv:Value}(h:NmAt w nb av next fv mv cv uv sv):w.cell? ⟨nb,0,none⟩=some av:=by
 have:=cell_of_row w nb 0 _ _ (0,0) h;simpa using this
theorem DJ.lt{w:World}{ids ρ:Nat→Nat}{κ:Nat→Value}{Z:Nat→Prop}{s:GT}(h:DJ w ids ρ κ Z s):s.b < w.heap.size:=by
 have:=Bt.lt h;rw[GT.rf_b] at this;exact this
theorem DJ.setK{w:World}{ids ρ:Nat→Nat}{κ:Nat→Value}{Z:Nat→Prop}{s:GT}(h:DJ w ids ρ κ Z s){b:Nat}(v:Value)(hz:¬Z b):DJ (w.setCell ⟨b,5,none⟩ v) ids ρ (upd κ b v) Z s:=Bt.setK h v hz
abbrev ArM:=Nat→Option Hg.Node
mutual
def layM(ids ρ:Nat→Nat):GT→ArM→ArM| .mk b nd _ _ ks,M=>putM (EE ids ρ ks M) (ids b) {nd with ref:=ρ b,kids:=ks.map (fun k=>ids k.b)}
def EE(ids ρ:Nat→Nat):List GT→ArM→ArM|[],M=>M|t::ts,M=>EE ids ρ ts (layM ids ρ t M)
end
theorem O0(ids ρ:Nat→Nat)(t:GT)(M:ArM):layM ids ρ t M=putM (EE ids ρ t.ks M) (ids t.b) (t.node ids ρ):=by
 cases t;rw[layM];rfl
theorem MU(ids ρ:Nat→Nat):∀(l:List GT) (t:GT) (M:ArM),EE ids ρ (l++[t]) M=layM ids ρ t (EE ids ρ l M)
 |[],t,M=>by simp[EE]
 |x::l,t,M=>by
   show EE ids ρ (x::(l++[t])) M=_;rw[EE,EE,MU ids ρ l t]
theorem GT.GX{t s:GT}(h:s∈t.subs):s.b∈t.blocks:=List.mem_map.2 ⟨s,h,rfl⟩
theorem CK.row{o:Option Nat}{Z:Nat→Prop}{w w':World}{ab mb c:Nat}{M:Nat→Option Hg.Node}(h:CK Z w ab mb c M)(hg:w.grownBy w' o)(ho:∀q,o=some q→q≠ab∧q≠mb∧¬Z q):CK Z w' ab mb c M:=by
 have hlt:=h.lt;obtain⟨h0,⟨D,hw,hc,hk⟩,hbd⟩:=h;refine⟨(hg.block ab hlt (fun e=>(ho ab e.symm).1 rfl)).trans h0,⟨D,hw.kept hg (fun e=>(ho mb e.symm).2.1 rfl),hc,fun id hid=> ?_⟩,hbd⟩;have hx:=hk id hid;cases hM:M id with
 |none=>rw[hM] at hx;exact hx
 |some nd=>
   rw[hM] at hx;obtain⟨ka,kc,h1,h2,h3⟩:=hx;exact⟨ka,kc,h1,(h2.grown (Nat.le_refl _) hg (fun g e e'=>(ho g e).2.2 (h3 g e'))).more hg.size,h3⟩
theorem Amb.subs{l:List GT}{nb:Nat}{Z:Nat→Prop}(h:Amb l nb Z):∀(n:Nat) (t:GT),t∈l→t.subs.length≤n+1→∀s∈t.subs,s∈l:=by
 intro n
 induction n with
 |zero=>
   intro t ht hn s hs;rw[GT.Aq] at hs;rcases List.mem_cons.1 hs with hs|hs
   ·rw[hs];exact ht
   ·rw[GT.Aq] at hn
    simp at hn;rw[hn] at hs;simp at hs
 |succ n ih=>
   intro t ht hn s hs;rw[GT.Aq] at hs;rcases List.mem_cons.1 hs with hs|hs
   ·rw[hs];exact ht
   ·have key:∀(m:List GT),(∀x∈m,x∈t.ks)→s∈GT.DF m→∃x∈m,s∈x.subs:=by
     intro m
     induction m with
     |nil=>intro _ h;simp[GT.BQ] at h
     |cons x m ih2=>
       intro hx h;rw[GT.BH,List.mem_append] at h;rcases h with h|h
       ·exact⟨x,by simp,h⟩
       ·obtain⟨y,hy,h'⟩:=ih2 (fun z hz=>hx z (by simp[hz])) h
        exact⟨y,by simp[hy],h'⟩
    obtain⟨x,hx,hs'⟩:=key t.ks (fun _ h=>h) hs;exact ih x (h.kids t ht x hx) (by have:=GT.F6 hx;omega) s hs'
theorem CK.lts{Z:Nat→Prop}{w:World}{ab mb c:Nat}{M:Nat→Option Hg.Node}(h:CK Z w ab mb c M):ab < w.heap.size∧mb < w.heap.size:=⟨h.lt,h.map.lt⟩
theorem LY{Y:Nat→Prop}{w:World}{ab mb c:Nat}{M:Nat→Option Hg.Node}(hR:CK Y w ab mb c M){ids ρ:Nat→Nat}{κ:Nat→Value}{Z:Nat→Prop}{s:GT}(h:DJ w ids ρ κ Z s):s.b≠ab∧s.b≠mb:=by
 obtain⟨a,c,hh,_⟩:=h.open_;refine⟨fun e=> ?_,fun e=> ?_⟩
 ·have h1:=hR.cell
  rw[←e,hh] at h1;injection h1 with h1;injection h1 with _ h1 _;exact absurd h1 (by decide)
 ·obtain⟨⟨D,ho,_⟩,_⟩:=hR.map
  obtain⟨es,ck,hm⟩:=IU ho;rw[←e,hh] at hm;cases hm
def SH(l:List GT)(nb:Nat)(Z:Nat→Prop)(ids ρ:Nat→Nat)(ab mb next:Nat)(fv mv cv uv sv:Value)(t:GT)(κ:Nat→Value)(c:Nat)(M:ArM)(Y:Nat→Prop)(w w':World):Prop:=
 ∃κ' c',(∀s∈l,DJ w' ids ρ κ' Z s)∧(∀b,b∉t.blocks→κ' b=κ b)∧NmAt w' nb (.pointer (some ⟨ab,0,none⟩)) next fv mv cv uv sv∧c'≤c+t.subs.length∧
   CK (fun q=>Y q∨w.heap.size≤q∧q < w'.heap.size) w' ab mb c' (layM ids ρ t M)∧Fr (fun q=>q∈t.blocks∨q=mb) w w'
structure Jj (l:List GT) (nb:Nat) (Z:Nat→Prop) (ids ρ:Nat→Nat) (ab mb next:Nat) (fv mv cv uv sv:Value) (t:GT) (κ:Nat→Value) (c:Nat) (M:ArM) (Y:Nat→Prop) (w:World) (j:Nat) (v:Value) (κj:Nat→Value) (cj:Nat) (wr:World):Prop where
 node:∀s∈l,DJ wr ids ρ κj Z s
 here:κj t.b=v
 out:∀b,b≠t.b→b∉GT.AP (t.ks.take j)→κj b=κ b
 nm:NmAt wr nb (.pointer (some ⟨ab,0,none⟩)) next fv mv cv uv sv
 cnt:cj≤c+(GT.AP (t.ks.take j)).length
 own:wr.ownsRow w.heap.size 30 1 v j ((t.ks.take j).map (fun k=>idV (ids k.b)))
 ar:CK (fun q=>(Y q∨w.heap.size≤q∧q < wr.heap.size)∧v.ownBlock≠some q) wr ab mb cj (EE ids ρ (t.ks.take j) M)
 fr:Fr (fun q=>q∈t.blocks∨q=mb) w wr
theorem Jj.grow{l:List GT}{nb:Nat}{Z:Nat→Prop}{ids ρ:Nat→Nat}{ab mb next:Nat}{fv mv cv uv sv:Value}{t:GT}{κ:Nat→Value}{c:Nat}{M:ArM}{Y:Nat→Prop}{w:World}{j:Nat}{v:Value}{κj:Nat→Value}{cj:Nat}{wr Wa W3:World}{y3 z3:Nat}
 (h:Jj l nb Z ids ρ ab mb next fv mv cv uv sv t κ c M Y w j v κj cj wr) (hZw:∀q,Z q→q < w.heap.size) (hYw:∀q,Y q→q < w.heap.size) (hlt:∀s∈l,s.b < w.heap.size) (htl:t∈l) (htz:¬Z t.b) (hYn:∀s∈l,¬Y s.b) (hnb:nb < w.heap.size) (htn:t.b≠nb) (habm:ab < w.heap.size∧mb < w.heap.size)
 (hBa:Below wr.heap.size wr Wa) (g3:Wa.grownBy W3 v.ownBlock) (u:Value) (own3:W3.ownsRow w.heap.size 30 1 (.slice (some ⟨y3,0,none⟩) (j+1) z3) (j+1) ((t.ks.take j).map (fun k=>idV (ids k.b))++[u]))
 (at3:(Value.slice (some ⟨y3,0,none⟩) (j+1) z3).ownBlock=v.ownBlock∨(Value.slice (some ⟨y3,0,none⟩) (j+1) z3).ownBlock=some Wa.heap.size):
 (∀s∈l,DJ (W3.setCell ⟨t.b,5,none⟩ (.slice (some ⟨y3,0,none⟩) (j+1) z3)) ids ρ (upd κj t.b (.slice (some ⟨y3,0,none⟩) (j+1) z3)) Z s)∧
 NmAt (W3.setCell ⟨t.b,5,none⟩ (.slice (some ⟨y3,0,none⟩) (j+1) z3)) nb (.pointer (some ⟨ab,0,none⟩)) next fv mv cv uv sv∧
 (W3.setCell ⟨t.b,5,none⟩ (.slice (some ⟨y3,0,none⟩) (j+1) z3)).ownsRow w.heap.size 30 1 (.slice (some ⟨y3,0,none⟩) (j+1) z3) (j+1) ((t.ks.take j).map (fun k=>idV (ids k.b))++[u])∧
 CK (fun q=>(Y q∨w.heap.size≤q∧q < (W3.setCell ⟨t.b,5,none⟩ (.slice (some ⟨y3,0,none⟩) (j+1) z3)).heap.size)∧(Value.slice (some ⟨y3,0,none⟩) (j+1) z3).ownBlock≠some q) (W3.setCell ⟨t.b,5,none⟩ (.slice (some ⟨y3,0,none⟩) (j+1) z3)) ab mb cj (EE ids ρ (t.ks.take j) M)∧
 Fr (fun q=>q∈t.blocks∨q=mb) w (W3.setCell ⟨t.b,5,none⟩ (.slice (some ⟨y3,0,none⟩) (j+1) z3)):=by
 have hol:=h.own.lt;have hsz:=h.fr.size;have htb:=hlt t htl;have hsz3:=g3.size;have hsza:=hBa.size;have hzs:(W3.setCell ⟨t.b,5,none⟩ (.slice (some ⟨y3,0,none⟩) (j+1) z3)).heap.size=W3.heap.size:=by simp
 have hfr3:Fr (fun q=>v.ownBlock=some q) wr W3:=(Fr.of_below hBa).DU (Fr.Cn g3 (fun q e=>e)) (fun q _ e=>e);have hgs:W3.grownBy (W3.setCell ⟨t.b,5,none⟩ (.slice (some ⟨y3,0,none⟩) (j+1) z3)) (some t.b):=Bc (Bo _ _) 5 _;have hn3:∀s∈l,DJ W3 ids ρ κj Z s:=fun s hs=>(h.node s hs).frr hfr3 (fun e=>by have:=(hol _ e).1;have:=hlt s hs;omega) (fun q hz e=>by have:=(hol _ e).1;have:=hZw q hz;omega);have hne:=LY h.ar (h.node t htl);refine⟨fun s hs=>(hn3 s hs).setK _ htz, ?_, ?_, ?_, ?_⟩
 ·exact(hgs.block nb (by have:=h.nm.lt;omega) (fun e=>by injection e with e;exact htn e.symm)).trans ((hfr3.block nb h.nm.lt (fun e=>by have:=(hol _ e).1;omega)).trans h.nm)
 ·exact own3.kept hgs (.inr (fun e=>by have:=(own3.lt t.b e).1;omega))
 ·have A1:=h.ar.below hBa (Nat.le_refl _)
  have A2:=A1.imp (Z':=fun q=>(Y q∨w.heap.size≤q∧q < wr.heap.size)∧v.ownBlock≠some q∧q≠Wa.heap.size) (fun q hq=>⟨hq.1,hq.2,fun e=>by
   rcases hq.1 with h|h
   ·have:=hYw q h;omega
   ·omega⟩)
  have A3:=A2.row g3 (fun q e=>⟨by have:=(hol q e).1;omega,by have:=(hol q e).1;omega,fun hp=>hp.2.1 e⟩);have A4:=A3.imp (Z':=fun q=>(Y q∨w.heap.size≤q∧q < W3.heap.size)∧(Value.slice (some ⟨y3,0,none⟩) (j+1) z3).ownBlock≠some q) (fun q hq=>⟨hq.1.imp (fun h=>h) (fun h=>⟨h.1,by omega⟩),fun e=>by
   rcases at3 with h|h
   ·exact hq.2.1 (h ▸ e)
   ·rw[h] at e;injection e with e;exact hq.2.2 e.symm⟩)
  rw[hzs];exact A4.row hgs (fun q e=>by
   injection e with e;subst e;exact⟨hne.1,hne.2,fun hp=>by
    rcases hp.1 with h|h
    ·exact hYn t htl h
    ·omega⟩)
 ·exact(((h.fr.DU (Fr.of_below (Below.mono hBa (Nat.le_refl _)):Fr (fun _=>False) wr Wa) (fun _ _ h=>h.elim)).step g3 (fun q e=> .inr (hol q e).1)).step hgs (fun q e=> .inl (.inl (by injection e with e;rw[←e,GT.Dx];simp))))
theorem GT.Kg{t:GT}(h:t.blocks.Nodup){j:Nat}(hj:j < t.ks.length):(t.ks[j]).blocks.Nodup∧∀b∈(t.ks[j]).blocks,b≠t.b∧b∉GT.AP (t.ks.take j):=by
 rw[GT.Dx,List.nodup_cons] at h;obtain⟨h1,h2⟩:=h;have e:GT.AP t.ks=(GT.AP (t.ks.take j)++(t.ks[j]).blocks)++GT.AP (t.ks.drop (j+1)):=by
  rw[←GT.CV hj]
  conv=>lhs;rw[←List.take_append_drop (j+1) t.ks]
  unfold GT.AP;rw[GT.Dq,List.map_append]
 rw[e,List.nodup_append] at h2;rw[e] at h1;have h3:=List.nodup_append.1 h2.1;refine⟨h3.2.1,fun b hb=>⟨fun e=>h1 (by rw[←e];simp[hb]),fun hm=>h3.2.2 b hm b hb rfl⟩⟩
theorem GT.YX{t:GT}{j:Nat}(hj:j < t.ks.length):∀b∈(t.ks[j]).blocks,b∈t.blocks:=by
 intro b hb;obtain⟨s,hs,rfl⟩:=List.mem_map.1 hb;rw[GT.Dx];exact List.mem_cons_of_mem _ (List.mem_map.2 ⟨s,GT.Gp (List.getElem_mem hj) s hs,rfl⟩)
theorem Jj.next{l:List GT}{nb:Nat}{Z:Nat→Prop}{ids ρ:Nat→Nat}{ab mb next:Nat}{fv mv cv uv sv:Value}{t:GT}{κ:Nat→Value}{c:Nat}{M:ArM}{Y:Nat→Prop}{w:World}{j:Nat}{κj:Nat→Value}{cj:Nat}{W4 w5:World}{y3 z3:Nat}(hj:j < t.ks.length)(hnd:t.blocks.Nodup)
 (hout:∀b,b≠t.b→b∉GT.AP (t.ks.take j)→κj b=κ b) (hcnt:cj≤c+(GT.AP (t.ks.take j)).length) (hblt:∀b∈(t.ks[j]).blocks,b < w.heap.size) (hmb:mb < w.heap.size)
 (own4:W4.ownsRow w.heap.size 30 1 (.slice (some ⟨y3,0,none⟩) (j+1) z3) (j+1) ((t.ks.take j).map (fun k=>idV (ids k.b))++[idV (ids t.ks[j].b)])) (hfr:Fr (fun q=>q∈t.blocks∨q=mb) w W4)
 (h:SH l nb Z ids ρ ab mb next fv mv cv uv sv t.ks[j] (upd κj t.b (.slice (some ⟨y3,0,none⟩) (j+1) z3)) cj (EE ids ρ (t.ks.take j) M) (fun q=>(Y q∨w.heap.size≤q∧q < W4.heap.size)∧(Value.slice (some ⟨y3,0,none⟩) (j+1) z3).ownBlock≠some q) W4 w5):
 ∃κ5 c5,Jj l nb Z ids ρ ab mb next fv mv cv uv sv t κ c M Y w (j+1) (.slice (some ⟨y3,0,none⟩) (j+1) z3) κ5 c5 w5:=by
 obtain⟨κ5,c5,h1,h2,h3,h4,h5,h6⟩:=h;obtain⟨n1,n2⟩:=GT.Kg hnd hj;have htk:=GT.CV hj;have hsub:t.ks.take (j+1)=t.ks.take j++[t.ks[j]]:=List.take_succ_eq_append_getElem hj;have hfd:∀q,(Value.slice (some ⟨y3,0,none⟩) (j+1) z3).ownBlock=some q→w.heap.size≤q∧q < W4.heap.size:=own4.lt;refine⟨κ5,c5,h1, ?_,fun b hb hb2=> ?_,h3, ?_, ?_, ?_, ?_⟩
 ·rw[h2 t.b (fun hm=>(n2 _ hm).1 rfl),upd_same]
 ·rw[htk,List.mem_append] at hb2
  rw[h2 b (fun hm=>hb2 (.inr hm)),FX _ _ hb];exact hout b hb (fun hm=>hb2 (.inl hm))
 ·rw[htk,List.length_append,GT.DN];omega
 ·rw[hsub,List.map_append]
  exact Aa own4 h6 (fun q e e'=>by
   have:=(hfd q e).1;rcases e' with e'|e'
   ·have:=hblt q e';omega
   ·omega)
 ·rw[hsub,MU]
  refine h5.imp (fun q hq=> ?_);rcases hq with⟨hq,hq2⟩|hq
  ·exact⟨hq.imp (fun x=>x) (fun x=>⟨x.1,Nat.lt_of_lt_of_le x.2 h6.size⟩),hq2⟩
  ·exact⟨.inr ⟨Nat.le_trans hfr.size hq.1,hq.2⟩,fun e=>by have:=(hfd q e).2;omega⟩
 ·exact hfr.DU h6 (fun q _ e=>e.imp (fun x=>GT.YX hj q x) (fun x=>x))
theorem Xp(l:List GT)(nb:Nat)(Z:Nat→Prop)(hA:Amb l nb Z)(ids ρ:Nat→Nat)(ab mb next:Nat)(fv mv cv uv sv:Value)(hids:∀s∈l,0 < ids s.b∧ids s.b≤1000000):
 ∀(n:Nat) (t:GT),t∈l→t.subs.length≤n→t.blocks.Nodup→∀(κ:Nat→Value) (w:World) (c:Nat) (M:ArM) (Y:Nat→Prop),(∀s∈l,DJ w ids ρ κ Z s)→(∀s∈t.subs,κ s.b= .slice none 0 0)→NmAt w nb (.pointer (some ⟨ab,0,none⟩)) next fv mv cv uv sv→CK Y w ab mb c M→
   (∀q,Z q→q < w.heap.size∧q≠mb)→(∀q,Y q→q < w.heap.size)→(∀s∈l,¬Y s.b)→nb≠mb→c+t.subs.length≤10000→
   Calls Tryz.prog 44 #[.pointer (some ⟨nb,0,none⟩),ptrV t] w fun e w'=>e= .returned (.tuple #[])∧SH l nb Z ids ρ ab mb next fv mv cv uv sv t κ c M Y w w':=by
 intro n
 induction n with
 |zero=>intro t ht hn;rw[GT.Aq] at hn;simp at hn
 |succ n ih=>
   intro t ht hn hnd κ w c M Y hG hnil hN hR hZw hYw hYn hnm hcnt;have IH:=zz ih;have HA:=zz hA;have HT:=zz ht;have HID:=zz hids;obtain⟨i0,hi,hz0,hz1,hz2⟩:=info_parts GA;have hlts:∀s∈l,s.b < w.heap.size:=fun s hs=>(hG s hs).lt;have habm:=hR.lts;have hlenk:t.subs.length=(GT.AP t.ks).length+1:=by rw[GT.Aq,GT.Bf];rfl
   have hkl:t.ks.length≤10000:=by have:=GT.Jd t.ks;omega
   have HM0:=zz (show Jj l nb Z ids ρ ab mb next fv mv cv uv sv t κ c M Y w 0 (.slice none 0 0) κ c w from
    ⟨hG,hnil t (GT.IL t),fun b _ _=>rfl,hN,by simp[GT.AP,GT.BQ],⟨rfl,.inl ⟨rfl,rfl⟩⟩,by
     simp only[List.take_zero,EE];exact hR.imp (fun q h=>⟨.inl h,by simp[Value.ownBlock]⟩),Fr.refl _ _⟩)
   obtain⟨a,cc,hh,hsl,hq⟩:=(hG t ht).open_;have c8:=cell_of_row w t.b 8 _ _ (0,0) hh;simp at c8;have HS:=zz (show∀W,Fr (fun q=>q∈t.blocks∨q=mb) w W→Sl W w.heap.size (.slice a t.ks.length cc) t.ks.length (t.ks.map ptrV) from fun W hf=>hsl.fr (Nat.le_refl _) hf (fun q e e'=>by
    have hz:=hq q e;rcases e' with e|e
    ·obtain⟨s,hs,rfl⟩:=List.mem_map.1 e
     exact hA.nz s (Amb.subs hA n t ht hn s hs) hz
    ·exact(hZw q hz).2 e))
   have HX:=zz (And.intro hnd (And.intro hnil (And.intro hZw (And.intro hYw (And.intro hYn (And.intro hlts (And.intro hN.lt (And.intro habm hnm))))))));clear hG hN hR hZw hYw hYn hlts habm hnil hnd hh hsl hq ih hA ht hids;go_enter Tryz.func44,Tryz.ntmps44;go_wp2
   go_loopw [11] (fun p wr=>∃(j:Nat) (v:Value) (κj:Nat→Value) (cj:Nat),p= .int .i64 (j:Int)∧j≤t.ks.length∧Jj l nb Z ids ρ ab mb next fv mv cv uv sv t κ c M Y w j v κj cj wr) (fun p wr=>t.ks.length-(intOf p).toNat)
   case atStart=>exact⟨0,_,_,_,rfl,Nat.zero_le _,HM0.out⟩
   case round=>
    obtain⟨j,v,κj,cj,rfl,hj,hMid⟩:=hrel;clear HM0;by_cases hlt:j < t.ks.length
    ·obtain⟨b,o,rfl,_,kc⟩:=(HS.out wr hMid.fr).mapAt hlt
     have hkm:t.ks[j]∈t.ks:=List.getElem_mem hlt;have hkl2:t.ks[j]∈l:=HA.out.kids t HT.out _ hkm;have hnt:=hMid.node t HT.out;have hnk:=hMid.node t.ks[j] hkl2;have htbr:=hnt.lt;have hkbr:=hnk.lt;obtain⟨_,_,hht,_⟩:=hnt.open_;obtain⟨_,_,hhk,_⟩:=hnk.open_;have c5:=cell_of_row wr t.b 5 _ _ (0,0) hht;have c9:=cell_of_row wr t.ks[j].b 9 _ _ (0,0) hhk;simp at c5 c9;rw[hMid.here] at c5;have f5:∀i,wr.frozen? ⟨t.b,i,none⟩=false:=fun i=>by simp[World.frozen?,hht]
     have htw:=HX.out.2.2.2.2.2.1 t HT.out;have hkw:=HX.out.2.2.2.2.2.1 t.ks[j] hkl2;have HOW:=zz (show wr.drew.ownsRow w.heap.size 30 1 v j ((t.ks.take j).map (fun k=>idV (ids k.b))) from hMid.own);have HOL:=zz (fun q e=>(hMid.own.lt q e).1);have HFR:=zz hMid.fr;have HMD:=zz hMid;have hHeld:(fun w'=>w'.cell? ⟨t.b,5,none⟩=some v∧w'.cell? ⟨t.ks[j].b,9,none⟩=some (.int .u64 (ids t.ks[j].b:Int))) wr.drew:=⟨c5,c9⟩;clear hMid hht hhk;go_wp2;refine AR (fun w'=>w'.cell? ⟨t.b,5,none⟩=some v∧w'.cell? ⟨t.ks[j].b,9,none⟩=some (.int .u64 (ids t.ks[j].b:Int))) 12 (by kernel_rfl) ?_;refine tz 0 _ _ _ ?_;refine tz 1 _ _ _ ?_;refine tz 2 _ _ _ ?_;refine tz 3 _ _ _ ?_;refine tz 4 _ _ _ ?_;refine tz 5 _ _ _ ?_;refine tz 6 _ _ _ ?_;refine tz 7 _ _ _ ?_;refine tz 8 _ _ _ ?_;refine tz 9 _ _ _ ?_;refine AB (i:=10) rfl (by kernel_rfl) (fun K hK=> ?_);go_simp;generalize hWa:World.alloc _ _=Wa;obtain⟨hBa,hha,hza⟩:=C8 hWa;have HZa:=zz hza;have HBa:=zz hBa;clear hza hWa hBa;refine hK.out _ _ (⟨(HBa.out.cell (p:=⟨t.b,5,none⟩) htbr).trans hHeld.1,(HBa.out.cell (p:=⟨t.ks[j].b,9,none⟩) hkbr).trans hHeld.2⟩) (fun hHeld=> ?_);clear hK K
     try simp only[Act.put,sA,sB,sC,sD,sE,sF]
     refine AB (i:=11) rfl (by kernel_rfl) (fun K hK=> ?_);refine Ac rfl (.tmp 20) (.tmp 25) _ rfl w.heap.size 30 i0 _ 1 8 Tryz.underlying31 hi hz0 hz1 hz2 rfl (by decide) v j ((t.ks.take j).map (fun k=>idV (ids k.b))) rfl (Pv HOW.out (show Below wr.heap.size wr.drew Wa.drew from⟨HBa.out.os,HBa.out.tape,HBa.out.output,HBa.out.size,HBa.out.block⟩) (Nat.le_refl _)) ⟨wr.heap.size,0,none⟩ 1 1 [idV (ids t.ks[j].b)] rfl rfl ?_ (by intro u hu;simp only[List.mem_singleton] at hu;subst hu;rfl) ?_ ?_ ?_ ?_
     ·exact Ij hha
     ·unfold maxLen;omega
     ·omega
     ·have:=HFR.out.size;have:=HZa.out;show w.heap.size≤Wa.heap.size;omega
     intro v3 W3 own3 g3 at3;obtain⟨y3,z3,rfl⟩:=ownsRow_succ own3;have hnb1:(some t.b:Option Nat)≠v.ownBlock:=fun e=>by have:=HOL.out t.b e.symm;omega
     have hnb2:(some t.ks[j].b:Option Nat)≠v.ownBlock:=fun e=>by have:=HOL.out t.ks[j].b e.symm;omega
     have HG3:=zz (show Wa.grownBy W3 v.ownBlock from⟨g3.os,g3.tape,g3.output,g3.size,g3.block⟩);have HO3:=zz (And.intro own3 at3);clear own3 at3;refine hK.out _ _ (⟨g3.cell hHeld.1 hnb1,g3.cell hHeld.2 hnb2⟩) (fun hHeld=> ?_);clear hK K
     try simp only[Act.put,sA,sB,sC,sD,sE,sF]
     refine AL (by kernel_rfl) ?_;simp only[List.drop_succ_cons,List.drop_zero];have f5:∀i,W3.frozen? ⟨t.b,i,none⟩=false:=fun i=>(World.frozen?_of_block (a:=⟨t.b,i,none⟩) ((HG3.out.block t.b (Nat.lt_of_lt_of_le htbr HBa.out.size) hnb1).trans (HBa.out.block t.b htbr))).trans (f5 i);have c5:=hHeld.1;have HGR:=zz (HMD.out.grow (fun q hz=>(HX.out.2.2.1 q hz).1) HX.out.2.2.2.1 HX.out.2.2.2.2.2.1 HT.out (HA.out.nz t HT.out) HX.out.2.2.2.2.1 HX.out.2.2.2.2.2.2.1 (HA.out.ne t HT.out) HX.out.2.2.2.2.2.2.2.1 HBa.out HG3.out (idV (ids t.ks[j].b)) HO3.out.1 HO3.out.2);have hsub:=GT.F6 hkm;have htake:=GT.CV hlt;have hle:=GT.CY t.ks (j+1);rw[htake,List.length_append,GT.DN] at hle;have hcm:=HMD.out.cnt;have TL:=zz (IH.out t.ks[j] hkl2 (by omega) (GT.Kg HX.out.1 hlt).1 _ _ cj _ _ HGR.out.1 (fun s hs=>by
      have hb:=GT.GX hs;have h1:=(GT.Kg HX.out.1 hlt).2 s.b hb;rw[FX _ _ h1.1,HMD.out.out s.b h1.1 h1.2];exact HX.out.2.1 s (by rw[GT.Aq];exact List.mem_cons_of_mem _ (GT.Gp hkm s hs))) HGR.out.2.1 HGR.out.2.2.2.1 (fun q hz=>⟨Nat.lt_of_lt_of_le (HX.out.2.2.1 q hz).1 HGR.out.2.2.2.2.size,(HX.out.2.2.1 q hz).2⟩) (fun q hq=>by
      rcases hq.1 with h|h
      ·exact Nat.lt_of_lt_of_le (HX.out.2.2.2.1 q h) HGR.out.2.2.2.2.size
      ·exact h.2) (fun s hs hq=>by
      rcases hq.1 with h|h
      ·exact HX.out.2.2.2.2.1 s hs h
      ·have:=HX.out.2.2.2.2.2.1 s hs;omega) hnm (by omega))
     have HBL:=zz (show∀b∈(t.ks[j]).blocks,b < w.heap.size from fun b hb=>by
      obtain⟨s,hs,rfl⟩:=List.mem_map.1 hb;exact HX.out.2.2.2.2.2.1 s (Amb.subs HA.out n t HT.out hn s (by rw[GT.Aq];exact List.mem_cons_of_mem _ (GT.Gp hkm s hs))))
     have HLT:=zz hlt;clear hHeld g3 hha hnb1 hnb2 c9 hsub htake hle hcm hkm hkbr htw hkw;go_wp2_with fail;refine TL.out.mono ?_;rintro e w5 ⟨rfl,hR5⟩;obtain⟨κ5,c5',hM5⟩:=Jj.next HLT.out HX.out.1 HMD.out.out HMD.out.cnt HBL.out HX.out.2.2.2.2.2.2.2.1.2 HGR.out.2.2.1 HGR.out.2.2.2.2 hR5;have HM5:=zz hM5;clear hR5 hM5 HGR TL HMD HBL HO3 HG3 HBa HZa HFR HOL HOW;go_wp2;go_roundw
     case rel=>exact⟨j+1,_,κ5,c5',by go_num,by omega,HM5.out⟩
     case measure=>simp[intOf];omega
    ·obtain rfl:j=t.ks.length:=by omega
     have hkids:(t.node ids ρ).kids.length=t.ks.length:=by simp[GT.node]
     have hnt:=hMid.node t HT.out;obtain⟨_,_,hht,_⟩:=hnt.open_;rw[hMid.here] at hht;have hsl:=Sl.AX hMid.own;obtain⟨ka,kc,rfl⟩:=hsl.form;rw[List.take_length,←hkids] at hsl;rw[←hkids] at hht;have hsl2:Sl wr wr.heap.size (.slice ka (t.node ids ρ).kids.length kc) (t.node ids ρ).kids.length ((t.node ids ρ).kids.map idV):=by
      have e:t.ks.map (fun k=>idV (ids k.b))=(t.node ids ρ).kids.map idV:=by simp[GT.node,List.map_map]
      rw[e] at hsl;exact hsl
     have har:=hMid.ar;rw[List.take_length] at har;have hcm:=hMid.cnt;rw[List.take_length] at hcm;have hido:=HID.out t HT.out;have TP:=zz (SV _ ab mb cj (EE ids ρ t.ks M) (ids t.b) (t.node ids ρ) ka kc wr.drew (har.below ((Below.refl _ _).drew) (Nat.le_refl _)) (by unfold Ae;omega) (by omega) (.inr (by omega)) (by omega) hsl2 (by omega));have k:=fun i=>cell_of_row wr t.b i _ _ (0,0) hht;have k0:=k 0;have k1:=k 1;have k2:=k 2;have k3:=k 3;have k4:=k 4;have k5:=k 5;have k9:=k 9;simp at k0 k1 k2 k3 k4 k5 k9;have n0:=hMid.nm.cell0;have HMD:=zz hMid;have HCM:=zz hcm;have hHeld:(fun w'=>w'.cell? ⟨nb,0,none⟩=some (.pointer (some ⟨ab,0,none⟩))∧w'.cell? ⟨t.b,9,none⟩=some (.int .u64 (ids t.b:Int))∧w'.cell? ⟨t.b,0,none⟩=some (.int .u8 (t.nd.kind:Int))∧w'.cell? ⟨t.b,1,none⟩=some (strV t.nd.name)∧w'.cell? ⟨t.b,2,none⟩=some (.int .i64 t.nd.num)∧w'.cell? ⟨t.b,3,none⟩=some (.int .u8 (t.nd.type:Int))∧w'.cell? ⟨t.b,4,none⟩=some (.int .u64 (ρ t.b:Int))∧w'.cell? ⟨t.b,5,none⟩=some (.slice ka (t.node ids ρ).kids.length kc)) wr.drew:=⟨n0,k9,k0,k1,k2,k3,k4,k5⟩;clear hMid hht hsl hsl2 har hcm k hkids hido;go_wp2;refine AR (fun w'=>w'.cell? ⟨nb,0,none⟩=some (.pointer (some ⟨ab,0,none⟩))∧w'.cell? ⟨t.b,9,none⟩=some (.int .u64 (ids t.b:Int))∧w'.cell? ⟨t.b,0,none⟩=some (.int .u8 (t.nd.kind:Int))∧w'.cell? ⟨t.b,1,none⟩=some (strV t.nd.name)∧w'.cell? ⟨t.b,2,none⟩=some (.int .i64 t.nd.num)∧w'.cell? ⟨t.b,3,none⟩=some (.int .u8 (t.nd.type:Int))∧w'.cell? ⟨t.b,4,none⟩=some (.int .u64 (ρ t.b:Int))∧w'.cell? ⟨t.b,5,none⟩=some (.slice ka (t.node ids ρ).kids.length kc)) 12 (by kernel_rfl) ?_;refine tz 0 _ _ _ ?_;refine tz 1 _ _ _ ?_;refine tz 2 _ _ _ ?_;refine tz 3 _ _ _ ?_;refine tz 4 _ _ _ ?_;refine tz 5 _ _ _ ?_;refine tz 6 _ _ _ ?_;refine tz 7 _ _ _ ?_;refine tz 8 _ _ _ ?_;refine tz 9 _ _ _ ?_;refine tz 10 _ _ _ ?_;refine tz 11 _ _ _ ?_;refine AL (by kernel_rfl) ?_;simp only[List.drop_succ_cons,List.drop_zero];go_wp2_with fail;refine TP.out.mono ?_;rintro e w6 ⟨rfl,hA6,hg6⟩;have HF:=zz (show SH l nb Z ids ρ ab mb next fv mv cv uv sv t κ c M Y w w6 from by
      have hm:=HMD.out;have hg6':wr.grownBy w6 (some mb):=⟨hg6.os,hg6.tape,hg6.output,hg6.size,hg6.block⟩;refine⟨κj,if ((EE ids ρ t.ks M) (ids t.b)).isSome then cj else cj+1,fun s hs=>(hm.node s hs).frr (D:=fun q=>q=mb) (Fr.Cn hg6' (fun q e=>by injection e with e;exact e.symm)) (fun e=>(LY hm.ar (hm.node s hs)).2 e) (fun q hz e=>(HX.out.2.2.1 q hz).2 e),fun b hb=> ?_,(hg6'.block nb hm.nm.lt (fun e=>by injection e with e;exact hnm e)).trans hm.nm, ?_, ?_,hm.fr.step hg6' (fun q e=> .inl (.inr (by injection e with e;exact e.symm)))⟩
      ·rw[GT.Dx,List.mem_cons] at hb
       exact hm.out b (fun e=>hb (.inl e)) (fun e=>hb (.inr (by rw[List.take_length] at e;exact e)))
      ·have h1:=HCM.out
       split <;>omega
      ·rw[O0]
       refine hA6.imp (fun q hq=> ?_);rcases hq with⟨hq,_⟩|hq
       ·exact hq.imp (fun x=>x) (fun x=>⟨x.1,Nat.lt_of_lt_of_le x.2 hg6'.size⟩)
       ·exact .inr ⟨Nat.le_trans hm.fr.size hq.1,hq.2⟩)
     clear hA6 hg6 HMD TP hHeld;go_wp2;go_end0;exact⟨rfl,HF.out⟩
end Go.Proofs.YtljmibnfmilfbaaGreatDoor
