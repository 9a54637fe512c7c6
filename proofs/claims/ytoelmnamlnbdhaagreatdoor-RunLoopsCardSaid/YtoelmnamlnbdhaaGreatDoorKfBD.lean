/-
  Part of a proof of RunLoops: contracts of functions that the claim reaches, and plain lemmas.
-/
import Derived.Test.YtoelmnamlnbdhaaGreatDoorKfBC
set_option linter.all false
namespace Hg
theorem nKids_nil (σ : NmSt) : nKids σ [] = .ok σ := by rw [nKids]
theorem nKids_cons (σ : NmSt) (k : GT) (ks : List GT) : nKids σ (k :: ks) = match (if k.nd.kind = 4 then σ.declare k else nVisit σ k) with
 | .error e => .error e
 | .ok σ1 => nKids σ1 ks := by rw [nKids]; rfl
theorem Bd.kid {σ σ' : NmSt} {N : Nat} {k : GT} (h : Bd σ N) (hk : (if k.nd.kind = 4 then σ.declare k else nVisit σ k) = .ok σ') : Bd σ' (N + 2 * k.subs.length) := by
 by_cases h4 : k.nd.kind = 4
 ·
  rw [if_pos h4] at hk
  exact (h.declare hk).more (by rw [GT.subs_eq]; simp; omega)
 ·
  rw [if_neg h4] at hk
  exact nVisit_bd _ _ (Nat.le_refl _) _ _ _ h hk
theorem nKids_bd : ∀ (ks : List GT) (σ σ' : NmSt) (N : Nat), Bd σ N → nKids σ ks = .ok σ' → Bd σ' (N + 2 * (GT.subsL ks).length) := by
 intro ks
 induction ks with
 | nil =>
   intro σ σ' N hB hv
   rw [nKids_nil] at hv
   injection hv with hv
   subst hv
   exact hB.more (by omega)
 | cons k ks ih =>
   intro σ σ' N hB hv
   rw [nKids_cons] at hv
   cases h1 : (if k.nd.kind = 4 then σ.declare k else nVisit σ k) with
   | error e => rw [h1] at hv; cases hv
   | ok σ1 =>
     rw [h1] at hv
     have b2 := ih σ1 σ' _ (hB.kid h1) hv
     rw [GT.subsL_cons, List.length_append]
     exact b2.more (by omega)
def NmSt.fresh (σ : NmSt) : NmSt := { σ with used := [], scope := [[]] }
theorem nFunc_eq (fs : Funs) (σ : NmSt) (mod : Str) (f : GT) : nFunc fs σ mod f = match gl fs (mod, f.nd.name) with
 | some _ => .error 1
 | none => match nKids σ.fresh f.ks with
   | .error e => .error e
   | .ok σ1 => .ok (((mod, f.nd.name), f.b) :: fs, σ1) := by
 unfold nFunc gl
 cases h : fs.find? (·.1 == (mod, f.nd.name)) with
 | none => rfl
 | some p => rfl
theorem nFunc_bd {fs fs' : Funs} {σ σ' : NmSt} {mod : Str} {f : GT} {N : Nat} (h : σ.calls.length ≤ N) (hr : nFunc fs σ mod f = .ok (fs', σ')) : σ'.calls.length ≤ N + 2 * f.subs.length ∧ fs'.length = fs.length + 1 := by
 rw [nFunc_eq] at hr
 cases hg : gl fs (mod, f.nd.name) with
 | some v => rw [hg] at hr; cases hr
 | none =>
   rw [hg] at hr
   dsimp only at hr
   cases hk : nKids σ.fresh f.ks with
   | error e => rw [hk] at hr; cases hr
   | ok σ1 =>
     rw [hk] at hr
     injection hr with hr
     injection hr with h1 h2
     subst h1
     subst h2
     have hb := (nKids_bd f.ks σ.fresh _ (N + 1) ⟨Nat.zero_le _, fun m hm => by simp [NmSt.fresh] at hm; subst hm; simp, by simp [NmSt.fresh], by show σ.calls.length ≤ N + 1; omega⟩ hk).ca
     rw [GT.subs_eq f]
     exact ⟨by simp; omega, rfl⟩
theorem Bd.fresh {σ : NmSt} {N : Nat} (h : σ.calls.length ≤ N) : Bd σ.fresh (N + 1) :=
 ⟨Nat.zero_le _, fun m hm => by simp [NmSt.fresh] at hm; subst hm; simp, by simp [NmSt.fresh], by show σ.calls.length ≤ N + 1; omega⟩
end Hg
namespace Go.Proofs.YtoelmnamlnbdhaaGreatDoor
open Go.RowKit
open Hg (GT gl Bd)
def funM (fs : Hg.Funs) : List ((List UInt8 × List UInt8) × Value) := fs.map fun p => (p.1, ptrB p.2)
theorem gl_funM (fs : Hg.Funs) (x : List UInt8 × List UInt8) : gl (funM fs) x = (gl fs x).map ptrB := Hg.gl_map ptrB fs x
structure NB (l : List GT) (nb : Nat) (Z : Nat → Prop) (B : Nat) (ids : Nat → Nat) (av : Value) (next : Nat) (fb : Nat) (mv : Value) (cv : Value) (ρ : Nat → Nat) (σ : Hg.NmSt) (fs : Hg.Funs) (w : World) : Prop where
 nm : ∃ uv sv, NmAt w nb av next (.map (some fb)) mv cv uv sv
 fm : FMap w fb (funM fs)
 fl : fb < B
 cs : w.ownsRow B 41 1 cv σ.calls.length (σ.calls.map ptrV)
 node : ∀ s ∈ l, NodeR w ids ρ nilK Z s
 ref : ∀ b, ρ b = ((gl σ.refs b).map ids).getD 0
 kin : ∀ c ∈ σ.calls, c ∈ l
 fin : ∀ p ∈ fs, ∃ s ∈ l, s.b = p.2
 sz : B ≤ w.heap.size
section
variable {l : List GT} {nb : Nat} {Z : Nat → Prop} {B : Nat} {ids : Nat → Nat} {av : Value} {next : Nat} {fb : Nat} {mv : Value} {cv : Value} {ρ : Nat → Nat} {σ : Hg.NmSt} {fs : Hg.Funs} {w w' : World}
theorem NB.map_ne (h : NB l nb Z B ids av next fb mv cv ρ σ fs w) {q : Nat} {es : Array MapEntry} {ck : Nat} (hh : w.heap[q]? = some (.map es ck)) : nb ≠ q ∧ ∀ s ∈ l, s.b ≠ q := by
 refine ⟨fun e => ?_, fun s hs e => ?_⟩
 ·
  obtain ⟨uv, sv, h1⟩ := h.nm
  have h1 : w.heap[nb]? = _ := h1
  rw [e, hh] at h1; cases h1
 ·
  obtain ⟨a, c, h1, _⟩ := (h.node s hs).open_
  rw [e, hh] at h1; cases h1
theorem NB.fne (h : NB l nb Z B ids av next fb mv cv ρ σ fs w) : ¬ NOwn l nb B fb := by
 obtain ⟨es, ck, hm⟩ := h.fm.obj
 obtain ⟨h1, h2⟩ := h.map_ne hm
 have := h.fl
 rintro ((e | ⟨s, hs, e⟩) | e)
 ·
  exact h1 e.symm
 ·
  exact h2 s hs e.symm
 ·
  omega
theorem NB.below (h : NB l nb Z B ids av next fb mv cv ρ σ fs w) (hb : Below w.heap.size w w') : NB l nb Z B ids av next fb mv cv ρ σ fs w' := by
 have hg := below_grown50 hb none
 have hor : ∀ v : Value, v.ownBlock = none ∨ v.ownBlock ≠ none := fun v => by cases v.ownBlock <;> simp
 obtain ⟨uv, sv, hn⟩ := h.nm
 exact ⟨⟨uv, sv, (hb.block nb hn.lt).trans hn⟩, h.fm.keep (hb.block fb h.fm.lt), h.fl, h.cs.kept hg (hor cv), fun s hs => (h.node s hs).frr (D := fun _ => False) (Fr.of_grown hg (fun q e => by cases e)) (fun e => e) (fun q _ e => e), h.ref, h.kin, h.fin, Nat.le_trans h.sz hb.size⟩
theorem NB.drew (h : NB l nb Z B ids av next fb mv cv ρ σ fs w) : NB l nb Z B ids av next fb mv cv ρ σ fs w.drew := h.below ((Below.refl _ _).drew)
theorem NB.put (h : NB l nb Z B ids av next fb mv cv ρ σ fs w) (hL : Low l nb Z B) (hA : Amb l nb Z) (hZf : ¬ Z fb) {x : List UInt8 × List UInt8} {t : GT} (ht : t ∈ l) (hg : w.grownBy w' (some fb)) (hu : FMap w' fb (funM ((x, t.b) :: fs))) : NB l nb Z B ids av next fb mv cv ρ σ ((x, t.b) :: fs) w' := by
 obtain ⟨es, ck, hm⟩ := h.fm.obj
 obtain ⟨hn, hb⟩ := h.map_ne hm
 obtain ⟨uv, sv, hnm⟩ := h.nm
 refine ⟨⟨uv, sv, (hg.block nb hnm.lt (fun e => by injection e with e; exact hn e)).trans hnm⟩, hu, h.fl, h.cs.kept hg (own_not_map h.cs hm), fun s hs => ?_, h.ref, h.kin, fun p hp => ?_, Nat.le_trans h.sz hg.size⟩
 ·
  exact (h.node s hs).frr (D := fun q => q = fb) (Fr.of_grown hg (fun q e => by injection e with e; exact e.symm)) (hb s hs) (fun q hz e => hZf (e ▸ hz))
 ·
  rcases List.mem_cons.1 hp with e | e
  ·
   subst e; exact ⟨t, ht, rfl⟩
  ·
   exact h.fin p e
theorem NB.refUp (h : NB l nb Z B ids av next fb mv cv ρ σ fs w) (hL : Low l nb Z B) (hA : Amb l nb Z) {t : GT} (ht : t ∈ l) (v : Nat) :
 NB l nb Z B ids av next fb mv cv (upd ρ t.b (ids v)) { σ with refs := (t.b, v) :: σ.refs } fs (w.setCell ⟨t.b, 4, none⟩ (.int .u64 (ids v : Int))) := by
 have hg := grown_set (grown_refl w (some t.b)) 4 (.int .u64 (ids v : Int))
 have htB := hL.tree t ht
 obtain ⟨uv, sv, hnm⟩ := h.nm
 obtain ⟨es, ck, hm⟩ := h.fm.obj
 have hbf := (h.map_ne hm).2 t ht
 refine ⟨⟨uv, sv, (hg.block nb hnm.lt (fun e => by injection e with e; exact hA.ne t ht e.symm)).trans hnm⟩, h.fm.keep (hg.block fb h.fm.lt (fun e => by injection e with e; exact hbf e.symm)), h.fl, ?_, fun s hs => (h.node s hs).setRef (ids v) (hA.nz t ht), fun b => ?_, h.kin, h.fin, by simpa using h.sz⟩
 ·
  refine h.cs.kept hg ?_
  cases hv : cv.ownBlock with
  | none => exact .inl rfl
  | some q => exact .inr (fun e => by injection e with e; have := (h.cs.lt q hv).1; omega)
 ·
  show upd ρ t.b (ids v) b = ((gl ((t.b, v) :: σ.refs) b).map ids).getD 0
  rw [Hg.gl_cons]
  by_cases e : t.b = b
  ·
   subst e
   rw [upd_same, if_pos (by simp)]
   rfl
  ·
   rw [upd_other _ _ (fun h => e h.symm), if_neg (by simpa using e)]
   exact h.ref b
theorem NS.done {ub : Nat} {sv : Value} {qs : List Nat} (h : NS l nb Z B ids av next (.map (some fb)) mv ub cv sv qs ρ σ w) (hf : FMap w fb (funM fs)) (hl : fb < B) (hi : ∀ p ∈ fs, ∃ s ∈ l, s.b = p.2) : NB l nb Z B ids av next fb mv cv ρ σ fs w :=
 ⟨⟨_, _, h.nm⟩, hf, hl, h.cs, h.node, h.ref, h.kin, hi, h.size⟩
def begun (w : World) (nb : Nat) : World := ((((w.setCell ⟨nb, 5, none⟩ (.map (some w.heap.size))).setCell ⟨nb, 6, none⟩ (.slice (some ⟨w.heap.size + 1 + 1, 0, none⟩) 1 1)).alloc (.map #[] 0)).alloc (.map #[] 0)).alloc (.cells #[.map (some (w.heap.size + 1))] 104)
theorem NB.start (h : NB l nb Z B ids av next fb mv cv ρ σ fs w) (hL : Low l nb Z B) (hA : Amb l nb Z) :
 NS l nb Z B ids av next (.map (some fb)) mv w.heap.size cv (.slice (some ⟨w.heap.size + 1 + 1, 0, none⟩) 1 1) [w.heap.size + 1] ρ σ.fresh (begun w nb) ∧ Fr (fun q => q = nb) w (begun w nb) := by
 have hnB := hL.nb
 have hsz := h.sz
 obtain ⟨uv, sv, hnm⟩ := h.nm
 have hn1 : ((w.setCell ⟨nb, 5, none⟩ (.map (some w.heap.size))).setCell ⟨nb, 6, none⟩ (.slice (some ⟨w.heap.size + 1 + 1, 0, none⟩) 1 1)).heap[nb]? = some (.cells (nmCells av next (.map (some fb)) mv cv (.map (some w.heap.size)) (.slice (some ⟨w.heap.size + 1 + 1, 0, none⟩) 1 1)) 51 (0, 0)) := by
  have h5 : (w.setCell ⟨nb, 5, none⟩ (.map (some w.heap.size))).heap[nb]? = some (.cells (nmCells av next (.map (some fb)) mv cv (.map (some w.heap.size)) sv) 51 (0, 0)) := heap_setCell_same hnm _
  exact heap_setCell_same h5 _
 have hf1 : Fr (fun q => q = nb) w ((w.setCell ⟨nb, 5, none⟩ (.map (some w.heap.size))).setCell ⟨nb, 6, none⟩ (.slice (some ⟨w.heap.size + 1 + 1, 0, none⟩) 1 1)) := ((Fr.refl (fun q => q = nb) w).set (p := ⟨nb, 5, none⟩) (.inl rfl) _).set (p := ⟨nb, 6, none⟩) (.inl rfl) _
 have hz1 : ((w.setCell ⟨nb, 5, none⟩ (.map (some w.heap.size))).setCell ⟨nb, 6, none⟩ (.slice (some ⟨w.heap.size + 1 + 1, 0, none⟩) 1 1)).heap.size = w.heap.size := by simp
 unfold begun
 generalize World.setCell (World.setCell w _ _) _ _ = WS at hn1 hf1 hz1 ⊢
 have hb3 : Below WS.heap.size WS (((WS.alloc (.map #[] 0)).alloc (.map #[] 0)).alloc (.cells #[.map (some (w.heap.size + 1))] 104)) := (((Below.refl _ _).alloc (Nat.le_refl _) _).alloc (by simp) _).alloc (by simp; omega) _
 have hf : Fr (fun q => q = nb) w (((WS.alloc (.map #[] 0)).alloc (.map #[] 0)).alloc (.cells #[.map (some (w.heap.size + 1))] 104)) := ((hf1.alloc _).alloc _).alloc _
 have hm1 : SMap (((WS.alloc (.map #[] 0)).alloc (.map #[] 0)).alloc (.cells #[.map (some (w.heap.size + 1))] 104)) w.heap.size [] := by
  have := XMap.made 9 strV WS
  rw [hz1] at this
  exact (this.keep (heap_alloc_old _ _ (by simp; omega))).keep (heap_alloc_old _ _ (by simp; omega))
 have hm2 : SMap (((WS.alloc (.map #[] 0)).alloc (.map #[] 0)).alloc (.cells #[.map (some (w.heap.size + 1))] 104)) (w.heap.size + 1) [] := by
  have := XMap.made 9 strV (WS.alloc (.map #[] 0))
  rw [show (WS.alloc (.map #[] 0)).heap.size = w.heap.size + 1 by simp [hz1]] at this
  exact this.keep (heap_alloc_old _ _ (by simp; omega))
 have hnew : (((WS.alloc (.map #[] 0)).alloc (.map #[] 0)).alloc (.cells #[.map (some (w.heap.size + 1))] 104)).heap[w.heap.size + 1 + 1]? = some (.cells #[.map (some (w.heap.size + 1))] 104 (0, 0)) := by
  have := heap_alloc_new ((WS.alloc (.map #[] 0)).alloc (.map #[] 0)) (.cells #[.map (some (w.heap.size + 1))] 104)
  simpa [hz1] using this
 refine ⟨⟨(hb3.block nb (show nb < WS.heap.size by have := hnm.lt; omega)).trans hn1, hm1, hsz, ?_, ⟨rfl, .inr ⟨w.heap.size + 1 + 1, 1, #[.map (some (w.heap.size + 1))], rfl, by omega, hnew, Nat.le_refl _, by unfold maxLen; omega, rfl, rfl⟩⟩, ⟨hm2, by omega, by omega, by simp, trivial⟩, fun s hs => (h.node s hs).frr hf (hA.ne s hs) (fun q hz e => hA.nbz (e ▸ hz)), fun m hm p hp => ?_, h.ref, h.kin⟩, hf⟩
 ·
  exact ownsRow_fr h.cs hf (fun q e e' => by have := (h.cs.lt q e).1; omega)
 ·
  simp [Hg.NmSt.fresh] at hm
  subst hm
  simp at hp
end
end Go.Proofs.YtoelmnamlnbdhaaGreatDoor
namespace Go.Proofs.YtoelmnamlnbdhaaGreatDoor
open Go.RowKit
open Hg (GT gl Bd)
set_option maxHeartbeats 8000000 in
set_option maxRecDepth 100000 in
theorem nfunc_any (l : List GT) (nb : Nat) (Z : Nat → Prop) (B : Nat) (hL : Low l nb Z B) (hA : Amb l nb Z) (ids : Nat → Nat) (av : Value) (next : Nat) (fb : Nat) (hZf : ¬ Z fb) (mv : Value) (hlen : ∀ s ∈ l, s.nd.name.length ≤ 1000000 ∧ s.tt.length ≤ 1000000)
 (mod : List UInt8) (hm : mod.length ≤ 1000000) (f : GT) (hfl : f ∈ l) (cv : Value) (ρ : Nat → Nat) (σ : Hg.NmSt) (fs : Hg.Funs) (N : Nat) (w : World) (h0 : Hg.nFunc fs σ mod f ≠ .error 0) (hB : σ.calls.length ≤ N) (hN : N + 2 * f.subs.length + 2 ≤ 1000000) (hfs : fs.length ≤ 1000000) (hS : NB l nb Z B ids av next fb mv cv ρ σ fs w) :
 Calls Tryz.prog 23 #[.pointer (some ⟨nb, 0, none⟩), strV mod, ptrV f] w fun e w' => Fr (fun q => NOwn l nb B q ∨ q = fb) w w' ∧ match Hg.nFunc fs σ mod f with
  | .ok (fs', σ') => e = .returned (.int .i64 0) ∧ ∃ cv ρ, NB l nb Z B ids av next fb mv cv ρ σ' fs' w'
  | .error k => e = .returned (.int .i64 (errNo k : Int)) := by
 have hzp : ∀ W : World, (zeroValue 41).run Tryz.prog W = .ok (.pointer none) W := fun W => by kernel_rfl
 have hkey := keyOf_full mod f.nd.name hm (hlen f hfl).1
 obtain ⟨uv, sv, hnm⟩ := hS.nm
 have HS := Lib.hid hS
 have HA := Lib.hid hA
 have HLW := Lib.hid hL
 have HFL := Lib.hid hfl
 have HLEN := Lib.hid hlen
 have HN := Lib.hid (And.intro hB (And.intro hN hfs))
 obtain ⟨a, c, hh, -, -⟩ := (hS.node f hfl).open_
 have c1 := cell_of_row w f.b 1 _ _ (0, 0) hh
 have c2 := cell_of_row w nb 2 _ _ (0, 0) hnm
 simp at c1 c2
 have hnl := hnm.lt
 have hmm := @run_makeMap Tryz.prog
 generalize hr : Hg.nFunc fs σ mod f = r at h0 ⊢
 rw [Hg.nFunc_eq] at hr
 have H0 := Lib.hid h0
 have HR := Lib.hid hr
 clear hS hL hA hfl hlen hB hN hfs hh h0 hr
 go_enter Tryz.func23, Tryz.ntmps23
 go_wp2
 have hbA : Below w.heap.size w (w.alloc (.cells #[strV mod, strV f.nd.name] 80)) := (Below.refl _ _).alloc (Nat.le_refl _) _
 have hkA := heap_alloc_new w (.cells #[strV mod, strV f.nd.name] 80)
 have HFR := Lib.hid ((Fr.refl (fun q => NOwn l nb B q ∨ q = fb) w).alloc (.cells #[strV mod, strV f.nd.name] 80))
 have hSA := HS.out.below hbA
 have c2 : (w.alloc (.cells #[strV mod, strV f.nd.name] 80)).cell? ⟨nb, 2, none⟩ = some (.map (some fb)) := (hbA.cell hnl).trans c2
 generalize World.alloc w _ = WA at hbA hkA HFR hSA c2 ⊢
 have k0 := cell_of_row WA w.heap.size 0 _ _ (0, 0) hkA
 have k1 := cell_of_row WA w.heap.size 1 _ _ (0, 0) hkA
 simp at k0 k1
 have hlkA := (hSA.fm.keep (w' := WA.drew) rfl).look (x := (mod, f.nd.name)) (t := 46) full_keyed Tryz.underlying46 (hzp _) hkey
 rw [gl_funM] at hlkA
 have HSA := Lib.hid hSA
 clear hSA hbA hnm hkA c1
 generalize w.heap.size = kb at k0 k1 ⊢
 cases hg : gl fs (mod, f.nd.name) with
 | some v =>
   rw [hg] at hlkA HR
   have hre : r = .error 1 := HR.out.symm
   subst hre
   replace hlkA : (Instr.lookup 46 (.map (some fb)) (.agg #[strV mod, strV f.nd.name]) false).run Tryz.prog WA.drew = .ok (.pointer (some ⟨v, 0, none⟩)) WA.drew := hlkA
   have HFA := Lib.hid HFR.out.drew
   have hHeld : (fun w' => w'.cell? ⟨nb, 2, none⟩ = some (.map (some fb)) ∧ w'.cell? ⟨kb, 0, none⟩ = some (strV mod) ∧ w'.cell? ⟨kb, 1, none⟩ = some (strV f.nd.name) ∧ (Instr.lookup 46 (.map (some fb)) (.agg #[strV mod, strV f.nd.name]) false).run Tryz.prog w' = .ok (.pointer (some ⟨v, 0, none⟩)) w') WA.drew := ⟨c2, k0, k1, hlkA⟩
   refine wp_region_two (fun w' => w'.cell? ⟨nb, 2, none⟩ = some (.map (some fb)) ∧ w'.cell? ⟨kb, 0, none⟩ = some (strV mod) ∧ w'.cell? ⟨kb, 1, none⟩ = some (strV f.nd.name) ∧ (Instr.lookup 46 (.map (some fb)) (.agg #[strV mod, strV f.nd.name]) false).run Tryz.prog w' = .ok (.pointer (some ⟨v, 0, none⟩)) w') 6 (by kernel_rfl) ?_
   refine tk 0 ?_ rfl (by kernel_rfl) (fun _ _ _ h => h) ‹_› (by rfl) ?_ ?_
   rotate_left
   · (intro w' hSw; (try dsimp only at hSw); go_simp; try with_reducible rfl)
   try simp only [Act.put, sA, sB, sC, sD, sE, sF]
   refine tk 1 ?_ rfl (by kernel_rfl) (fun _ _ _ h => h) ‹_› (by rfl) ?_ ?_
   rotate_left
   · (intro w' hSw; (try dsimp only at hSw); go_simp; try with_reducible rfl)
   try simp only [Act.put, sA, sB, sC, sD, sE, sF]
   refine tk 2 ?_ rfl (by kernel_rfl) (fun _ _ _ h => h) ‹_› (by rfl) ?_ ?_
   rotate_left
   · (intro w' hSw; (try dsimp only at hSw); go_simp; try with_reducible rfl)
   try simp only [Act.put, sA, sB, sC, sD, sE, sF]
   refine tk 3 ?_ rfl (by kernel_rfl) (fun _ _ _ h => h) ‹_› (by rfl) ?_ ?_
   rotate_left
   · (intro w' hSw; (try dsimp only at hSw); go_simp; try with_reducible rfl)
   try simp only [Act.put, sA, sB, sC, sD, sE, sF]
   refine tk 4 ?_ rfl (by kernel_rfl) (fun _ _ _ h => h) ‹_› (by rfl) ?_ ?_
   rotate_left
   · (intro w' hSw; (try dsimp only at hSw); go_simp; try with_reducible rfl)
   try simp only [Act.put, sA, sB, sC, sD, sE, sF]
   refine tk 5 ?_ rfl (by kernel_rfl) (fun _ _ _ h => h) ‹_› (by rfl) ?_ ?_
   rotate_left
   · (intro w' hSw; (try dsimp only at hSw); go_simp; try with_reducible rfl)
   try simp only [Act.put, sA, sB, sC, sD, sE, sF]
   refine wpAnyT_tail (by kernel_rfl) ?_
   simp only [List.drop_succ_cons, List.drop_zero]
   go_wp2
   go_ret
   exact ⟨HFA.out, rfl⟩
 | none =>
   rw [hg] at hlkA HR
   replace hlkA : (Instr.lookup 46 (.map (some fb)) (.agg #[strV mod, strV f.nd.name]) false).run Tryz.prog WA.drew = .ok (.pointer none) WA.drew := hlkA
   have hHeld : (fun w' => w'.cell? ⟨nb, 2, none⟩ = some (.map (some fb)) ∧ w'.cell? ⟨kb, 0, none⟩ = some (strV mod) ∧ w'.cell? ⟨kb, 1, none⟩ = some (strV f.nd.name) ∧ (Instr.lookup 46 (.map (some fb)) (.agg #[strV mod, strV f.nd.name]) false).run Tryz.prog w' = .ok (.pointer none) w') WA.drew := ⟨c2, k0, k1, hlkA⟩
   refine wp_region_two (fun w' => w'.cell? ⟨nb, 2, none⟩ = some (.map (some fb)) ∧ w'.cell? ⟨kb, 0, none⟩ = some (strV mod) ∧ w'.cell? ⟨kb, 1, none⟩ = some (strV f.nd.name) ∧ (Instr.lookup 46 (.map (some fb)) (.agg #[strV mod, strV f.nd.name]) false).run Tryz.prog w' = .ok (.pointer none) w') 6 (by kernel_rfl) ?_
   refine tk 0 ?_ rfl (by kernel_rfl) (fun _ _ _ h => h) ‹_› (by rfl) ?_ ?_
   rotate_left
   · (intro w' hSw; (try dsimp only at hSw); go_simp; try with_reducible rfl)
   try simp only [Act.put, sA, sB, sC, sD, sE, sF]
   refine tk 1 ?_ rfl (by kernel_rfl) (fun _ _ _ h => h) ‹_› (by rfl) ?_ ?_
   rotate_left
   · (intro w' hSw; (try dsimp only at hSw); go_simp; try with_reducible rfl)
   try simp only [Act.put, sA, sB, sC, sD, sE, sF]
   refine tk 2 ?_ rfl (by kernel_rfl) (fun _ _ _ h => h) ‹_› (by rfl) ?_ ?_
   rotate_left
   · (intro w' hSw; (try dsimp only at hSw); go_simp; try with_reducible rfl)
   try simp only [Act.put, sA, sB, sC, sD, sE, sF]
   refine tk 3 ?_ rfl (by kernel_rfl) (fun _ _ _ h => h) ‹_› (by rfl) ?_ ?_
   rotate_left
   · (intro w' hSw; (try dsimp only at hSw); go_simp; try with_reducible rfl)
   try simp only [Act.put, sA, sB, sC, sD, sE, sF]
   refine tk 4 ?_ rfl (by kernel_rfl) (fun _ _ _ h => h) ‹_› (by rfl) ?_ ?_
   rotate_left
   · (intro w' hSw; (try dsimp only at hSw); go_simp; try with_reducible rfl)
   try simp only [Act.put, sA, sB, sC, sD, sE, sF]
   refine tk 5 ?_ rfl (by kernel_rfl) (fun _ _ _ h => h) ‹_› (by rfl) ?_ ?_
   rotate_left
   · (intro w' hSw; (try dsimp only at hSw); go_simp; try with_reducible rfl)
   try simp only [Act.put, sA, sB, sC, sD, sE, sF]
   refine wpAnyT_tail (by kernel_rfl) ?_
   simp only [List.drop_succ_cons, List.drop_zero]
   clear hHeld hlkA
   have hHeld : (fun w' => w'.cell? ⟨nb, 2, none⟩ = some (.map (some fb)) ∧ w'.cell? ⟨kb, 0, none⟩ = some (strV mod) ∧ w'.cell? ⟨kb, 1, none⟩ = some (strV f.nd.name)) WA.drew.drew := ⟨c2, k0, k1⟩
   go_wp2
   refine wp_region_two (fun w' => w'.cell? ⟨nb, 2, none⟩ = some (.map (some fb)) ∧ w'.cell? ⟨kb, 0, none⟩ = some (strV mod) ∧ w'.cell? ⟨kb, 1, none⟩ = some (strV f.nd.name)) 6 (by kernel_rfl) ?_
   refine tk 0 ?_ rfl (by kernel_rfl) (fun _ _ _ h => h) ‹_› (by rfl) ?_ ?_
   rotate_left
   · (intro w' hSw; (try dsimp only at hSw); go_simp; try with_reducible rfl)
   try simp only [Act.put, sA, sB, sC, sD, sE, sF]
   refine tk 1 ?_ rfl (by kernel_rfl) (fun _ _ _ h => h) ‹_› (by rfl) ?_ ?_
   rotate_left
   · (intro w' hSw; (try dsimp only at hSw); go_simp; try with_reducible rfl)
   try simp only [Act.put, sA, sB, sC, sD, sE, sF]
   refine tk 2 ?_ rfl (by kernel_rfl) (fun _ _ _ h => h) ‹_› (by rfl) ?_ ?_
   rotate_left
   · (intro w' hSw; (try dsimp only at hSw); go_simp; try with_reducible rfl)
   try simp only [Act.put, sA, sB, sC, sD, sE, sF]
   refine tk 3 ?_ rfl (by kernel_rfl) (fun _ _ _ h => h) ‹_› (by rfl) ?_ ?_
   rotate_left
   · (intro w' hSw; (try dsimp only at hSw); go_simp; try with_reducible rfl)
   try simp only [Act.put, sA, sB, sC, sD, sE, sF]
   refine tk 4 ?_ rfl (by kernel_rfl) (fun _ _ _ h => h) ‹_› (by rfl) ?_ ?_
   rotate_left
   · (intro w' hSw; (try dsimp only at hSw); go_simp; try with_reducible rfl)
   try simp only [Act.put, sA, sB, sC, sD, sE, sF]
   refine tk 5 ?_ rfl (by kernel_rfl) (fun _ _ _ h => h) ‹_› (by rfl) ?_ ?_
   rotate_left
   · (intro w' hSw; (try dsimp only at hSw); go_simp; try with_reducible rfl)
   try simp only [Act.put, sA, sB, sC, sD, sE, sF]
   refine wpAnyT_tail (by kernel_rfl) ?_
   simp only [List.drop_succ_cons, List.drop_zero]
   obtain ⟨W2, hrun2, hF2, hg2⟩ := (HSA.out.fm.keep (w' := WA.drew.drew) rfl).put (t := 46) full_keyed Tryz.underlying46 fullV_inj (by have := HN.out.2.2; unfold funM; simpa using this) (mod, f.nd.name) hkey (ptrV f)
   replace hrun2 : (Instr.mapUpdate 46 (.map (some fb)) (.agg #[strV mod, strV f.nd.name]) (ptrV f)).run Tryz.prog WA.drew.drew = .ok () W2 := hrun2
   have hS2 := HSA.out.drew.drew.put (x := (mod, f.nd.name)) (t := f) HLW.out HA.out hZf HFL.out hg2 hF2
   have HFR2 := Lib.hid (HFR.out.drew.drew.step hg2 (fun q e => .inl (.inr (by injection e with e; exact e.symm))))
   obtain ⟨hS3, hfr3⟩ := hS2.start HLW.out HA.out
   obtain ⟨uv2, sv2, hnm2⟩ := hS2.nm
   have c5 := cell_of_row W2 nb 5 _ _ (0, 0) hnm2
   have c6 := cell_of_row W2 nb 6 _ _ (0, 0) hnm2
   have f6 : ∀ i, W2.frozen? ⟨nb, i, none⟩ = false := fun i => by simp [World.frozen?, show W2.heap[nb]? = _ from hnm2]
   simp at c5 c6
   have hnb2 : nb < W2.heap.size := hnm2.lt
   have hnx : ¬ nb = W2.heap.size + 1 + 1 := by omega
   have hnb3 : nb < W2.heap.size + 1 := by omega
   have hnb4 : nb < W2.heap.size + 1 + 1 := by omega
   obtain ⟨a2, cc2, hh2, hs2, hq2⟩ := (hS2.node f HFL.out).open_
   have c8 := cell_of_row W2 f.b 8 _ _ (0, 0) hh2
   simp at c8
   have hfb2 : f.b < W2.heap.size := (Array.getElem?_eq_some_iff.1 hh2).1
   have hfb3 : f.b < W2.heap.size + 1 := by omega
   have hfb4 : f.b < W2.heap.size + 1 + 1 := by omega
   have hne : ¬ nb = f.b := fun e => HA.out.ne f HFL.out e.symm
   have HS3 := Lib.hid hS3
   have hz3 : W2.heap.size ≤ (begun W2 nb).heap.size := hfr3.size
   have HFR3 := Lib.hid (HFR2.out.then_ (D := fun q => NOwn l nb B q ∨ q = fb) hfr3 (fun q _ e => .inl (.inl (.inl e))))
   have HF3 := Lib.hid (show FMap (begun W2 nb) fb (funM (((mod, f.nd.name), f.b) :: fs)) from hF2.fr hfr3 (fun e => hS2.fne (.inl (.inl e))))
   have HFN := Lib.hid (And.intro hS2.fne (And.intro hS2.fl hS2.fin))
   have HB3 := Lib.hid (Bd.fresh HN.out.1)
   have HRL := Lib.hid (show Hg.nKids σ.fresh f.ks ≠ .error 0 from fun e => H0.out (by rw [← HR.out, e]))
   have HSL := Lib.hid (show Sl (begun W2 nb) (begun W2 nb).heap.size (.slice a2 f.ks.length cc2) f.ks.length (f.ks.map ptrV) from (hs2.fr (Nat.le_refl _) hfr3 (fun q e e' => HA.out.nbz (e' ▸ hq2 q e))).more hfr3.size)
   have HQ := Lib.hid (show ∀ q, (Value.slice a2 f.ks.length cc2).ownBlock = some q → ¬ NOwn l nb B q from fun q e e' => by
    have hz := hq2 q e
    rcases e' with (e' | ⟨s, hs, e'⟩) | e'
    ·
     exact HA.out.nbz (e' ▸ hz)
    ·
     exact HA.out.nz s hs (e' ▸ hz)
    ·
     have := HLW.out.z q hz; omega)
   unfold begun at HS3 HFR3 HF3 HSL
   clear hHeld k0 k1 c2 hS2 hS3 hfr3 hF2 hg2 hnm2 hh2 hs2 hq2 HFR HFR2 HSA HS
   go_wp2
   generalize World.alloc (World.alloc (World.alloc _ _) _) _ = w1 at HS3 HFR3 HF3 HSL ⊢
   have hkl : f.ks.length ≤ 1000000 := by
    have h1 := GT.len_le f.ks
    have h2 : f.subs.length = (GT.blocksL f.ks).length + 1 := by rw [GT.subs_eq, GT.blocksL_len]; rfl
    have h3 := HN.out.2.1
    omega
   generalize W2.heap.size = ub at HS3 ⊢
   have hqs : True := trivial
   clear c5 c6 f6 hnb2 hnx hnb3 hnb4 hfb2 hfb3 hfb4 hne hrun2 hmm
   go_loopw [45] (fun p wr => ∃ (j : Nat) (cvj svj : Value) (ρj : Nat → Nat) (σj : Hg.NmSt), p = .int .i64 (j : Int) ∧ j ≤ f.ks.length ∧ NS l nb Z B ids av next (.map (some fb)) mv ub cvj svj [ub + 1] ρj σj wr ∧ Bd σj (N + 1 + 2 * (GT.blocksL (f.ks.take j)).length) ∧ Fr (NOwn l nb B) w1 wr ∧ Hg.nKids σj (f.ks.drop j) = Hg.nKids σ.fresh f.ks) (fun p wr => f.ks.length - (intOf p).toNat)
   case atStart => exact ⟨0, _, _, _, _, rfl, Nat.zero_le _, HS3.out, by simpa [GT.blocksL, GT.subsL_nil] using HB3.out, Fr.refl _ _, rfl⟩
   case round =>
    obtain ⟨j, cvj, svj, ρj, σj, rfl, hj, hSj, hBj, hFj, hvj⟩ := hrel
    have HFJ := Lib.hid hFj
    have HBJ := Lib.hid hBj
    by_cases hlt : j < f.ks.length
    ·
     obtain ⟨b, o, rfl, _, kc⟩ := (HSL.out.fr (Nat.le_refl _) hFj HQ.out).mapAt hlt
     have hkm : f.ks[j] ∈ f.ks := List.getElem_mem hlt
     have hk : f.ks[j] ∈ l := HA.out.kids f HFL.out _ hkm
     have hsz : (GT.blocksL (f.ks.take (j + 1))).length = (GT.blocksL (f.ks.take j)).length + f.ks[j].subs.length := by rw [GT.blocksL_take hlt, List.length_append, GT.blocks_len]
     have hsz2 := GT.subsL_take_le f.ks (j + 1)
     have hlenk : f.subs.length = (GT.blocksL f.ks).length + 1 := by rw [GT.subs_eq, GT.blocksL_len]; rfl
     rw [List.drop_eq_getElem_cons hlt, Hg.nKids_cons] at hvj
     have hnn := HN.out.2.1
     have hsl1 : 1 ≤ f.ks[j].subs.length := by rw [GT.subs_eq]; simp
     have h0k : (if f.ks[j].nd.kind = 4 then σj.declare f.ks[j] else Hg.nVisit σj f.ks[j]) ≠ .error 0 := fun e => by rw [e] at hvj; exact HRL.out hvj.symm
     have TI := Lib.hid (show Calls Tryz.prog (if f.ks[j].nd.kind = 4 then 51 else 52) #[.pointer (some ⟨nb, 0, none⟩), ptrV f.ks[j]] wr (NRes l nb Z B ids av next (.map (some fb)) mv ub [ub + 1] (if f.ks[j].nd.kind = 4 then σj.declare f.ks[j] else Hg.nVisit σj f.ks[j]) wr) from by
      by_cases h4 : f.ks[j].nd.kind = 4
      ·
       rw [if_pos h4] at h0k ⊢
       rw [if_pos h4]
       exact declare_any l nb Z B HLW.out.z ids av next _ mv ub cvj svj _ ρj σj _ hk (HLEN.out _ hk).1 _ rfl h0k _ hBj (by omega) wr hSj
      ·
       rw [if_neg h4] at h0k ⊢
       rw [if_neg h4]
       exact visit_any l nb Z B HLW.out HA.out ids av next _ mv ub HLEN.out _ _ hk (Nat.le_refl _) cvj svj _ ρj σj _ wr h0k hBj (by omega) hSj)
     obtain ⟨ak, ck, hhk, -, -⟩ := (hSj.node _ hk).open_
     have c0 := cell_of_row wr f.ks[j].b 0 _ _ (0, 0) hhk
     simp at c0
     have HVJ := Lib.hid hvj
     have HSZ := Lib.hid hsz
     clear hkm hk hsz hsz2 h0k hSj hBj hFj hvj hhk hnn hsl1 hlenk
     by_cases h4 : f.ks[j].nd.kind = 4
     ·
      have q4 : ((f.ks[j].nd.kind : Int) == 4) = true := by simpa using (show (f.ks[j].nd.kind : Int) = 4 by omega)
      simp only [if_pos h4] at TI HVJ
      have HBK := Lib.hid (fun (σ' : Hg.NmSt) (e : (if f.ks[j].nd.kind = 4 then σj.declare f.ks[j] else Hg.nVisit σj f.ks[j]) = .ok σ') => HBJ.out.kid e)
      simp only [if_pos h4] at HBK
      clear h4
      go_wp2_with fail
      refine TI.out.mono ?_
      rintro e w3 ⟨hF3, hres⟩
      have HF3 := Lib.hid (HFJ.out.trans hF3)
      have hvj := HVJ.out
      cases hrk : σj.declare f.ks[j] with
      | error ek =>
        rw [hrk] at hres hvj
        replace hres : e = .returned (.int .i64 (errNo ek : Int)) := hres
        subst hres
        have hre : r = .error ek := by rw [← HR.out, ← hvj]
        have hq : ((errNo ek : Int) != 0) = true := by unfold errNo; split <;> rfl
        have HFW := Lib.hid (HFR3.out.then_ (D := fun q => NOwn l nb B q ∨ q = fb) HF3.out (fun q _ e => .inl e))
        subst hre
        clear TI HVJ hF3 hvj hrk HBK
        go_wp2
        go_ret
        exact ⟨HFW.out, rfl⟩
      | ok σ' =>
        rw [hrk] at hres hvj
        obtain ⟨rfl, cv', sv', ρ', hS'⟩ := hres
        have HS' := Lib.hid hS'
        have HVK := Lib.hid hvj
        have HBK2 := Lib.hid (HBK.out σ' hrk)
        clear TI HVJ hF3 hS' hvj hrk HBK
        go_wp2
        go_roundw
        case rel => exact ⟨j + 1, cv', sv', ρ', σ', by go_num, by omega, HS'.out, by rw [HSZ.out]; exact HBK2.out.more (by omega), HF3.out, HVK.out⟩
        case measure => simp [intOf]; omega
     ·
      have q4 : ((f.ks[j].nd.kind : Int) == 4) = false := by simpa using (show ¬ (f.ks[j].nd.kind : Int) = 4 by omega)
      simp only [if_neg h4] at TI HVJ
      have HBK := Lib.hid (fun (σ' : Hg.NmSt) (e : (if f.ks[j].nd.kind = 4 then σj.declare f.ks[j] else Hg.nVisit σj f.ks[j]) = .ok σ') => HBJ.out.kid e)
      simp only [if_neg h4] at HBK
      clear h4
      go_wp2_with fail
      refine TI.out.mono ?_
      rintro e w3 ⟨hF3, hres⟩
      have HF3 := Lib.hid (HFJ.out.trans hF3)
      have hvj := HVJ.out
      cases hrk : Hg.nVisit σj f.ks[j] with
      | error ek =>
        rw [hrk] at hres hvj
        replace hres : e = .returned (.int .i64 (errNo ek : Int)) := hres
        subst hres
        have hre : r = .error ek := by rw [← HR.out, ← hvj]
        have hq : ((errNo ek : Int) != 0) = true := by unfold errNo; split <;> rfl
        have HFW := Lib.hid (HFR3.out.then_ (D := fun q => NOwn l nb B q ∨ q = fb) HF3.out (fun q _ e => .inl e))
        subst hre
        clear TI HVJ hF3 hvj hrk HBK
        go_wp2
        go_ret
        exact ⟨HFW.out, rfl⟩
      | ok σ' =>
        rw [hrk] at hres hvj
        obtain ⟨rfl, cv', sv', ρ', hS'⟩ := hres
        have HS' := Lib.hid hS'
        have HVK := Lib.hid hvj
        have HBK2 := Lib.hid (HBK.out σ' hrk)
        clear TI HVJ hF3 hS' hvj hrk HBK
        go_wp2
        go_roundw
        case rel => exact ⟨j + 1, cv', sv', ρ', σ', by go_num, by omega, HS'.out, by rw [HSZ.out]; exact HBK2.out.more (by omega), HF3.out, HVK.out⟩
        case measure => simp [intOf]; omega
    ·
     obtain rfl : j = f.ks.length := by omega
     rw [List.drop_length, Hg.nKids_nil] at hvj
     have hre : r = .ok (((mod, f.nd.name), f.b) :: fs, σj) := by rw [← HR.out, ← hvj]
     have HDN := Lib.hid (show NB l nb Z B ids av next fb mv cvj ρj σj (((mod, f.nd.name), f.b) :: fs) wr from hSj.done (HF3.out.fr hFj HFN.out.1) HFN.out.2.1 (fun p hp => by
      rcases List.mem_cons.1 hp with e | e
      ·
       subst e; exact ⟨f, HFL.out, rfl⟩
      ·
       exact HFN.out.2.2 p (by simp [e])))
     have HFW := Lib.hid (HFR3.out.then_ (D := fun q => NOwn l nb B q ∨ q = fb) hFj (fun q _ e => .inl e))
     subst hre
     clear hSj hBj hFj hvj
     go_wp2
     go_ret
     exact ⟨HFW.out, rfl, _, _, HDN.out⟩
end Go.Proofs.YtoelmnamlnbdhaaGreatDoor
namespace Hg
theorem GT.mapL_eq (f : Nat → Nat) : ∀ l : List GT, GT.mapL f l = l.map (GT.map f)
 | [] => by rw [GT.mapL]; rfl
 | t :: l => by rw [GT.mapL, GT.mapL_eq f l]; rfl
theorem GT.map_b (f : Nat → Nat) (t : GT) : (t.map f).b = f t.b := by cases t; rw [GT.map]; rfl
theorem GT.map_nd (f : Nat → Nat) (t : GT) : (t.map f).nd = t.nd := by cases t; rw [GT.map]; rfl
theorem GT.map_md (f : Nat → Nat) (t : GT) : (t.map f).md = t.md := by cases t; rw [GT.map]; rfl
theorem GT.map_tt (f : Nat → Nat) (t : GT) : (t.map f).tt = t.tt := by cases t; rw [GT.map]; rfl
theorem GT.map_ks (f : Nat → Nat) (t : GT) : (t.map f).ks = t.ks.map (GT.map f) := by cases t; rw [GT.map, ← GT.mapL_eq]; rfl
abbrev lvlF (f : Nat → Nat) (m : List (Str × Nat)) : List (Str × Nat) := m.map fun p => (p.1, f p.2)
def NmSt.mapS (f : Nat → Nat) (σ : NmSt) : NmSt := ⟨σ.used, σ.scope.map (lvlF f), σ.refs.map (fun p => (f p.1, f p.2)), σ.calls.map (GT.map f)⟩
theorem findVar_map (f : Nat → Nat) (s : Str) : ∀ ms : List (List (Str × Nat)), findVar (ms.map (lvlF f)) s = (findVar ms s).map f
 | [] => rfl
 | m :: ms => by
   show (match inScope (lvlF f m) s with | some b => some b | none => findVar (ms.map (lvlF f)) s) = (match inScope m s with | some b => some b | none => findVar ms s).map f
   rw [inScope_gl, inScope_gl, findVar_map f s ms, show gl (lvlF f m) s = (gl m s).map f from gl_map f m s]
   cases gl m s <;> rfl
theorem declare_map (f : Nat → Nat) (σ : NmSt) (t : GT) : (σ.mapS f).declare (t.map f) = (σ.declare t).map (NmSt.mapS f) := by
 unfold NmSt.declare
 rw [GT.map_nd, GT.map_b]
 show (if t.nd.name ∈ σ.used then _ else match σ.scope.map (lvlF f) with | [] => Except.error 0 | l :: ls => _) = _
 by_cases hu : t.nd.name ∈ σ.used
 ·
  rw [if_pos hu, if_pos hu]; rfl
 ·
  rw [if_neg hu, if_neg hu]
  cases h : σ.scope with
  | nil => rfl
  | cons m ms => simp [NmSt.mapS, lvlF, Except.map]
theorem nHead_map (f : Nat → Nat) (σ : NmSt) (t : GT) : nHead (σ.mapS f) (t.map f) = (nHead σ t).map (NmSt.mapS f) := by
 unfold nHead
 rw [GT.map_nd, GT.map_b, GT.map_tt]
 by_cases k1 : t.nd.kind = 7 ∨ t.nd.kind = 15
 ·
  rw [if_pos k1, if_pos k1]
  show (match findVar (σ.scope.map (lvlF f)) t.tt with | none => Except.error 2 | some v => _) = _
  rw [findVar_map]
  cases findVar σ.scope t.tt with
  | none => rfl
  | some v => simp [NmSt.mapS, Except.map]
 rw [if_neg k1, if_neg k1]
 by_cases k2 : t.nd.kind = 19
 ·
  rw [if_pos k2, if_pos k2]; simp [NmSt.mapS, Except.map]
 rw [if_neg k2, if_neg k2]
 by_cases k3 : t.nd.kind = 5
 ·
  rw [if_pos k3, if_pos k3]; simp [NmSt.mapS, Except.map, lvlF]
 rw [if_neg k3, if_neg k3]
 rfl
theorem nTail_map (f : Nat → Nat) (σ : NmSt) (t : GT) : nTail (σ.mapS f) (t.map f) = (nTail σ t).map (NmSt.mapS f) := by
 unfold nTail
 rw [GT.map_nd]
 by_cases k1 : t.nd.kind = 5
 ·
  rw [if_pos k1, if_pos k1]; simp [NmSt.mapS, Except.map, List.map_drop]
 rw [if_neg k1, if_neg k1]
 by_cases k2 : t.nd.kind = 6
 ·
  rw [if_pos k2, if_pos k2, declare_map]
 rw [if_neg k2, if_neg k2]
 rfl
theorem nVisit_map (f : Nat → Nat) : ∀ n t, t.subs.length ≤ n → ∀ σ, nVisit (σ.mapS f) (t.map f) = (nVisit σ t).map (NmSt.mapS f) := by
 intro n
 induction n with
 | zero => intro t h; rw [GT.subs_eq] at h; simp at h
 | succ n ih =>
   intro t ht σ
   have key : ∀ (ks : List GT), (∀ k ∈ ks, k.subs.length ≤ n) → ∀ σ, nVisitL (σ.mapS f) (ks.map (GT.map f)) = (nVisitL σ ks).map (NmSt.mapS f) := by
    intro ks
    induction ks with
    | nil => intro _ σ; rw [List.map_nil, nVisitL_nil, nVisitL_nil]; rfl
    | cons k ks ihk =>
      intro hk σ
      rw [List.map_cons, nVisitL_cons, nVisitL_cons, ih k (hk k (by simp))]
      cases nVisit σ k with
      | error e => rfl
      | ok σ1 => exact ihk (fun x hx => hk x (by simp [hx])) σ1
   rw [nVisit_eq, nVisit_eq, nHead_map, GT.map_ks]
   cases nHead σ t with
   | error e => rfl
   | ok σ1 =>
     show (match nVisitL (σ1.mapS f) (t.ks.map (GT.map f)) with | .error e => Except.error e | .ok σ2 => nTail σ2 (t.map f)) = _
     rw [key t.ks (fun k hk => by have := GT.len_lt hk; omega)]
     show _ = Except.map (NmSt.mapS f) (match nVisitL σ1 t.ks with | .error e => Except.error e | .ok σ2 => nTail σ2 t)
     cases nVisitL σ1 t.ks with
     | error e => rfl
     | ok σ2 => exact nTail_map f σ2 t
theorem nKids_map (f : Nat → Nat) : ∀ (ks : List GT) (σ : NmSt), nKids (σ.mapS f) (ks.map (GT.map f)) = (nKids σ ks).map (NmSt.mapS f)
 | [], σ => by rw [List.map_nil, nKids_nil, nKids_nil]; rfl
 | k :: ks, σ => by
   rw [List.map_cons, nKids_cons, nKids_cons, GT.map_nd, declare_map, nVisit_map f _ k (Nat.le_refl _)]
   have e : (if k.nd.kind = 4 then (σ.declare k).map (NmSt.mapS f) else (nVisit σ k).map (NmSt.mapS f)) = (if k.nd.kind = 4 then σ.declare k else nVisit σ k).map (NmSt.mapS f) := by split <;> rfl
   rw [e]
   cases (if k.nd.kind = 4 then σ.declare k else nVisit σ k) with
   | error e => rfl
   | ok σ1 => exact nKids_map f ks σ1
abbrev funF (f : Nat → Nat) (fs : Funs) : Funs := fs.map fun p => (p.1, f p.2)
def bothF (f : Nat → Nat) (p : Funs × NmSt) : Funs × NmSt := (funF f p.1, p.2.mapS f)
theorem nFunc_map (f : Nat → Nat) (fs : Funs) (σ : NmSt) (mod : Str) (t : GT) : nFunc (funF f fs) (σ.mapS f) mod (t.map f) = (nFunc fs σ mod t).map (bothF f) := by
 rw [nFunc_eq, nFunc_eq, GT.map_nd, GT.map_b, GT.map_ks, show gl (funF f fs) (mod, t.nd.name) = (gl fs (mod, t.nd.name)).map f from gl_map f fs _]
 cases gl fs (mod, t.nd.name) with
 | some v => rfl
 | none =>
   show (match nKids (σ.mapS f).fresh (t.ks.map (GT.map f)) with | .error e => Except.error e | .ok σ1 => _) = Except.map (bothF f) (match nKids σ.fresh t.ks with | .error e => Except.error e | .ok σ1 => _)
   rw [show (σ.mapS f).fresh = σ.fresh.mapS f from rfl, nKids_map]
   cases nKids σ.fresh t.ks with
   | error e => rfl
   | ok σ1 => rfl
theorem nFuncs_map (f : Nat → Nat) (mod : Str) : ∀ (l : List GT) (fs : Funs) (σ : NmSt), nFuncs (funF f fs) (σ.mapS f) mod (l.map (GT.map f)) = (nFuncs fs σ mod l).map (bothF f)
 | [], fs, σ => rfl
 | t :: l, fs, σ => by
   rw [List.map_cons, nFuncs, nFuncs, nFunc_map]
   cases nFunc fs σ mod t with
   | error e => rfl
   | ok p => exact nFuncs_map f mod l p.1 p.2
theorem nMods_map (f : Nat → Nat) : ∀ (l : List GT) (ms : List Str) (fs : Funs) (σ : NmSt), nMods ms (funF f fs) (σ.mapS f) (l.map (GT.map f)) = (nMods ms fs σ l).map (bothF f)
 | [], ms, fs, σ => rfl
 | t :: l, ms, fs, σ => by
   rw [List.map_cons, nMods, nMods, GT.map_nd, GT.map_ks]
   by_cases hm : t.nd.name ∈ ms
   ·
    rw [if_pos hm, if_pos hm]; rfl
   rw [if_neg hm, if_neg hm, nFuncs_map]
   cases nFuncs fs σ t.nd.name t.ks with
   | error e => rfl
   | ok p => exact nMods_map f l _ p.1 p.2
abbrev refF (f : Nat → Nat) (r : List (Nat × Nat)) : List (Nat × Nat) := r.map fun p => (f p.1, f p.2)
theorem nCalls_cons (fs : Funs) (refs : List (Nat × Nat)) (c : GT) (l : List GT) : nCalls fs refs (c :: l) = match gl fs (c.md, c.tt) with
 | none => .error 2
 | some b => nCalls fs ((c.b, b) :: refs) l := by
 rw [nCalls]
 unfold gl
 cases fs.find? (·.1 == (c.md, c.tt)) <;> rfl
theorem nCalls_map (f : Nat → Nat) (fs : Funs) : ∀ (l : List GT) (refs : List (Nat × Nat)), nCalls (funF f fs) (refF f refs) (l.map (GT.map f)) = (nCalls fs refs l).map (refF f)
 | [], refs => rfl
 | c :: l, refs => by
   rw [List.map_cons, nCalls_cons, nCalls_cons, GT.map_md, GT.map_tt, GT.map_b, show gl (funF f fs) (c.md, c.tt) = (gl fs (c.md, c.tt)).map f from gl_map f fs _]
   cases gl fs (c.md, c.tt) with
   | none => rfl
   | some b => exact nCalls_map f fs l ((c.b, b) :: refs)
theorem nAll_map (f : Nat → Nat) (t : GT) : nAll (t.map f) = (nAll t).map (refF f) := by
 unfold nAll
 rw [GT.map_ks]
 have h := nMods_map f t.ks [] [] ⟨[], [], [], []⟩
 rw [show nMods [] [] ⟨[], [], [], []⟩ (t.ks.map (GT.map f)) = nMods [] (funF f []) (NmSt.mapS f ⟨[], [], [], []⟩) (t.ks.map (GT.map f)) from rfl, h]
 cases nMods [] [] ⟨[], [], [], []⟩ t.ks with
 | error e => rfl
 | ok p => exact nCalls_map f p.1 p.2.calls p.2.refs
mutual
theorem num_map (g : Nat → Nat) (n : Nat) : ∀ t : GT, num n (t.map g) = num n t
 | .mk b nd md tt ks => by rw [GT.map, num, num, numL_map g (n + 1) ks]
theorem numL_map (g : Nat → Nat) (n : Nat) : ∀ l : List GT, numL n (GT.mapL g l) = numL n l
 | [] => by rw [GT.mapL]
 | t :: ts => by rw [GT.mapL, numL, numL, num_map g n t, numL_map g _ ts]
end
theorem num_eq (ids : Nat → Nat) : ∀ m (t : GT), t.subs.length ≤ m → ∀ n, (∀ k b, (t.subs.map GT.b)[k]? = some b → ids b = n + k) → num n t = (t.map ids, n + t.subs.length) := by
 intro m
 induction m with
 | zero => intro t h; rw [GT.subs_eq] at h; simp at h
 | succ m ih =>
   intro t ht n hi
   have key : ∀ (l : List GT), (∀ k ∈ l, k.subs.length ≤ m) → ∀ n, (∀ k b, ((GT.subsL l).map GT.b)[k]? = some b → ids b = n + k) → numL n l = (l.map (GT.map ids), n + (GT.subsL l).length) := by
    intro l
    induction l with
    | nil => intro _ n _; rw [numL]; rfl
    | cons k l ihl =>
      intro hk n hi
      rw [numL, GT.subsL_cons] at *
      have h1 := ih k (hk k (by simp)) n (fun j b hj => hi j b (by
       rw [List.map_append, List.getElem?_append_left (by have := (List.getElem?_eq_some_iff.1 hj).1; exact this)]; exact hj))
      rw [h1]
      dsimp only
      have h2 := ihl (fun x hx => hk x (by simp [hx])) (n + k.subs.length) (fun j b hj => by
       have := hi (k.subs.length + j) b (by
        rw [List.map_append, List.getElem?_append_right (by simp)]
        simpa using hj)
       omega)
      rw [h2]
      simp [Nat.add_assoc]
   cases t with
   | mk b nd md tt ks =>
     rw [GT.subs_eq] at hi ht
     have hb : ids b = n := by simpa [GT.b] using hi 0 b (by simp [GT.b])
     have hk := key ks (fun k hk => by
      have h1 := GT.len_lt (t := .mk b nd md tt ks) (k := k) hk
      have h2 := ht
      rw [← GT.subs_eq] at h2
      omega) (n + 1) (fun k b' hk => by
       have := hi (k + 1) b' (by simpa [GT.ks] using hk)
       omega)
     rw [num, hk, GT.subs_eq, GT.map, GT.mapL_eq, hb]
     simp [GT.ks]
     omega
theorem GT.subs_map (f : Nat → Nat) : ∀ m (t : GT), t.subs.length ≤ m → (t.map f).subs = t.subs.map (GT.map f) := by
 intro m
 induction m with
 | zero => intro t h; rw [GT.subs_eq] at h; simp at h
 | succ m ih =>
   intro t ht
   have key : ∀ (l : List GT), (∀ k ∈ l, k.subs.length ≤ m) → GT.subsL (l.map (GT.map f)) = (GT.subsL l).map (GT.map f) := by
    intro l
    induction l with
    | nil => intro _; rw [List.map_nil, GT.subsL_nil]; rfl
    | cons k l ihl =>
      intro hk
      rw [List.map_cons, GT.subsL_cons, GT.subsL_cons, List.map_append, ih k (hk k (by simp)), ihl (fun x hx => hk x (by simp [hx]))]
   rw [GT.subs_eq, GT.subs_eq t, GT.map_ks, key t.ks (fun k hk => by have := GT.len_lt hk; omega)]
   rfl
end Hg
